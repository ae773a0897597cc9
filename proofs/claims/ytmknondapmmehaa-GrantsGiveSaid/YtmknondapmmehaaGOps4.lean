import Derived.Test.YtmknondapmmehaaGOps3
import Derived.Laws.AppendOwn
set_option linter.unusedVariables false
set_option linter.unusedSimpArgs false
namespace Go.G
variable {T : Uni}
section
variable {C : Ctx} {o : Oper} {σ : St T} {lo hi : Nat}

/-- A store into an element of a row. -/
theorem kv_store_elm {t : TypeId} {x y : Operand} {Xx Yy : Opd T} {m : Nat} {nm f : Nat} {i : Int} {u0 u : T.U} {q : PV T} {new : List (CV T)} {l : List (T.El u)} {y0 y1 : T.El u} {xs : List (DV T.toSig)} {shs : List (Option T.U)} (ho : o.op = .store t x y) (hd : o.dst = none) (hx : cOpd x = some Xx) (hy : cOpd y = some Yy) (hm : tySz C.P t = some m)
    (h1 : Rd σ Xx (.one (.elm u0 nm i f))) (h2 : Rd σ Yy q) (hq : pcells q = some new) (hl : new.length = m) (hb : look σ (.h nm) = some (.r u l false)) (hu : u0 = u) (hi0 : dat l i = some y0)
    (hrow : rowOf σ shs new = some (xs, [])) (hdec : T.dec u ((T.enc u y0).take f ++ xs ++ (T.enc u y0).drop (f + m)) = some y1) (hfm : f + m ≤ T.size u) :
    KValid C o σ (Xx.slots ++ Yy.slots) .junk [.h nm] [(.h nm, some (.r u (dset l i y1) false))] lo lo := by
  intro σ' g1 g2 γ a w hi hs _ Q
  subst hu
  have e1 := Rd.rep hs hx (fun j hj => g1 j (left hj)) h1
  have e2 := Rd.rep hs hy (fun j hj => g1 j (right hj)) h2
  have e3 := pcells_rep hq e2
  simp only [RepP, RepC] at e1
  obtain ⟨b, off, L, cap, hbt, i0, i1, e1⟩ := e1
  have hlk := (g2 _ (by simp)).trans hb
  obtain ⟨A, cap', f1, f2, f3⟩ := hs.facts (.h nm) (.r u0 l false) hlk
  rw [hbt] at f1; cases f1
  obtain ⟨d0, d1, d2⟩ := dat_some hi0
  rcases f3 with ⟨_, f3⟩ | ⟨b', off', c, ty, k1, k2, k3, k4, k5, k6, k7⟩
  · subst f3; simp at d1; omega
  · cases k1
    simp only [Bool.false_eq_true, if_false, Nat.add_zero] at k6
    have hin : i.toNat < l.length := getElem?_lt d2
    have hpos : off + i.toNat * T.size u0 + T.size u0 ≤ c.size := by
      have h3 : (i.toNat + 1) * T.size u0 ≤ cap * T.size u0 := Nat.mul_le_mul_right _ (by omega)
      rw [Nat.add_mul] at h3
      omega
    have hnl : (a.eval y).cells.size = m := by have := e3.length; simp at this; omega
    have hln : (a.eval y).cells.toList.length = m := by simpa using hnl
    have hst := run_storeCells_at C.P b (off + i.toNat * T.size u0 + f) ty (a.eval y).cells.toList 0 c w k4 (by rw [hln]; omega) e3.one
    simp only [Nat.add_zero, hln] at hst
    have hrun : (Instr.storeAt t (a.eval x) (a.eval y)).run C.P w = .ok () (w.setRow b (c.toList.take (off + i.toNat * T.size u0 + f) ++ (a.eval y).cells.toList ++ c.toList.drop (off + i.toNat * T.size u0 + f + m)).toArray) := by
      rw [e1]
      simp only [Instr.storeAt, Instr.sureAddr, Sem.run_bind, Sem.run_pure, Result.andThen_ok, storeVar, run_sizeOf hm, Sem.run_ite, hnl, ne_eq, not_true_eq_false, if_false, hst]
    have hcs : ∀ k, (c.toList.take (off + i.toNat * T.size u0 + f) ++ (a.eval y).cells.toList ++ c.toList.drop (off + i.toNat * T.size u0 + f + m)).toArray[k]? = if k < off + i.toNat * T.size u0 + f then c[k]? else if k < off + i.toNat * T.size u0 + f + m then (a.eval y).cells[k - (off + i.toNat * T.size u0 + f)]? else c[k]? := by
      intro k
      rw [List.getElem?_toArray]
      by_cases hk : k < off + i.toNat * T.size u0 + f
      · rw [if_pos hk, List.append_assoc, List.getElem?_append_left (by simp; omega), List.getElem?_take_of_lt hk, Array.getElem?_toList]
      · rw [if_neg hk]
        by_cases hk2 : k < off + i.toNat * T.size u0 + f + m
        · rw [if_pos hk2, List.getElem?_append_left (by simp; omega), List.getElem?_append_right (by simp; omega), ← Array.getElem?_toList]
          congr 1
          simp; omega
        · rw [if_neg hk2, List.getElem?_append_right (by simp; omega), List.getElem?_drop, Array.getElem?_toList]
          congr 1
          simp; omega
    have hE : Evo (fun n => n = nm) γ w γ (w.setRow b (c.toList.take (off + i.toNat * T.size u0 + f) ++ (a.eval y).cells.toList ++ c.toList.drop (off + i.toNat * T.size u0 + f + m)).toArray) :=
      Evo.setRow k4 k2 fun k hk => by rw [hcs k, if_pos (by omega)]
    have hxl : xs.length = m := by rw [(rowOf_len hrow).1, hl]
    obtain ⟨γ1, a1, a2, a3, a4, _⟩ := rowOf_rep (S := []) hrow (fun nm hm => by cases hm) (fun nm hm => by cases hm) e3
    have hxs : RepDs γ.imm w xs (a.eval y).cells.toList := by
      -- freezing nothing changes nothing that is asked
      have key : ∀ {shs : List (Option T.U)} {cs : List (CV T)} {xs : List (DV T.toSig)} {vs : List Value}, rowOf σ shs cs = some (xs, []) → RepCs γ w cs vs → RepDs γ.imm w xs vs := by
        intro shs
        induction shs with
        | nil =>
          intro cs xs vs h hr
          cases cs with
          | nil =>
            simp only [rowOf, Option.some.injEq, Prod.mk.injEq] at h
            obtain ⟨rfl, _⟩ := h
            cases vs with
            | nil => trivial
            | cons _ _ => exact hr.elim
          | cons _ _ => simp [rowOf] at h
        | cons sh shs ih =>
          intro cs xs vs h hr
          cases cs with
          | nil => simp [rowOf] at h
          | cons cc cs =>
            simp only [rowOf] at h
            split at h
            · rename_i x fs hx'
              split at h
              · rename_i ys gs hy'
                simp only [Option.some.injEq, Prod.mk.injEq, List.append_eq_nil_iff] at h
                obtain ⟨rfl, rfl, rfl⟩ := h
                cases vs with
                | nil => exact hr.elim
                | cons v vs =>
                  refine ⟨?_, ih hy' hr.2⟩
                  cases cc with
                  | d y => simp only [cvD, Option.some.injEq, Prod.mk.injEq] at hx'; obtain ⟨rfl, _⟩ := hx'; exact hr.1
                  | nl =>
                    cases sh with
                    | none => simp [cvD] at hx'
                    | some u =>
                      simp only [cvD, Option.some.injEq, Prod.mk.injEq] at hx'
                      obtain ⟨rfl, _⟩ := hx'
                      obtain ⟨A, h⟩ := hr.1
                      subst h
                      exact .nil _ _ _
                  | own u0 nm => simp only [cvD] at hx'; split at hx' <;> simp at hx'
                  | buf u0 nm off len => simp only [cvD] at hx'; split at hx' <;> try simp at hx'
                                         split at hx' <;> try simp at hx'
                  | _ => cases sh <;> simp [cvD] at hx'
              · cases h
            · cases h
      exact key hrow e3
    have hE' := T.dec_enc u0 _ _ hdec
    unfold Oper.wp execOp
    simp only [ho, Sem.run_bind, hrun, Result.andThen_ok, Sem.run_pure, Oper.upon_skip]
    refine ⟨γ, undef, fun n => n = nm, rfl, (by intro d hd'; rw [hd] at hd'; cases hd'), hE, fun n hn => ?_, fun l' f' hm' => ?_, fun _ _ => rfl, fun _ _ h => .inr h, fun k hk => hi.ok k (by rw [setRow_size] at hk; exact hk), .refl _ _ _⟩
    · subst hn
      exact ⟨hs.perm _ _ hlk, by simp [locs]⟩
    · simp only [List.mem_singleton, Prod.mk.injEq, Option.some.injEq] at hm'
      obtain ⟨rfl, rfl⟩ := hm'
      refine ⟨nm, rfl, hs.perm _ _ hlk, fun tm => ⟨_, cap, by rw [hbt]; simp [dset], by simpa [dset] using f2, .inr ⟨b, off, _, ty, rfl, k2, by rw [setRow_size]; exact k3, setRow_heap _ _ _ _ _ _ k4, ?_, by simpa using k6, ?_⟩⟩⟩
      · simp; omega
      · intro j z hz
        have hcell : ∀ p, (w.setRow b (c.toList.take (off + i.toNat * T.size u0 + f) ++ (a.eval y).cells.toList ++ c.toList.drop (off + i.toNat * T.size u0 + f + m)).toArray).cell? ⟨b, p, none⟩ = if p < off + i.toNat * T.size u0 + f then c[p]? else if p < off + i.toNat * T.size u0 + f + m then (a.eval y).cells[p - (off + i.toNat * T.size u0 + f)]? else c[p]? := fun p => by
          rw [cell_setRow_same _ _ _ _ _ _ _ k4, hcs]
        have hold : ∀ p, w.cell? ⟨b, p, none⟩ = c[p]? := fun p => by simp [World.cell?, k4]
        simp only [dset, List.getElem?_set] at hz
        split at hz
        · rename_i hji
          subst hji
          simp only [hin, if_true, Option.some.injEq] at hz
          subst hz
          rw [hE']
          intro p d hd'
          have hyl := T.enc_len u0 y0
          by_cases hp : p < f
          · rw [List.append_assoc, List.getElem?_append_left (by simp; omega), List.getElem?_take_of_lt hp] at hd'
            obtain ⟨v, v1, v2⟩ := k7 _ _ d2 p d hd'
            refine ⟨v, ?_, v2.evo hE.toDEvo⟩
            rw [hcell, if_pos (by omega), ← hold]; exact v1
          · by_cases hp2 : p < f + m
            · rw [List.getElem?_append_left (by simp; omega), List.getElem?_append_right (by simp; omega)] at hd'
              obtain ⟨v, v1, v2⟩ := hxs.get hd'
              refine ⟨v, ?_, v2.evo hE.toDEvo⟩
              rw [hcell, if_neg (by omega), if_pos (by omega), ← Array.getElem?_toList, ← v1]
              congr 1
              simp; omega
            · rw [List.getElem?_append_right (by simp; omega), List.getElem?_drop] at hd'
              have hix : f + m + (p - ((T.enc u0 y0).take f ++ xs).length) = p := by simp; omega
              rw [hix] at hd'
              obtain ⟨v, v1, v2⟩ := k7 _ _ d2 p d hd'
              refine ⟨v, ?_, v2.evo hE.toDEvo⟩
              rw [hcell, if_neg (by omega), if_neg (by omega), ← hold]; exact v1
        · rename_i hji
          intro p d hd'
          obtain ⟨v, v1, v2⟩ := k7 _ _ hz p d hd'
          refine ⟨v, ?_, v2.evo hE.toDEvo⟩
          have hp := getElem?_lt hd'
          rw [T.enc_len] at hp
          have hne : j < i.toNat ∨ i.toNat < j := by omega
          have hout : off + j * T.size u0 + p < off + i.toNat * T.size u0 + f ∨ off + i.toNat * T.size u0 + f + m ≤ off + j * T.size u0 + p := by
            rcases hne with h | h
            · left
              have h3 : (j + 1) * T.size u0 ≤ i.toNat * T.size u0 := Nat.mul_le_mul_right _ h
              rw [Nat.add_mul] at h3; omega
            · right
              have h3 : (i.toNat + 1) * T.size u0 ≤ j * T.size u0 := Nat.mul_le_mul_right _ h
              rw [Nat.add_mul] at h3; omega
          rw [hcell]
          rcases hout with h | h
          · rw [if_pos h, ← hold]; exact v1
          · rw [if_neg (by omega), if_neg (by omega), ← hold]; exact v1
end
end Go.G
