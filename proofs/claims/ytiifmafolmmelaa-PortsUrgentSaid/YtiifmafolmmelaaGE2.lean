import Derived.Test.YtiifmafolmmelaaGE1
import Derived.Laws.AppendOwn
import Derived.MapKept
import Derived.Laws.MakeOwn
set_option linter.unusedVariables false
set_option linter.unusedSimpArgs false
namespace Go.G
variable {T : Uni}
section
variable {C : Ctx} {o : Oper} {σ : St T} {lo hi : Nat}

/-- A store into an element of a row. -/
theorem kv_store_elm {t : TypeId} {x y : Operand} {Xx Yy : Opd T} {m : Nat} {nm f : Nat} {i : Int} {u0 u : T.U} {q : PV T} {new : List (CV T)} {l : List (T.El u)} {y0 y1 : T.El u} {xs : List (DV T.toSig)} {shs : List (Option T.U)} (ho : o.op = .store t x y) (hd : o.dst = none) (hx : cOpd x = some Xx) (hy : cOpd y = some Yy) (hm : tySz C.P t = some m)
    (h1 : Rd σ Xx (.one (.elm u0 nm i f))) (h2 : Rd σ Yy q) (hq : pcells q = some new) (hl : new.length = m) (hb : look σ (.h nm) = some (.r u l false)) (hu : u0 = u) (hi0 : dat l i = some y0)
    (hrow : rowOf σ shs new = some (xs, [])) (hdec : T.dec u ((T.enc u y0).take f ++ xs ++ (T.enc u y0).drop (f + m)) = some y1) (hfm : f + m ≤ T.size u) :
    KValid C o σ (Xx.slots ++ Yy.slots) .junk [.h nm] [(.h nm, some (.r u (dset l i y1) false))] lo lo := by
  intro σ' g1 g2 γ a w hi hs _ Q
  subst hu
  have e1 := Rd.rep hs hx (fun j hj => g1 j (left hj)) h1
  have e2 := Rd.rep hs hy (fun j hj => g1 j (right hj)) h2
  have e3 := pcells_rep hq e2
  simp only [RepP, RepC] at e1
  obtain ⟨b, off, L, cap, hbt, i0, i1, e1⟩ := e1
  have hlk := (g2 _ (by simp)).trans hb
  obtain ⟨A, cap', f1, f2, f3⟩ := hs.facts (.h nm) (.r u0 l false) hlk
  rw [hbt] at f1; cases f1
  obtain ⟨d0, d1, d2⟩ := dat_some hi0
  rcases f3 with ⟨_, f3⟩ | ⟨b', off', c, ty, k1, k2, k3, k4, k5, k6, k7⟩
  · subst f3; simp at d1; omega
  · cases k1
    simp only [Bool.false_eq_true, if_false, Nat.add_zero] at k6
    have hin : i.toNat < l.length := getElem?_lt d2
    have hpos : off + i.toNat * T.size u0 + T.size u0 ≤ c.size := by
      have h3 : (i.toNat + 1) * T.size u0 ≤ cap * T.size u0 := Nat.mul_le_mul_right _ (by omega)
      rw [Nat.add_mul] at h3
      omega
    have hnl : (a.eval y).cells.size = m := by have := e3.length; simp at this; omega
    have hln : (a.eval y).cells.toList.length = m := by simpa using hnl
    have hst := run_storeCells_at C.P b (off + i.toNat * T.size u0 + f) ty (a.eval y).cells.toList 0 c w k4 (by rw [hln]; omega) e3.one
    simp only [Nat.add_zero, hln] at hst
    have hrun : (Instr.storeAt t (a.eval x) (a.eval y)).run C.P w = .ok () (w.setRow b (c.toList.take (off + i.toNat * T.size u0 + f) ++ (a.eval y).cells.toList ++ c.toList.drop (off + i.toNat * T.size u0 + f + m)).toArray) := by
      rw [e1]
      simp only [Instr.storeAt, Instr.sureAddr, Sem.run_bind, Sem.run_pure, Result.andThen_ok, storeVar, run_sizeOf hm, Sem.run_ite, hnl, ne_eq, not_true_eq_false, if_false, hst]
    have hcs : ∀ k, (c.toList.take (off + i.toNat * T.size u0 + f) ++ (a.eval y).cells.toList ++ c.toList.drop (off + i.toNat * T.size u0 + f + m)).toArray[k]? = if k < off + i.toNat * T.size u0 + f then c[k]? else if k < off + i.toNat * T.size u0 + f + m then (a.eval y).cells[k - (off + i.toNat * T.size u0 + f)]? else c[k]? := by
      intro k
      rw [List.getElem?_toArray]
      by_cases hk : k < off + i.toNat * T.size u0 + f
      · rw [if_pos hk, List.append_assoc, List.getElem?_append_left (by simp; omega), List.getElem?_take_of_lt hk, Array.getElem?_toList]
      · rw [if_neg hk]
        by_cases hk2 : k < off + i.toNat * T.size u0 + f + m
        · rw [if_pos hk2, List.getElem?_append_left (by simp; omega), List.getElem?_append_right (by simp; omega), ← Array.getElem?_toList]
          congr 1
          simp; omega
        · rw [if_neg hk2, List.getElem?_append_right (by simp; omega), List.getElem?_drop, Array.getElem?_toList]
          congr 1
          simp; omega
    have hE : Evo (fun n => n = nm) γ w γ (w.setRow b (c.toList.take (off + i.toNat * T.size u0 + f) ++ (a.eval y).cells.toList ++ c.toList.drop (off + i.toNat * T.size u0 + f + m)).toArray) :=
      Evo.setRow k4 k2 fun k hk => by rw [hcs k, if_pos (by omega)]
    have hxl : xs.length = m := by rw [(rowOf_len hrow).1, hl]
    obtain ⟨γ1, a1, a2, a3, a4, _⟩ := rowOf_rep (S := []) hrow (fun nm hm => by cases hm) (fun nm hm => by cases hm) e3
    have hxs : RepDs γ.imm w xs (a.eval y).cells.toList := by
      -- freezing nothing changes nothing that is asked
      have key : ∀ {shs : List (Option T.U)} {cs : List (CV T)} {xs : List (DV T.toSig)} {vs : List Value}, rowOf σ shs cs = some (xs, []) → RepCs γ w cs vs → RepDs γ.imm w xs vs := by
        intro shs
        induction shs with
        | nil =>
          intro cs xs vs h hr
          cases cs with
          | nil =>
            simp only [rowOf, Option.some.injEq, Prod.mk.injEq] at h
            obtain ⟨rfl, _⟩ := h
            cases vs with
            | nil => trivial
            | cons _ _ => exact hr.elim
          | cons _ _ => simp [rowOf] at h
        | cons sh shs ih =>
          intro cs xs vs h hr
          cases cs with
          | nil => simp [rowOf] at h
          | cons cc cs =>
            simp only [rowOf] at h
            split at h
            · rename_i x fs hx'
              split at h
              · rename_i ys gs hy'
                simp only [Option.some.injEq, Prod.mk.injEq, List.append_eq_nil_iff] at h
                obtain ⟨rfl, rfl, rfl⟩ := h
                cases vs with
                | nil => exact hr.elim
                | cons v vs =>
                  refine ⟨?_, ih hy' hr.2⟩
                  cases cc with
                  | d y => simp only [cvD, Option.some.injEq, Prod.mk.injEq] at hx'; obtain ⟨rfl, _⟩ := hx'; exact hr.1
                  | nl =>
                    cases sh with
                    | none => simp [cvD] at hx'
                    | some u =>
                      simp only [cvD, Option.some.injEq, Prod.mk.injEq] at hx'
                      obtain ⟨rfl, _⟩ := hx'
                      obtain ⟨A, h⟩ := hr.1
                      subst h
                      exact .nil _ _ _
                  | own u0 nm => simp only [cvD] at hx'; split at hx' <;> simp at hx'
                  | buf u0 nm off len => simp only [cvD] at hx'; split at hx' <;> try simp at hx'
                                         split at hx' <;> try simp at hx'
                  | _ => cases sh <;> simp [cvD] at hx'
              · cases h
            · cases h
      exact key hrow e3
    have hE' := T.dec_enc u0 _ _ hdec
    unfold Oper.wp execOp
    simp only [ho, Sem.run_bind, hrun, Result.andThen_ok, Sem.run_pure, Oper.upon_skip]
    refine ⟨γ, undef, fun n => n = nm, rfl, (by intro d hd'; rw [hd] at hd'; cases hd'), hE, fun n hn => ?_, fun l' f' hm' => ?_, fun _ _ => rfl, fun _ _ h => .inr h, fun k hk => hi.ok k (by rw [setRow_size] at hk; exact hk), .refl _ _ _⟩
    · subst hn
      exact ⟨hs.perm _ _ hlk, by simp [locs]⟩
    · simp only [List.mem_singleton, Prod.mk.injEq, Option.some.injEq] at hm'
      obtain ⟨rfl, rfl⟩ := hm'
      refine ⟨nm, rfl, hs.perm _ _ hlk, fun tm => ⟨_, cap, by rw [hbt]; simp [dset], by simpa [dset] using f2, .inr ⟨b, off, _, ty, rfl, k2, by rw [setRow_size]; exact k3, setRow_heap _ _ _ _ _ _ k4, ?_, by simpa using k6, ?_⟩⟩⟩
      · simp; omega
      · intro j z hz
        have hcell : ∀ p, (w.setRow b (c.toList.take (off + i.toNat * T.size u0 + f) ++ (a.eval y).cells.toList ++ c.toList.drop (off + i.toNat * T.size u0 + f + m)).toArray).cell? ⟨b, p, none⟩ = if p < off + i.toNat * T.size u0 + f then c[p]? else if p < off + i.toNat * T.size u0 + f + m then (a.eval y).cells[p - (off + i.toNat * T.size u0 + f)]? else c[p]? := fun p => by
          rw [cell_setRow_same _ _ _ _ _ _ _ k4, hcs]
        have hold : ∀ p, w.cell? ⟨b, p, none⟩ = c[p]? := fun p => by simp [World.cell?, k4]
        simp only [dset, List.getElem?_set] at hz
        split at hz
        · rename_i hji
          subst hji
          simp only [hin, if_true, Option.some.injEq] at hz
          subst hz
          rw [hE']
          intro p d hd'
          have hyl := T.enc_len u0 y0
          by_cases hp : p < f
          · rw [List.append_assoc, List.getElem?_append_left (by simp; omega), List.getElem?_take_of_lt hp] at hd'
            obtain ⟨v, v1, v2⟩ := k7 _ _ d2 p d hd'
            refine ⟨v, ?_, v2.evo hE.toDEvo⟩
            rw [hcell, if_pos (by omega), ← hold]; exact v1
          · by_cases hp2 : p < f + m
            · rw [List.getElem?_append_left (by simp; omega), List.getElem?_append_right (by simp; omega)] at hd'
              obtain ⟨v, v1, v2⟩ := hxs.get hd'
              refine ⟨v, ?_, v2.evo hE.toDEvo⟩
              rw [hcell, if_neg (by omega), if_pos (by omega), ← Array.getElem?_toList, ← v1]
              congr 1
              simp; omega
            · rw [List.getElem?_append_right (by simp; omega), List.getElem?_drop] at hd'
              have hix : f + m + (p - ((T.enc u0 y0).take f ++ xs).length) = p := by simp; omega
              rw [hix] at hd'
              obtain ⟨v, v1, v2⟩ := k7 _ _ d2 p d hd'
              refine ⟨v, ?_, v2.evo hE.toDEvo⟩
              rw [hcell, if_neg (by omega), if_neg (by omega), ← hold]; exact v1
        · rename_i hji
          intro p d hd'
          obtain ⟨v, v1, v2⟩ := k7 _ _ hz p d hd'
          refine ⟨v, ?_, v2.evo hE.toDEvo⟩
          have hp := getElem?_lt hd'
          rw [T.enc_len] at hp
          have hne : j < i.toNat ∨ i.toNat < j := by omega
          have hout : off + j * T.size u0 + p < off + i.toNat * T.size u0 + f ∨ off + i.toNat * T.size u0 + f + m ≤ off + j * T.size u0 + p := by
            rcases hne with h | h
            · left
              have h3 : (j + 1) * T.size u0 ≤ i.toNat * T.size u0 := Nat.mul_le_mul_right _ h
              rw [Nat.add_mul] at h3; omega
            · right
              have h3 : (i.toNat + 1) * T.size u0 ≤ j * T.size u0 := Nat.mul_le_mul_right _ h
              rw [Nat.add_mul] at h3; omega
          rw [hcell]
          rcases hout with h | h
          · rw [if_pos h, ← hold]; exact v1
          · rw [if_neg (by omega), if_neg (by omega), ← hold]; exact v1
end
end Go.G
namespace Go.G
variable {T : Uni}
section
variable {C : Ctx} {o : Oper} {σ : St T} {lo hi : Nat}

/-! ### Composite values -/
def cParts (place : Nat → Option (Nat × Nat)) : List (Nat × Operand) → Option (List (Nat × Nat × Opd T))
  | [] => some []
  | (i, x) :: r => match place i, cOpd x, cParts place r with
    | some (off, size), some y, some ys => some ((off, size, y) :: ys)
    | _, _, _ => none

def Rdps (σ : St T) : List (Nat × Nat × Opd T) → List (Nat × Nat × List (CV T)) → Prop
  | [], [] => True
  | (off, size, x) :: r, (off', size', cs) :: qs => off' = off ∧ size' = size ∧ (∃ p, Rd σ x p ∧ pcells p = some cs) ∧ Rdps σ r qs
  | _, _ => False

theorem rdps_inv {X : Type} {r : X} : ∀ {xs : List (Nat × Nat × Opd T)} {K : List (Nat × Nat × List (CV T)) → Option X}, rdps σ xs K = some r → ∃ qs, Rdps σ xs qs ∧ K qs = some r
  | [], _, h => ⟨[], trivial, h⟩
  | (off, size, x) :: xs, K, h => by
    obtain ⟨p, hp, h⟩ := rdv_inv (x := x) h
    split at h
    · rename_i cs hcs
      obtain ⟨qs, h1, h2⟩ := rdps_inv h
      exact ⟨(off, size, cs) :: qs, ⟨rfl, rfl, ⟨p, hp, hcs⟩, h1⟩, h2⟩
    · cases h

theorem foldl_set_list (off : Nat) (l : List Value) (cs : Array Value) (h : off + l.length ≤ cs.size) :
    ((l.zipIdx 0).foldl (fun cs (x : Value × Nat) => cs.setIfInBounds (off + x.2) x.1) cs).toList = cs.toList.take off ++ l ++ cs.toList.drop (off + l.length) := by
  obtain ⟨h1, h2⟩ := Go.Great.foldl_set off l 0 cs
  apply List.ext_getElem?
  intro k
  rw [Array.getElem?_toList, h2 k]
  by_cases hk : k < off
  · rw [if_neg (by omega), List.append_assoc, List.getElem?_append_left (by simp; omega), List.getElem?_take_of_lt hk, Array.getElem?_toList]
  · by_cases hk2 : k < off + l.length
    · rw [if_pos (by omega), List.getElem?_append_left (by simp; omega), List.getElem?_append_right (by simp; omega)]
      congr 1
      simp; omega
    · rw [if_neg (by omega), List.getElem?_append_right (by simp; omega), List.getElem?_drop, Array.getElem?_toList]
      congr 1
      simp; omega

theorem fill_rep {γ : Gh} {w : World} {E : Entry} {N : Nat} {a : Act} {σ' : St T} (hs : Sat E N γ w a σ') (place : Nat → Option (Nat × Nat)) :
    ∀ (os : List (Nat × Operand)) (xs : List (Nat × Nat × Opd T)) (qs : List (Nat × Nat × List (CV T))) (z : List (CV T)) (cells : Array Value) (out : List (CV T)), cParts place os = some xs →
      (∀ i ∈ Opd.all (xs.map (·.2.2)), look σ' (.s i) = look σ (.s i)) → Rdps σ xs qs → RepCs γ w z cells.toList → fillC z qs = some out →
      ∃ cells', Instr.fill place cells (os.map fun (i, x) => (i, a.eval x)) = some cells' ∧ RepCs γ w out cells'.toList
  | [], xs, qs, z, cells, out, hx, _, hq, hz, hf => by
    simp only [cParts, Option.some.injEq] at hx
    subst hx
    cases qs with
    | cons _ _ => exact hq.elim
    | nil =>
      simp only [fillC, Option.some.injEq] at hf
      subst hf
      exact ⟨cells, rfl, hz⟩
  | (i, x) :: os, xs, qs, z, cells, out, hx, hl, hq, hz, hf => by
    simp only [cParts] at hx
    split at hx
    · rename_i off size y ys h1 h2 h3
      cases hx
      match qs, hq with
      | (off', size', cs) :: qs, hq =>
        obtain ⟨rfl, rfl, ⟨p, hp, hcs⟩, hq⟩ := hq
        simp only [fillC] at hf
        split at hf
        · rename_i hlen
          simp only [Bool.and_eq_true, Nat.ble_eq] at hlen
          obtain ⟨hlen1, hlen2⟩ := hlen
          have hlen1 := Nat.eq_of_beq_eq_true hlen1
          have hrep := pcells_rep hcs (Rd.rep hs h2 (fun j hj => hl j (by simp [Opd.all, hj])) hp)
          have hvl : (a.eval x).cells.size = cs.length := by have := hrep.length; simpa using this.symm
          have hcl : z.length = cells.size := by have := hz.length; simpa using this
          have hfold := foldl_set_list off' (a.eval x).cells.toList cells (by simp; omega)
          have hz' : RepCs γ w (z.take off' ++ cs ++ z.drop (off' + size')) ((((a.eval x).cells.toList.zipIdx 0).foldl (fun cs (x : Value × Nat) => cs.setIfInBounds (off' + x.2) x.1) cells)).toList := by
            rw [hfold]
            have e : off' + (a.eval x).cells.toList.length = off' + size' := by simp; omega
            rw [e]
            exact ((hz.take off').append hrep).append (hz.drop (off' + size'))
          obtain ⟨cells', h4, h5⟩ := fill_rep hs place os ys qs _ _ out h3 (fun j hj => hl j (by simp [Opd.all] at hj ⊢; exact .inr hj)) hq hz' hf
          refine ⟨cells', ?_, h5⟩
          simp only [List.map_cons, Instr.fill, h1]
          rw [if_neg (by simp; omega)]
          rw [← h4]
          congr 1
          rw [← Array.foldl_toList, Array.toList_zipIdx]
        · cases hf
    · cases hx

def cBuild (P : Program) (t : TypeId) (parts : List (Nat × Operand)) : Option (PK T) :=
  match P.info? t, P.underlying t with
  | some it, some (.array _ e) =>
    match it.zero, P.info? e with
    | some z, some ie => match zCVs z.cells.toList, cParts (fun i => some (i * ie.size, ie.size)) parts with
      | some zs, some ps => some (.build zs ps)
      | _, _ => none
    | _, _ => none
  | some it, some (.struct fields) =>
    match it.zero, fields.toList.mapM (fun f => (P.info? f.type).map fun i => (f.offset, i.size)) with
    | some z, some places => match zCVs z.cells.toList, cParts (fun i => places.toArray[i]?) parts with
      | some zs, some ps => some (.build zs ps)
      | _, _ => none
    | _, _ => none
  | _, _ => none

theorem kv_build {t : TypeId} {parts : Array (Nat × Operand)} {zs : List (CV T)} {ps : List (Nat × Nat × Opd T)} {qs : List (Nat × Nat × List (CV T))} {out : List (CV T)} (ho : o.op = .build t parts) (hc : cBuild C.P t parts.toList = some (.build zs ps))
    (h : Rdps σ ps qs) (hf : fillC zs qs = some out) : KValid C o σ (Opd.all (ps.map (·.2.2))) (.agg out) [] [] lo hi := by
  refine kv_pure fun σ' g1 _ γ a w hinv hs => ?_
  have key : ∃ cells', C.P.built t (parts.map fun (i, x) => (i, a.eval x)).toList = some cells' ∧ RepCs γ w out cells'.toList := by
    unfold cBuild at hc
    unfold Program.built
    have e : (parts.map fun (i, x) => (i, a.eval x)).toList = parts.toList.map fun (i, x) => (i, a.eval x) := by simp
    rw [e]
    split at hc
    · rename_i it _ e2 hi hu
      simp only [hi, hu]
      split at hc
      · rename_i z ie hz hie
        simp only [hz, hie]
        split at hc
        · rename_i zs' ps' h1 h2
          cases hc
          exact fill_rep hs _ _ _ _ _ _ _ h2 g1 h (zCVs_rep h1) hf
        · cases hc
      · cases hc
    · rename_i it fields hi hu
      simp only [hi, hu]
      split at hc
      · rename_i z places hz hpl
        simp only [hz, hpl]
        split at hc
        · rename_i zs' ps' h1 h2
          cases hc
          exact fill_rep hs _ _ _ _ _ _ _ h2 g1 h (zCVs_rep h1) hf
        · cases hc
      · cases hc
    · cases hc
  obtain ⟨cells', h1, h2⟩ := key
  refine ⟨.agg cells', ?_, by simp only [RepP]; exact ⟨cells'.toList, by simp, h2⟩⟩
  simp only [execOp, ho, Sem.run_bind, run_build w t _ _ h1, Result.andThen_ok, Sem.run_pure]

/-! ### Slice literals -/
def cMks (P : Program) (cu : TypeId → Option T.U) (t : TypeId) (len : Nat) (parts : List (Nat × Operand)) : Option (PK T) :=
  match P.underlying t with
  | some (.slice e) => match P.info? e, cu e with
    | some ie, some u => if parts.map (·.1) = List.range len ∧ 0 < ie.size ∧ len * ie.size ≤ 2 ^ 24 ∧ ie.zero.isSome = true ∧ ie.size = T.size u then match cOpds (parts.map (·.2)) with
        | some xs => some (.mks u xs)
        | none => none
      else none
    | _, _ => none
  | _ => none

theorem rowsOf_rep {u : T.U} {γ : Gh} {w : World} : ∀ {ps : List (PV T)} {as : List (T.El u)} {fs S : List Nat} {vs : List Value}, rowsOf σ u ps = some (as, fs) → RowsOK σ γ w S → (∀ nm ∈ fs, nm ∈ S) → RepPs γ w ps vs →
    (∃ γ', γ'.bt = γ.bt ∧ γ'.own = γ.own ∧ Evo (fun n => n ∈ fs) γ w γ' w ∧ RepDs γ'.imm w (as.flatMap (T.enc u)) (vs.flatMap fun v => v.cells.toList) ∧ RowsOK σ γ' w S) ∧ (∀ v ∈ vs, v.cells.size = T.size u) ∧ as.length = vs.length
  | [], as, fs, S, vs, h, H, _, hr => by
    simp only [rowsOf, Option.some.injEq, Prod.mk.injEq] at h
    obtain ⟨rfl, rfl⟩ := h
    cases vs with
    | nil => exact ⟨⟨γ, rfl, rfl, .refl _ _ _, trivial, H⟩, by simp, rfl⟩
    | cons _ _ => simp only [RepPs] at hr
  | p :: ps, as, fs, S, vs, h, H, hS, hr => by
    simp only [rowsOf] at h
    split at h
    · rename_i cs hcs
      split at h
      · rename_i xs f1 hx
        split at h
        · rename_i a hdec
          split at h
          · rename_i bs f2 hbs
            simp only [Option.some.injEq, Prod.mk.injEq] at h
            obtain ⟨rfl, rfl⟩ := h
            cases vs with
            | nil => simp only [RepPs] at hr
            | cons v vs =>
              simp only [RepPs] at hr
              obtain ⟨γ1, a1, a2, a3, a4, a5⟩ := rowOf_rep hx H (fun nm hm => hS nm (left hm)) (pcells_rep hcs hr.1)
              obtain ⟨⟨γ2, b1, b2, b3, b4, b5⟩, b6, b7⟩ := rowsOf_rep (γ := γ1) hbs a5 (fun nm hm => hS nm (right hm)) (RepPs.evo a3 _ _ hr.2)
              refine ⟨⟨γ2, b1.trans a1, b2.trans a2, (a3.weaken fun n h => left h).trans (b3.weaken fun n h => right h), ?_, b5⟩, fun v' hv' => ?_, by simp [b7]⟩
              · rw [List.flatMap_cons, List.flatMap_cons, T.dec_enc u _ _ hdec]
                exact (a4.evo b3.toDEvo).append b4
              · rcases List.mem_cons.1 hv' with rfl | hv'
                · have h1 := a4.length
                  rw [← T.dec_enc u _ _ hdec, T.enc_len] at h1
                  simpa using h1.symm
                · exact b6 v' hv'
          · cases h
        · cases h
      · cases h
    · cases h

theorem rowsOf_fs {u : T.U} : ∀ {ps : List (PV T)} {as : List (T.El u)} {fs : List Nat}, rowsOf σ u ps = some (as, fs) → ∀ nm ∈ fs, ∃ u l fz, look σ (.h nm) = some (.r u l fz)
  | [], as, fs, h => by simp only [rowsOf, Option.some.injEq, Prod.mk.injEq] at h; obtain ⟨rfl, rfl⟩ := h; simp
  | p :: ps, as, fs, h => by
    simp only [rowsOf] at h
    split at h
    · split at h
      · rename_i hx
        split at h
        · split at h
          · rename_i hbs
            simp only [Option.some.injEq, Prod.mk.injEq] at h
            obtain ⟨rfl, rfl⟩ := h
            intro nm hm
            rcases List.mem_append.1 hm with hm | hm
            · exact rowOf_fs hx nm hm
            · exact rowsOf_fs hbs nm hm
          · cases h
        · cases h
      · cases h
    · cases h

theorem eval_parts (a : Act) (parts : List (Nat × Operand)) (len : Nat) (h : parts.map (·.1) = List.range len) :
    (parts.map fun (i, x) => (i, a.eval x)) = (((parts.map (·.2)).map a.eval).zipIdx 0).map fun x => (x.2, x.1) := by
  apply List.ext_getElem?
  intro k
  have hk : (parts.map (·.1))[k]? = (List.range len)[k]? := by rw [h]
  simp only [List.getElem?_map, List.getElem?_zipIdx] at hk ⊢
  cases hp : parts[k]? with
  | none => simp
  | some q =>
    rw [hp] at hk
    have hlt : k < len := by
      have := (List.getElem?_eq_some_iff.1 hk.symm).1
      simpa using this
    have : q.1 = k := by simpa [hlt] using hk
    simp [this]

theorem flat_len (u : T.U) : ∀ (as : List (T.El u)), (as.flatMap (T.enc u)).length = as.length * T.size u
  | [] => by simp
  | x :: xs => by rw [List.flatMap_cons, List.length_append, T.enc_len, flat_len u xs, List.length_cons, Nat.add_mul]; omega

/-- What it is that a new row of cells is. -/
theorem row_new {γ γ' : Gh} {w w' : World} {X : Nat → Prop} (ev : Evo X γ w γ' w') {n : Nat} {u : T.U} {l : List (T.El u)} {fz : Bool} {vs : List Value} {c : Array Value} {t : TypeId} {cap b : Nat} (h : RepDs γ.imm w (l.flatMap (T.enc u)) vs)
    (hb : w'.heap[b]? = some (.cells c t (0, 0))) (hc : ∀ (j : Nat) (v : Value), vs[j]? = some v → c[j]? = some v) (hcap : l.length ≤ cap) (hsz : cap * T.size u ≤ c.size)
    (b1 : γ'.bt n = some (.row (some ⟨b, 0, none⟩) l.length cap)) (b2 : γ'.own b = some n) (b3 : γ'.imm b ≤ if fz then l.length * T.size u else 0) (tm : Nat → Value) : FactOK γ' w' tm (.h n) (.r u l fz) := by
  have hlt : b < w'.heap.size := (Array.getElem?_eq_some_iff.1 hb).1
  refine ⟨_, cap, b1, hcap, .inr ⟨b, 0, c, t, rfl, b2, hlt, hb, by omega, by simpa using b3, ?_⟩⟩
  refine RowsAt.of (h.evo ev.toDEvo) fun j v hj => ?_
  rw [Nat.zero_add]
  simp only [World.cell?, hb]
  simpa using hc j v hj

theorem kv_mks0 {cu : TypeId → Option T.U} {t : TypeId} {len : Nat} {parts : Array (Nat × Operand)} {u : T.U} (ho : o.op = .buildSlice t len parts) (hc : cMks C.P cu t len parts.toList = some (.mks u [])) : KValid C o σ [] (.one .nl) [] [] lo lo := by
  intro σ' g1 _ γ a w hi hs _ Q
  unfold cMks at hc
  split at hc
  · rename_i e hu
    split at hc
    · rename_i ie _ hie _
      split at hc
      · rename_i hcond
        obtain ⟨c1, c2, c3, c4, c5⟩ := hcond
        split at hc
        · rename_i xs' hxs
          simp only [Option.some.injEq, PK.mks.injEq] at hc
          obtain ⟨rfl, rfl⟩ := hc
          have hp : parts.toList = [] := by
            cases hq : parts.toList with
            | nil => rfl
            | cons q r =>
              rw [hq] at hxs
              simp only [List.map_cons, cOpds] at hxs
              split at hxs <;> cases hxs
          have hl : len = 0 := by
            rw [hp] at c1
            have := congrArg List.length c1
            simpa using this.symm
          subst hl
          have hp' : parts = #[] := by
            apply Array.ext'
            simpa using hp
          subst hp'
          have hrun : (Instr.buildSlice t 0 #[]).run C.P w = .ok (.slice (some ⟨w.heap.size, 0, none⟩) 0 0) (w.alloc (.cells #[] e)) := by
            have e0 : ∀ f : Nat → Value, Array.map f (Array.range 0) = #[] := fun f => Array.eq_empty_of_size_eq_zero (by simp)
            simp [Instr.buildSlice, run_underlying hu, sizeOf, typeInfo, hie, Instr.fill, newRow, e0]
          unfold Oper.wp execOp
          simp only [ho, Sem.run_bind, Array.map_empty, hrun, Result.andThen_ok, Sem.run_pure, Oper.upon_value]
          have ev : Evo (fun _ => False) γ w γ (w.alloc (.cells #[] e)) := {
            size := by simp, mono := fun _ _ => Nat.le_refl _, low := fun b i hb _ => cell_alloc_old w _ b i hb, os := rfl, tape := rfl, output := rfl
            same := fun b hb _ => ⟨Go.RowKit.Below.heap_alloc _ _ _ hb, rfl, rfl⟩, bt := fun _ _ h => h }
          refine ⟨γ, _, fun _ => False, rfl, fun _ _ => ?_, ev, fun _ h => h.elim, (fun _ _ h => by cases h), fun _ _ => rfl, fun _ _ h => .inr h, fun b hb => hi.ok b (by simp at hb; omega), .refl _ _ _⟩
          simp only [RepP, RepC]
          exact ⟨_, rfl⟩
        · cases hc
      · cases hc
    · cases hc
  · cases hc

theorem kv_mks {cu : TypeId → Option T.U} {t : TypeId} {len n : Nat} {parts : Array (Nat × Operand)} {u : T.U} {xs : List (Opd T)} {ps : List (PV T)} {as : List (T.El u)} {fs : List Nat} (ho : o.op = .buildSlice t len parts) (hc : cMks C.P cu t len parts.toList = some (.mks u xs))
    (h : Rds σ xs ps) (he : rowsOf σ u ps = some (as, fs)) (hne : xs ≠ []) (hl : C.E.loc n) : KValid C o σ (Opd.all xs) (.one (.own u n)) (hs fs) ((.h n, some (.r u as false)) :: frz σ fs) n (n + 1) := by
  intro σ' g1 g2 γ a w hi hs hf Q
  obtain ⟨hf1, hf2⟩ := hf n (Nat.le_refl _) (Nat.lt_succ_self _)
  unfold cMks at hc
  split at hc
  · rename_i e hu
    split at hc
    · rename_i ie u' hie hcu
      split at hc
      · rename_i hcond
        obtain ⟨c1, c2, c3, c4, c5⟩ := hcond
        split at hc
        · rename_i xs' hxs
          cases hc
          obtain ⟨z, hz⟩ := Option.isSome_iff_exists.1 c4
          have hrep := Rds.rep hs hxs g1 h
          have hlook : ∀ nm ∈ fs, look σ' (.h nm) = look σ (.h nm) := fun nm hm => g2 _ (by simp only [Go.G.hs, List.mem_map]; exact ⟨nm, hm, rfl⟩)
          obtain ⟨⟨γ1, a1, a2, a3, a4, a5⟩, k2, k4⟩ := rowsOf_rep he (RowsOK.of_sat hs hlook) (fun _ h => h) hrep
          have hplen : parts.toList.length = len := by have := congrArg List.length c1; simpa using this
          have hlen : ((parts.toList.map (·.2)).map a.eval).length = len := by simpa using hplen
          have hpos : 0 < len := by
            rcases Nat.eq_zero_or_pos len with h0 | h0
            · exfalso
              apply hne
              have : parts.toList = [] := List.eq_nil_of_length_eq_zero (hplen.trans h0)
              rw [this] at hxs
              simp [cOpds] at hxs
              exact hxs.symm ▸ rfl
            · exact h0
          have hfill : Instr.fill (fun i => some (i * ie.size, ie.size)) ((Array.range (len * ie.size)).map (z.cells[· % z.cells.size]!)) (parts.map fun (i, x) => (i, a.eval x)).toList = some (((parts.toList.map (·.2)).map a.eval).flatMap fun v => v.cells.toList).toArray := by
            have e1 : (parts.map fun (i, x) => (i, a.eval x)).toList = parts.toList.map fun (i, x) => (i, a.eval x) := by simp
            rw [e1, eval_parts a parts.toList len c1]
            exact Go.Great.fill_whole c2 _ _ (by rw [c5]; exact k2) (by simp [hplen])
          have hrun := run_buildSlice w t e len (parts.map fun (i, x) => (i, a.eval x)) _ ie z hu hie hz (by omega) (by
            have : 0 < len * ie.size := Nat.mul_pos hpos c2
            omega) hfill
          unfold Oper.wp execOp
          simp only [ho, Sem.run_bind, hrun, Result.andThen_ok, Sem.run_pure, Oper.upon_value]
          have hal : as.length = len := k4.trans hlen
          have hf1' : γ1.bt n = none := by rw [a1]; exact hf1
          have ev2 : Evo (fun _ => False) γ1 w (γ1.newBlk w.heap.size n (.row (some ⟨w.heap.size, 0, none⟩) len len) 0) (w.alloc (.cells (((parts.toList.map (·.2)).map a.eval).flatMap fun v => v.cells.toList).toArray e)) := Evo.newBlk hf1' _ _ _
          have hi1 : Inv C.E γ1 w := hi.step a3 C.ok (fun nm hm => by
            obtain ⟨u', l', fz', hlk⟩ := rowsOf_fs he nm hm
            exact hs.perm nm _ ((hlook nm hm).trans hlk)) (fun nm _ => by rw [a1]) (fun b nm hb => by rw [a2] at hb; exact .inr hb) (fun b hb => by rw [a2]; exact hi.ok b hb)
          obtain ⟨p1, p2, p3, p4⟩ := newBlk_parts (C := C) (g := .row (some ⟨w.heap.size, 0, none⟩) len len) (im := 0) (o := .cells (((parts.toList.map (·.2)).map a.eval).flatMap fun v => v.cells.toList).toArray e) hi1 hl
          have hnf : ∀ nm ∈ fs, nm ≠ n := fun nm hm he' => by
            subst he'
            obtain ⟨u', l', fz', hlk⟩ := rowsOf_fs he nm hm
            obtain ⟨A, cap, q1, _⟩ := hs.facts _ _ ((hlook nm hm).trans hlk)
            rw [hf1] at q1; cases q1
          refine ⟨_, _, fun nm => nm ∈ fs, rfl, fun _ _ => ?_, a3.trans (ev2.weaken fun _ h => h.elim), fun nm hm => ?_, fun l f hm => ?_, fun nm hn => by rw [p1 nm hn, a1], fun b nm hb => ?_, p3, ?_⟩
          · simp only [RepP, RepC]
            exact ⟨some ⟨w.heap.size, 0, none⟩, len, len, by simp [Gh.newBlk], rfl⟩
          · obtain ⟨u', l', fz', hlk⟩ := rowsOf_fs he nm hm
            refine ⟨hs.perm nm _ ((hlook nm hm).trans hlk), ?_⟩
            simp only [locs, List.map_cons, List.mem_cons]
            exact .inr (frz_locs hm hlk)
          · rcases List.mem_cons.1 hm with hm | hm
            · simp only [Prod.mk.injEq, Option.some.injEq] at hm
              obtain ⟨rfl, rfl⟩ := hm
              refine ⟨n, rfl, .inr hl, fun tm => ?_⟩
              refine row_new (cap := len) (b := w.heap.size) ev2 a4 (heap_alloc_at _ _) (fun j v hj => by simpa using hj) (by omega) ?_ (by simp [Gh.newBlk, hal]) (by simp [Gh.newBlk]) (by simp [Gh.newBlk]) tm
              have h1 := a4.length
              have h2 := flat_len u as
              rw [hal] at h2
              simp only [List.size_toArray]
              omega
            · obtain ⟨nm, u2, l2, fz2, m1, rfl, m3, rfl⟩ := mem_frz hm
              refine ⟨nm, rfl, hs.perm nm _ ((hlook nm m1).trans m3), fun tm => ?_⟩
              exact ((a5 nm m1 u2 l2 fz2 m3).evo ev2 (fun _ _ h => h) (fun _ _ => rfl)).mem (by simp)
          · rcases p2 b nm hb with h | h
            · exact .inl h
            · rw [a2] at h; exact .inr h
          · refine Kept.trans (b := γ1) (fun nm _ _ => ⟨by rw [a1], fun b hb => by rw [a2] at hb; exact hb⟩) p4
        · cases hc
      · cases hc
    · cases hc
  · cases hc
end
end Go.G
namespace Go.G
variable {T : Uni}
section
variable {C : Ctx} {o : Oper} {σ : St T} {lo hi : Nat}

/-- A slice value that stands for these elements. -/
def SlAt (γ : Gh) (w : World) (u : T.U) (ys : List (T.El u)) (v : Value) : Prop :=
  ∃ B cap, v = .slice B ys.length cap ∧ ys.length ≤ cap ∧ (ys = [] ∨ ∃ b off, B = some ⟨b, off, none⟩ ∧ RowsAt γ.imm w b off u ys)

def ElemsOf (C : Ctx) (σ : St T) (u : T.U) (c : CV T) (ys : List (T.El u)) (rd : List Loc) : Prop :=
  ∀ σ', (∀ l ∈ rd, look σ' l = look σ l) → ∀ γ a w, Sat C.E C.N γ w a σ' → ∀ v, RepC γ w c v → SlAt γ w u ys v

theorem SlAt.of_d {γ : Gh} {w : World} {u : T.U} {l : List (T.El u)} {v : Value} (h : RepD T γ.imm w (.sl u l) v) : SlAt γ w u l v := by
  obtain ⟨A, cap, rfl, hc, h⟩ := RepD.sl_iff.1 h
  refine ⟨A, cap, rfl, hc, h.imp id ?_⟩
  rintro ⟨b, off, h1, _, _, h4⟩
  exact ⟨b, off, h1, h4⟩

theorem SlAt.of_own {γ : Gh} {w : World} {u u' : T.U} {nm : Nat} {l : List (T.El u)} {fz : Bool} {tm : Nat → Value} (hf : FactOK γ w tm (.h nm) (.r u l fz)) {v : Value} (h : RepC (T := T) γ w (.own u' nm) v) : SlAt γ w u l v := by
  obtain ⟨A, cap, h1, h2, h3⟩ := hf
  obtain ⟨A', len, cap', k1, rfl⟩ := h
  rw [h1] at k1; cases k1
  refine ⟨A, cap, rfl, h2, ?_⟩
  rcases h3 with ⟨_, h3⟩ | ⟨b, off, c, t, e1, _, _, _, _, _, e7⟩
  · exact .inl h3
  · exact .inr ⟨b, off, e1, e7⟩

theorem RowsAt.sub {imm : Nat → Nat} {w : World} {b off : Nat} {u : T.U} {l : List (T.El u)} (x y : Nat) (h : RowsAt imm w b off u l) : RowsAt imm w b (off + x * T.size u) u ((l.take y).drop x) := by
  intro i a ha
  rw [List.getElem?_drop, List.getElem?_take] at ha
  split at ha
  · have := h _ _ ha
    rw [show off + x * T.size u + i * T.size u = off + (x + i) * T.size u by rw [Nat.add_mul]; omega]
    exact this
  · cases ha

theorem SlAt.of_buf {γ : Gh} {w : World} {u : T.U} {nm : Nat} {l : List (T.El u)} {fz : Bool} {tm : Nat → Value} {off len : Int} (hf : FactOK γ w tm (.h nm) (.r u l fz)) {v : Value} (h : RepC (T := T) γ w (.buf u nm off len) v) : SlAt γ w u (dcut l off (off + len)) v := by
  obtain ⟨A, cap, h1, h2, h3⟩ := hf
  obtain ⟨A0, L, cap', A', k1, k2, k3, k4, k5, rfl, k7⟩ := h
  rw [h1] at k1; cases k1
  unfold dcut
  have hlen : ((l.take (off + len).toNat).drop off.toNat).length = len.toNat := by simp; omega
  refine ⟨A', cap - off.toNat, by rw [hlen], by rw [hlen]; omega, ?_⟩
  rcases h3 with ⟨h3, h4⟩ | ⟨b, o', c, t, e1, _, _, _, _, _, e7⟩
  · left; subst h4; simp
  · by_cases hlt : off < cap
    · right
      refine ⟨b, o' + off.toNat * T.size u, by rw [k7 hlt, e1]; simp [addr_add], e7.sub _ _⟩
    · left
      exact List.eq_nil_of_length_eq_zero (by rw [hlen]; omega)

theorem elems_inv {X : Type} {r : X} {u : T.U} {c : CV T} {K : List (T.El u) → List Loc → Option X} (h : elems σ u c K = some r) : ∃ ys rd, K ys rd = some r ∧ rd.all memL = true ∧ ∀ C, ElemsOf C σ u c ys rd := by
  unfold elems at h
  split at h
  · split at h
    · rename_i hu _; subst hu
      exact ⟨_, _, h, rfl, fun C σ' _ γ a w hs v hv => SlAt.of_d hv⟩
    · cases h
  · exact ⟨_, _, h, rfl, fun C σ' _ γ a w hs v ⟨A, hv⟩ => ⟨A, 0, hv, Nat.le_refl _, .inl rfl⟩⟩
  · split at h
    · rename_i hlk
      split at h
      · rename_i hu _; subst hu
        exact ⟨_, _, h, rfl, fun C σ' g γ a w hs v hv => SlAt.of_own (hs.facts _ _ ((g _ (by simp)).trans hlk)) hv⟩
      · cases h
    · cases h
  · split at h
    · rename_i hlk
      split at h
      · rename_i hu0 hu _ _; subst hu; subst hu0
        exact ⟨_, _, h, rfl, fun C σ' g γ a w hs v hv => SlAt.of_buf (hs.facts _ _ ((g _ (by simp)).trans hlk)) hv⟩
      · cases h
    · cases h
  · cases h

/-- What is read out of a slice value, in whatever world has the same cells. -/
theorem SlAt.cells {P : Program} {γ : Gh} {w : World} {u : T.U} {ys : List (T.El u)} {v : Value} (h : SlAt γ w u ys v) :
    ∃ B cap, v = .slice B ys.length cap ∧ ys.length ≤ cap ∧ ∃ vs : List Value, vs.length = ys.length * T.size u ∧ RepDs γ.imm w (ys.flatMap (T.enc u)) vs ∧
      (∀ w' : World, (∀ a, w'.cell? a = w.cell? a) → (Builtin.firstCells (T.size u) ys.length (.slice B ys.length cap)).run P w' = .ok vs.toArray w') := by
  obtain ⟨B, cap, rfl, hc, h⟩ := h
  refine ⟨B, cap, rfl, hc, ?_⟩
  rcases h with rfl | ⟨b, off, rfl, hr⟩
  · refine ⟨[], by simp, trivial, fun w' _ => ?_⟩
    cases B with
    | none => simp [Builtin.firstCells]
    | some ad => simp [Builtin.firstCells, loadCells, loadCellsFrom]
  · obtain ⟨vs, k1, k2, k3⟩ := hr.values
    refine ⟨vs, k1, k3, fun w' hw' => ?_⟩
    exact run_firstCells_some (P := P) w' (T.size u) ys.length ⟨b, off, none⟩ ys.length cap vs k1 fun j v hj => by rw [addr_add, hw']; exact k2 j v hj

theorem nextslicecap_le {need old : Nat} (h : old < need) : Builtin.nextslicecap need old ≤ 2 * need := by
  unfold Builtin.nextslicecap
  split
  · omega
  · split
    · omega
    · have key : ∀ (r c : Nat), 256 ≤ c → c ≤ 2 * need → Builtin.growBy need r c ≤ 2 * need := by
        intro r
        induction r with
        | zero => intro c _ h; exact h
        | succ r ih =>
          intro c h1 h2
          simp only [Builtin.growBy]
          split
          · exact h2
          · exact ih _ (by omega) (by omega)
      exact key 4 old (by omega) (by omega)

/-- append, both ways, as far as the world goes. -/
theorem run_append_two {P : Program} {t t' ty e e' : TypeId} {i : TypeInfo} {z : Value} (ht : P.underlying t = some (.slice e)) (ht' : P.underlying t' = some (.slice e')) (hi : P.info? e = some i) (hz : i.zero = some z)
    {w : World} {A B : Option Addr} {l cap m c : Nat} {vs us : List Value} (f1 : ∀ w' : World, (∀ a, w'.cell? a = w.cell? a) → (Builtin.firstCells i.size l (.slice A l cap)).run P w' = .ok vs.toArray w')
    (f2 : ∀ w' : World, (∀ a, w'.cell? a = w.cell? a) → (Builtin.firstCells i.size m (.slice B m c)).run P w' = .ok us.toArray w')
    (hbytes : (l + m) * i.bytes ≤ 140737488355328) (h63 : l + m ≤ 9223372036854775807) :
    (l + m ≤ cap → (Builtin.append_ #[t, t'] ty #[.slice A l cap, .slice B m c]).run P w = match A with
        | some a => ((storeCells (a.add (l * i.size)) us).run P w).andThen fun _ w' => .ok (.slice A (l + m) cap) w'
        | none => .ok (.slice A (l + m) cap) w) ∧
      (cap < l + m → ∃ cap', l + m ≤ cap' ∧ (Builtin.append_ #[t, t'] ty #[.slice A l cap, .slice B m c]).run P w = .ok (.slice (some ⟨w.heap.size, 0, none⟩) (l + m) cap')
          (w.drew.alloc (.cells ((vs ++ us).toArray ++ Builtin.zeroCells z.cells (cap' - (l + m))) e))) := by
  refine ⟨fun hroom => ?_, fun hg => ⟨grownCap w (l + m) cap e, ?_, ?_⟩⟩
  · have f2 := f2 w fun _ => rfl
    cases A with
    | none => simp [Builtin.append_, run_underlying ht, run_underlying ht', sizeOf, typeInfo, hi, Builtin.lenOf, hroom, f2]
    | some a => simp [Builtin.append_, run_underlying ht, run_underlying ht', sizeOf, typeInfo, hi, Builtin.lenOf, hroom, f2]
  · simp only [grownCap, Question.cut]; omega
  · have f1 := f1 w.drew fun _ => rfl
    have f2 := f2 w.drew fun _ => rfl
    have hn : ¬ (l + m ≤ cap) := by omega
    have h63' : ¬ (9223372036854775807 < ((l : Int) + (m : Int))) := by omega
    have hle := nextslicecap_le hg
    have h48' : ¬ (281474976710656 < Builtin.nextslicecap (l + m) cap * i.bytes) := by
      have : Builtin.nextslicecap (l + m) cap * i.bytes ≤ 2 * (l + m) * i.bytes := Nat.mul_le_mul_right _ hle
      have e3 : 2 * (l + m) * i.bytes = 2 * ((l + m) * i.bytes) := by rw [Nat.mul_assoc]
      omega
    simp [Builtin.append_, run_underlying ht, run_underlying ht', sizeOf, typeInfo, zeroValue, hi, hz, Builtin.lenOf, hn, h63', h48', Question.forced, f1, f2, newRow, grownCap]
    congr 2
    apply Array.ext'
    simp [List.append_assoc]

structure AppT (P : Program) (u : T.U) (t e : TypeId) (bytes : Nat) : Prop where
  ht : P.underlying t = some (.slice e)
  hi : ∃ i z, P.info? e = some i ∧ i.zero = some z ∧ z.cells.size = T.size u ∧ i.size = T.size u ∧ i.bytes = bytes

/-- append to rows that nobody else has. -/
theorem app_core {t t' ty e e' : TypeId} {u : T.U} {bytes : Nat} (hT : AppT C.P u t e bytes) (ht' : C.P.underlying t' = some (.slice e')) {γ : Gh} {w : World} (hinv : Inv C.E γ w) {l ys : List (T.El u)} {fz : Bool} {A : Option Addr} {cap nm n : Nat} {y : Value}
    (hcap : l.length ≤ cap) (hrow : RowOK γ w nm u l fz A cap) (hy : SlAt γ w u ys y) (hb : (l.length + ys.length) * bytes ≤ 140737488355328) (h63 : l.length + ys.length ≤ 9223372036854775807) (hn : γ.bt n = none) (hl : C.E.loc n) :
    ∃ γ' w' A' cap', (Builtin.append_ #[t, t'] ty #[.slice A l.length cap, y]).run C.P w = .ok (.slice A' (l ++ ys).length cap') w' ∧ Evo (fun k => k = nm ∧ ∃ b, γ.own b = some nm) γ w γ' w' ∧
      γ'.bt n = some (.row A' (l ++ ys).length cap') ∧ (∀ k, k ≠ n → γ'.bt k = γ.bt k) ∧ (∀ tm, FactOK γ' w' tm (.h n) (.r u (l ++ ys) fz)) ∧ (∀ b k, γ'.own b = some k → k = n ∨ γ.own b = some k) ∧ (∀ b, w'.heap.size ≤ b → γ'.own b = none) := by
  obtain ⟨ht, i, z, hi, hz, hzs, his, rfl⟩ := hT
  obtain ⟨B, cb, rfl, hcb, us, u1, u2, u3⟩ := hy.cells (P := C.P)
  have hs0 : SlAt γ w u l (.slice A l.length cap) := ⟨A, cap, rfl, hcap, by
    rcases hrow with ⟨_, h⟩ | ⟨b, off, c, tt, e1, _, _, _, _, _, e7⟩
    · exact .inl h
    · exact .inr ⟨b, off, e1, e7⟩⟩
  obtain ⟨A0, cap0, ev0, _, vs, v1, v2, v3⟩ := hs0.cells (P := C.P)
  cases ev0
  rw [← his] at u3 v3
  obtain ⟨hroom, hgrow⟩ := run_append_two (P := C.P) (ty := ty) ht ht' hi hz v3 u3 hb h63
  have hlen : l.length + ys.length = (l ++ ys).length := by simp
  have hfl : RepDs γ.imm w ((l ++ ys).flatMap (T.enc u)) (vs ++ us) := by rw [List.flatMap_append]; exact v2.append u2
  by_cases hc : l.length + ys.length ≤ cap
  · have hrun := hroom hc
    rcases hrow with ⟨h0, h0'⟩ | ⟨b, off, c, tt, rfl, k2, k3, k4, k5, k6, k7⟩
    · subst h0
      subst h0'
      have hm0 : ys = [] := List.eq_nil_of_length_eq_zero (by simpa using hc)
      subst hm0
      have hu0 : us = [] := List.eq_nil_of_length_eq_zero (by rw [u1]; simp)
      refine ⟨{ γ with bt := fun k => if k = n then some (.row A 0 0) else γ.bt k }, w, A, 0, ?_, ⟨DEvo.refl _ _, rfl, rfl, rfl, fun _ _ _ => ⟨rfl, rfl, rfl⟩, fun k v hv => ?_⟩, by simp, fun k hk => by simp [hk], fun tm => ⟨A, 0, by simp, by simp, .inl ⟨rfl, rfl⟩⟩, fun _ _ h => .inr h, hinv.ok⟩
      · rw [hrun, hu0]
        cases A <;> simp [storeCells]
      · show (if k = n then _ else _) = _
        rw [if_neg (by rintro rfl; rw [hn] at hv; cases hv)]
        exact hv
    · have hm : us.length = ys.length * T.size u := u1
      have hfit : off + l.length * T.size u + 0 + us.length ≤ c.size := by
        have := Nat.mul_le_mul_right (T.size u) hc
        rw [Nat.add_mul] at this
        omega
      have hst := run_storeCells_at C.P b (off + l.length * T.size u) tt us 0 c w k4 hfit u2.one
      simp only [Nat.add_zero] at hst
      simp only [addr_add, his, hst, Result.andThen_ok] at hrun
      have hcs : ∀ k, (c.toList.take (off + l.length * T.size u) ++ us ++ c.toList.drop (off + l.length * T.size u + us.length)).toArray[k]? = if k < off + l.length * T.size u then c[k]? else if k < off + l.length * T.size u + us.length then us[k - (off + l.length * T.size u)]? else c[k]? := by
        intro k
        rw [List.getElem?_toArray]
        by_cases hk : k < off + l.length * T.size u
        · rw [if_pos hk, List.append_assoc, List.getElem?_append_left (by simp; omega), List.getElem?_take_of_lt hk, Array.getElem?_toList]
        · rw [if_neg hk]
          by_cases hk2 : k < off + l.length * T.size u + us.length
          · rw [if_pos hk2, List.getElem?_append_left (by simp; omega), List.getElem?_append_right (by simp; omega)]
            congr 1
            simp; omega
          · rw [if_neg hk2, List.getElem?_append_right (by simp; omega), List.getElem?_drop, Array.getElem?_toList]
            congr 1
            simp; omega
      have hlow : ∀ k, k < γ.imm b → (c.toList.take (off + l.length * T.size u) ++ us ++ c.toList.drop (off + l.length * T.size u + us.length)).toArray[k]? = c[k]? := fun k hk => by
        rw [hcs k, if_pos (by split at k6 <;> omega)]
      have e0 := Evo.setRow (γ := γ) k4 k2 hlow
      let γ' : Gh := { γ with bt := fun k => if k = n then some (.row (some ⟨b, off, none⟩) (l ++ ys).length cap) else γ.bt k, own := fun k => if k = b then some n else γ.own k }
      have e1 : Evo (fun k => k = nm ∧ ∃ b, γ.own b = some nm) γ w γ' (w.setRow b (c.toList.take (off + l.length * T.size u) ++ us ++ c.toList.drop (off + l.length * T.size u + us.length)).toArray) := {
        size := e0.size, mono := e0.mono, low := e0.low, os := rfl, tape := rfl, output := rfl
        same := fun k hk hx => by
          have hkb : k ≠ b := by rintro rfl; exact hx nm k2 ⟨rfl, _, k2⟩
          exact ⟨setRow_other _ _ _ _ hkb, by show (if k = b then _ else _) = _; rw [if_neg hkb], rfl⟩
        bt := fun k v hv => by
          show (if k = n then _ else _) = _
          rw [if_neg (by rintro rfl; rw [hn] at hv; cases hv)]
          exact hv }
      refine ⟨γ', _, some ⟨b, off, none⟩, cap, by rw [hrun, hlen], e1, by simp [γ'], fun k hk => by simp [γ', hk], fun tm => ⟨_, cap, by simp [γ'], by omega, .inr ⟨b, off, _, tt, rfl, by simp [γ'], by rw [setRow_size]; exact k3, setRow_heap _ _ _ _ _ _ k4, ?_, ?_, ?_⟩⟩, fun k j h => ?_, fun k hk => ?_⟩
      · simp; omega
      · show γ.imm b ≤ _
        split
        · rename_i hfz
          simp only [hfz, if_true] at k6
          rw [← hlen, Nat.add_mul]; omega
        · rename_i hfz
          rw [if_neg hfz] at k6
          exact k6
      · refine RowsAt.of (hfl.evo e1.toDEvo) fun j v hj => ?_
        rw [cell_setRow_same _ _ _ _ _ _ _ k4, hcs]
        by_cases hjl : j < vs.length
        · rw [List.getElem?_append_left hjl] at hj
          rw [if_pos (by omega)]
          have hrows := k7.values
          obtain ⟨vs', q1, q2, q3⟩ := hrows
          have hvv : vs' = vs := by
            have := v3 w fun _ => rfl
            have h2 := run_firstCells_some (P := C.P) w (T.size u) l.length ⟨b, off, none⟩ l.length cap vs' q1 fun j v hj => by rw [addr_add]; exact q2 j v hj
            rw [his] at this
            rw [this] at h2
            cases h2
            rfl
          subst hvv
          have := q2 j v hj
          simp only [World.cell?, k4] at this
          simpa using this
        · rw [List.getElem?_append_right (by omega)] at hj
          have hju := getElem?_lt hj
          rw [if_neg (by omega), if_pos (by omega), ← hj]
          congr 1
          omega
      · simp only [γ'] at h
        split at h
        · cases h; exact .inl rfl
        · exact .inr h
      · rw [setRow_size] at hk
        simp only [γ']
        rw [if_neg (by omega)]
        exact hinv.ok k hk
  · obtain ⟨cap', hcap', hrun⟩ := hgrow (by omega)
    have hsz : cap' * T.size u ≤ ((vs ++ us).toArray ++ Builtin.zeroCells z.cells (cap' - (l.length + ys.length))).size := by
      simp only [Array.size_append, List.size_toArray, List.length_append, v1, u1, size_zeroCells, hzs]
      rw [← Nat.add_mul, ← Nat.add_mul]
      exact Nat.mul_le_mul_right _ (by omega)
    have e1 : Evo (fun _ => False) γ w (γ.newBlk w.heap.size n (.row (some ⟨w.heap.size, 0, none⟩) (l ++ ys).length cap') 0) (w.drew.alloc (.cells ((vs ++ us).toArray ++ Builtin.zeroCells z.cells (cap' - (l.length + ys.length))) e)) := by
      have := Evo.newBlk (γ := γ) (w := w.drew) (nm := n) hn (.cells ((vs ++ us).toArray ++ Builtin.zeroCells z.cells (cap' - (l.length + ys.length))) e) (.row (some ⟨w.heap.size, 0, none⟩) (l ++ ys).length cap') 0
      exact ⟨⟨this.size, this.mono, fun b i hb hi => this.low b i hb hi⟩, rfl, rfl, rfl, fun b hb hx => this.same b hb hx, this.bt⟩
    have hat : (w.drew.alloc (.cells ((vs ++ us).toArray ++ Builtin.zeroCells z.cells (cap' - (l.length + ys.length))) e)).heap[w.heap.size]? = some (.cells ((vs ++ us).toArray ++ Builtin.zeroCells z.cells (cap' - (l.length + ys.length))) e) := heap_alloc_at w.drew _
    refine ⟨_, _, some ⟨w.heap.size, 0, none⟩, cap', by rw [hrun, hlen], e1.weaken fun _ h => h.elim, by simp [Gh.newBlk], fun k hk => by simp [Gh.newBlk, hk], fun tm => ?_, fun b k h => ?_, fun b hb => ?_⟩
    · exact row_new e1 hfl hat (fun j v hj => by
        have hlt := getElem?_lt hj
        rw [Array.getElem?_append_left (by simpa using hlt), List.getElem?_toArray]
        exact hj) (by omega) hsz (by simp [Gh.newBlk]) (by simp [Gh.newBlk]) (by simp [Gh.newBlk]) tm
    · simp only [Gh.newBlk] at h
      split at h
      · cases h; exact .inl rfl
      · exact .inr h
    · simp at hb
      simp only [Gh.newBlk]
      rw [if_neg (by omega)]
      exact hinv.ok b (by omega)

theorem dapp_some {α : Type} {bytes : Nat} {l ys l' : List α} (h : dapp bytes l ys = some l') : (l.length + ys.length) * bytes ≤ 140737488355328 ∧ l.length + ys.length ≤ 9223372036854775807 ∧ l' = l ++ ys := by
  unfold dapp at h
  split at h
  · rename_i hh; cases h; exact ⟨hh.1, hh.2, rfl⟩
  · cases h

theorem kv_app {t t' e e' : TypeId} {u : T.U} {bytes : Nat} {x y : Operand} {Xx Yy : Opd T} {c c2 : CV T} {l ys l' : List (T.El u)} {fz : Bool} {rd mrd : List Loc} {mwr : Wr T} {n nm : Nat} (ho : o.op = .call { callee := .builtin .append, args := #[x, y], argTypes := #[t, t'] })
    (hx : cOpd x = some Xx) (hy : cOpd y = some Yy) (hT : AppT C.P u t e bytes) (ht' : C.P.underlying t' = some (.slice e')) (h1 : Rd σ Xx (.one c)) (h2 : Rd σ Yy (.one c2)) (hel : ElemsOf C σ u c2 ys rd) (hd : dapp bytes l ys = some l') (hl : C.E.loc n)
    (hmr : ∀ q ∈ rd, q ∈ mrd) (hmw : ∀ q f, (q, some f) ∈ mwr → q = .h n ∧ f = .r u l' fz)
    (hc : ∀ σ', (∀ q ∈ mrd, look σ' q = look σ q) → ∀ γ a w, Sat C.E C.N γ w a σ' → Fresh n (n + 1) γ → ∀ v, RepC γ w c v → ∃ A cap, v = .slice A l.length cap ∧ l.length ≤ cap ∧ RowOK γ w nm u l fz A cap ∧ ((∃ b, γ.own b = some nm) → C.E.perm nm ∧ Loc.h nm ∈ locs mwr) ) :
    KValid C o σ (Xx.slots ++ Yy.slots) (.one (.own u n)) mrd mwr n (n + 1) := by
  intro σ' g1 g2 γ a w hinv hs hf Q
  obtain ⟨hf1, hf2⟩ := hf n (Nat.le_refl _) (Nat.lt_succ_self _)
  have e1 := Rd.rep hs hx (fun j hj => g1 j (left hj)) h1
  have e2 := Rd.rep hs hy (fun j hj => g1 j (right hj)) h2
  simp only [RepP] at e1 e2
  have e3 := hel σ' (fun q hq => g2 q (hmr q hq)) γ a w hs _ e2
  obtain ⟨A, cap, e4, e5, e6, e7⟩ := hc σ' g2 γ a w hs hf _ e1
  obtain ⟨d1, d2, rfl⟩ := dapp_some hd
  obtain ⟨γ', w', A', cap', r1, r2, r3, r4, r5, r6, r7⟩ := app_core (ty := o.type) hT ht' hinv e5 e6 e3 d1 d2 hf1 hl
  unfold Oper.wp execOp
  simp only [ho, resolve, invoke, builtin, Sem.run_bind, Sem.run_pure, Result.andThen_ok, List.map_toArray, List.map_cons, List.map_nil, e4, r1, Oper.upon_value]
  refine ⟨γ', _, _, rfl, fun _ _ => ?_, r2, fun k hk => ?_, fun q f hm => ?_, fun k hk => r4 k (by rintro rfl; exact hk hl), fun b k hb => ?_, r7, fun k hk hkl => ⟨r4 k (by omega), fun b hb => ?_⟩⟩
  · simp only [RepP, RepC]
    exact ⟨A', _, cap', r3, rfl⟩
  · obtain ⟨rfl, hk⟩ := hk
    exact e7 hk
  · obtain ⟨rfl, rfl⟩ := hmw q f hm
    exact ⟨n, rfl, .inr hl, r5⟩
  · rcases r6 b k hb with h | h
    · subst h; exact .inl hl
    · exact .inr h
  · rcases r6 b k hb with h | h
    · omega
    · exact h
end
end Go.G
namespace Go.G
variable {T : Uni}
section
variable {C : Ctx} {o : Oper} {σ : St T} {lo hi : Nat}

/-! ### x[lo:hi] -/
def boundOf (v : Option Value) (d : Nat) : Option Int :=
  match v with
  | none => some d
  | some (.int _ l) => some l
  | some _ => none

theorem run_bound (P : Program) (w : World) (k : IntKind) (i : Int) (y : Nat) (code : BoundsCode) (h0 : 0 ≤ i) (h1 : i ≤ y) : (Instr.sliceBound (.int k i) y code).run P w = .ok i.toNat w := by
  simp [Instr.sliceBound, asIntOf, h0, h1]

theorem run_slice_none {P : Program} {t e : TypeId} {size : Nat} (hu : P.underlying t = some (.slice e)) (hm : tySz P e = some size) (w : World) (A : Option Addr) (len cap : Nat) (lo hi : Option Value) (l h : Int)
    (hl : boundOf lo 0 = some l) (hh : boundOf hi len = some h) (h0 : 0 ≤ l) (h1 : l ≤ h) (h2 : h ≤ cap) :
    (Instr.sliceAt t (.slice A len cap) lo hi none).run P w = .ok (.slice (if cap = l.toNat then A else A.map (·.add (l.toNat * size))) (h.toNat - l.toNat) (cap - l.toNat)) w := by
  have key : ∀ (lo hi : Option Value), boundOf lo 0 = some l → boundOf hi len = some h → (Instr.sliceBounds true len cap lo hi none).run P w = .ok (l.toNat, h.toNat, cap) w := by
    intro lo hi hl hh
    have hhn : (h.toNat : Int) = h := by omega
    unfold Instr.sliceBounds
    cases lo with
    | none =>
      simp only [boundOf, Option.some.injEq] at hl
      subst hl
      cases hi with
      | none =>
        simp only [boundOf, Option.some.injEq] at hh
        subst hh
        simp
      | some v =>
        cases v <;> simp only [boundOf, Option.some.injEq, reduceCtorEq] at hh
        subst hh
        rename_i k h
        have hb := run_bound P w k h cap .sliceAcap (by omega) h2
        simp [hb]
    | some v =>
      cases v <;> simp only [boundOf, Option.some.injEq, reduceCtorEq] at hl
      subst hl
      cases hi with
      | none =>
        simp only [boundOf, Option.some.injEq] at hh
        subst hh
        rename_i k l
        have hb := run_bound P w k l len .sliceB h0 h1
        simp [hb]
      | some v =>
        cases v <;> simp only [boundOf, Option.some.injEq, reduceCtorEq] at hh
        subst hh
        rename_i k l k' h
        have hb := run_bound P w k' h cap .sliceAcap (by omega) h2
        have hb2 := run_bound P w k l h.toNat .sliceB h0 (by omega)
        simp [hb, hb2]
  simp [Instr.sliceAt, run_underlying hu, Instr.slice, key lo hi hl hh, run_sizeOf hm]

def Rdo (σ : St T) : Option (Opd T) → Int → Int → Prop
  | none, d, l => l = d
  | some y, _, l => ∃ k, Rd σ y (.one (.d (.int k l)))

theorem rdo_inv {X : Type} {r : X} {x : Option (Opd T)} {d : Int} {K : Int → Option X} (h : rdo σ x d K = some r) : ∃ l, Rdo σ x d l ∧ K l = some r := by
  cases x with
  | none => exact ⟨d, rfl, h⟩
  | some y =>
    obtain ⟨k, l, hp, h⟩ := rdi_inv (x := y) h
    exact ⟨l, ⟨k, hp⟩, h⟩

theorem Rdo.bound {E : Entry} {N : Nat} {γ : Gh} {w : World} {a : Act} {σ' : St T} (hs : Sat E N γ w a σ') {x : Option Operand} {y : Option (Opd T)} (hx : cOpo x = some y) {d : Nat} {l : Int} (hl : ∀ i ∈ Opd.all y.toList, look σ' (.s i) = look σ (.s i)) (h : Rdo σ y d l) :
    boundOf (x.map a.eval) d = some l := by
  cases x with
  | none =>
    simp only [cOpo, Option.some.injEq] at hx
    subst hx
    simp only [Rdo] at h
    subst h
    rfl
  | some x =>
    simp only [cOpo] at hx
    split at hx
    · rename_i y' hy'
      cases hx
      obtain ⟨k, h⟩ := h
      have := repI (Rd.rep hs hy' (fun i hi => hl i (by simpa [Opd.all] using hi)) h)
      simp [boundOf, this]
    · cases hx

theorem kv_slice {t e : TypeId} {size : Nat} {x : Operand} {lo' hi' : Option Operand} {Xx : Opd T} {Lo Hi : Option (Opd T)} {c c' : CV T} {d : Nat} {l h : Int} {mrd : List Loc} (ho : o.op = .slice t x lo' hi' none) (hx : cOpd x = some Xx) (hlo : cOpo lo' = some Lo) (hhi : cOpo hi' = some Hi)
    (hu : C.P.underlying t = some (.slice e)) (hm : tySz C.P e = some size) (h1 : Rd σ Xx (.one c)) (hl : Rdo σ Lo 0 l) (hh : Rdo σ Hi d h) (h0 : 0 ≤ l) (hlh : l ≤ h) (hhd : h ≤ d)
    (hc : ∀ σ', (∀ q ∈ mrd, look σ' q = look σ q) → ∀ γ a w, Sat C.E C.N γ w a σ' → ∀ v, RepC γ w c v → ∃ A cap, v = .slice A d cap ∧ d ≤ cap ∧ ∀ A', (l.toNat < cap → A' = A.map (·.add (l.toNat * size))) → RepC γ w c' (.slice A' (h.toNat - l.toNat) (cap - l.toNat))) :
    KValid C o σ (Xx.slots ++ (Opd.all Lo.toList ++ Opd.all Hi.toList)) (.one c') mrd [] lo hi := by
  refine kv_pure fun σ' g1 g2 γ a w hinv hs => ?_
  have e1 := Rd.rep hs hx (fun j hj => g1 j (left hj)) h1
  simp only [RepP] at e1
  obtain ⟨A, cap, e2, e3, e4⟩ := hc σ' g2 γ a w hs _ e1
  have k1 := Rdo.bound (d := 0) hs hlo (fun j hj => g1 j (right (left hj))) hl
  have k2 := Rdo.bound (d := d) hs hhi (fun j hj => g1 j (right (right hj))) hh
  have hrun := run_slice_none hu hm w A d cap _ _ l h k1 k2 h0 hlh (by omega)
  refine ⟨.slice (if cap = l.toNat then A else A.map (·.add (l.toNat * size))) (h.toNat - l.toNat) (cap - l.toNat), by simp only [execOp, ho, e2, Option.map_none, Sem.run_bind, hrun, Result.andThen_ok, Sem.run_pure], ?_⟩
  simp only [RepP]
  refine e4 _ fun hlt => ?_
  rw [if_neg (by omega)]

theorem slice_d {γ : Gh} {w : World} {u : T.U} {xs ys : List (T.El u)} {a b : Int} (hd : dsub xs a b = some ys) {v : Value} (h : RepC (T := T) γ w (.d (.sl u xs)) v) :
    ∃ A cap, v = .slice A xs.length cap ∧ xs.length ≤ cap ∧ ∀ A', (a.toNat < cap → A' = A.map (·.add (a.toNat * T.size u))) → RepC (T := T) γ w (.d (.sl u ys)) (.slice A' (b.toNat - a.toNat) (cap - a.toNat)) := by
  obtain ⟨d1, d2, d3, rfl⟩ := dsub_some hd
  obtain ⟨A, cap, rfl, hc, h'⟩ := RepD.sl_iff.1 h
  exact ⟨A, cap, rfl, hc, fun A' hA => RepD.sub h (by omega) (by omega) hA⟩

theorem slice_own {γ : Gh} {w : World} {u u' : T.U} {nm L : Nat} {a b : Int} (h0 : 0 ≤ a) (h1 : a ≤ b) (h2 : b ≤ L) {v : Value} (h : RepC (T := T) γ w (.own u' nm) v) (hb : ∃ A cap, γ.bt nm = some (.row A L cap) ∧ L ≤ cap) :
    ∃ A cap, v = .slice A L cap ∧ L ≤ cap ∧ ∀ A', (a.toNat < cap → A' = A.map (·.add (a.toNat * T.size u))) → RepC (T := T) γ w (.buf u nm a (b - a)) (.slice A' (b.toNat - a.toNat) (cap - a.toNat)) := by
  obtain ⟨A, cap, k1, k2⟩ := hb
  obtain ⟨A0, l, cap0, j1, rfl⟩ := h
  rw [k1] at j1; cases j1
  refine ⟨A, cap, rfl, k2, fun A' hA => ⟨A, L, cap, A', k1, h0, by omega, by omega, k2, ?_, fun hlt => hA (by omega)⟩⟩
  congr 1
  omega

theorem add_add (x : Addr) (p q : Nat) : (x.add p).add q = x.add (p + q) := by
  unfold Addr.add
  by_cases hp : p = 0
  · subst hp; simp
  · by_cases hq : q = 0
    · subst hq; simp [hp]
    · simp [hp, hq, Nat.add_assoc]

theorem slice_buf {γ : Gh} {w : World} {u : T.U} {nm : Nat} {off len a b : Int} (h0 : 0 ≤ a) (h1 : a ≤ b) (h2 : b ≤ len) {v : Value} (h : RepC (T := T) γ w (.buf u nm off len) v) :
    ∃ A cap, v = .slice A len.toNat cap ∧ len.toNat ≤ cap ∧ ∀ A', (a.toNat < cap → A' = A.map (·.add (a.toNat * T.size u))) → RepC (T := T) γ w (.buf u nm (off + a) (b - a)) (.slice A' (b.toNat - a.toNat) (cap - a.toNat)) := by
  obtain ⟨A0, L, cap0, A1, k1, k2, k3, k4, k5, rfl, k7⟩ := h
  refine ⟨A1, cap0 - off.toNat, rfl, by omega, fun A' hA => ⟨A0, L, cap0, A', k1, by omega, by omega, by omega, k5, ?_, fun hlt => ?_⟩⟩
  · congr 1 <;> omega
  · rw [hA (by omega), k7 (by omega)]
    cases A0 with
    | none => rfl
    | some ad =>
      simp only [Option.map_some, add_add, Option.some.injEq]
      congr 1
      rw [← Nat.add_mul]
      congr 1
      omega

/-! ### Function values and calls -/
theorem refIds_rep {γ : Gh} {w : World} : ∀ {ps : List (PV T)} {ids : List Nat} {vs : List Value}, refIds ps = some ids → RepPs γ w ps vs → ∃ bs : List Nat, ids.map γ.bt = bs.map (fun b => some (.blk b)) ∧ vs = bs.map fun b => Value.pointer (some ⟨b, 0, none⟩)
  | [], ids, vs, h, hr => by
    simp only [refIds, Option.some.injEq] at h
    subst h
    cases vs with
    | nil => exact ⟨[], rfl, rfl⟩
    | cons _ _ => simp only [RepPs] at hr
  | p :: ps, ids, vs, h, hr => by
    unfold refIds at h
    split at h
    · rename_i h0; cases h0
    · rename_i id qs h0
      cases h0
      split at h
      · rename_i ids' h1
        cases h
        cases vs with
        | nil => simp only [RepPs] at hr
        | cons v vs =>
          simp only [RepPs, RepP, RepC] at hr
          obtain ⟨⟨b, hb, rfl⟩, hr⟩ := hr
          obtain ⟨bs, k1, k2⟩ := refIds_rep h1 hr
          exact ⟨b :: bs, by simp [hb, k1], by simp [k2]⟩
      · cases h
    · cases h

theorem kv_mkf {f : FuncId} {caps : Array Operand} {xs : List (Opd T)} {ps : List (PV T)} {ids : List Nat} (ho : o.op = .makeFunc (.func f) #[] caps) (hx : cOpds caps.toList = some xs) (h : Rds σ xs ps) (hi' : refIds ps = some ids) :
    KValid C o σ (Opd.all xs) (.one (.fn f ids)) [] [] lo hi := by
  refine kv_pure fun σ' g1 _ γ a w hinv hs => ?_
  have hrep := Rds.rep hs hx g1 h
  obtain ⟨bs, k1, k2⟩ := refIds_rep hi' hrep
  refine ⟨.func (.func f) #[] (caps.map a.eval), by simp [execOp, ho, Instr.makeFunc], ?_⟩
  simp only [RepP, RepC]
  refine ⟨bs, k1, ?_⟩
  congr 1
  apply Array.ext'
  rw [Array.toList_map, k2]

def FnOK (P : Program) (f : FuncId) : Prop := ∃ fn, P.funcs[f]? = some fn ∧ (fn.name == "runtime.NumGoroutine") = false ∧ fn.body.isNone = false

/-- What a call comes to: from these arguments and this heap to that result and that heap; its own names lie between n and lim. -/
def CallOK (P : Program) (f : FuncId) (args : List (PV T)) (H : St T) (n lim : Nat) (r : PV T) (H' : St T) : Prop :=
  ∀ γ w vs, EntryOK ⟨γ, w, n, lim, fun nm => ∃ g, (Loc.h nm, g) ∈ H⟩ → HSat γ w H → RepPs γ w args vs → (∀ nm f, (Loc.h nm, f) ∈ H → nm < n ∨ lim ≤ nm) → GlobOK T γ.imm w → Calls P f vs.toArray w fun e w' => ∃ γ' v, e = .returned v ∧
    Inv ⟨γ, w, n, lim, fun nm => ∃ g, (Loc.h nm, g) ∈ H⟩ γ' w' ∧ HSat γ' w' H' ∧ RepP γ' w' r v

theorem run_callFunc {P : Program} {f : FuncId} (h : FnOK P f) (args : Array Value) (w : World) : (callFunc f args).run P w = .ok (.enter f args) w := by
  obtain ⟨fn, h1, h2, h3⟩ := h
  have h2' : fn.name ≠ "runtime.NumGoroutine" := by simpa using h2
  have h3' : fn.body ≠ none := by intro h; rw [h] at h3; cases h3
  simp [callFunc, h1, h2', h3']

def CallRun (C : Ctx) (o : Oper) (σ : St T) (sl : List Nat) (f : FuncId) (args : List (PV T)) : Prop :=
  ∀ σ', (∀ i ∈ sl, look σ' (.s i) = look σ (.s i)) → ∀ γ a w, Sat C.E C.N γ w a σ' → ∃ vs : List Value, (execOp a.eval o).run C.P w = (callFunc f vs.toArray).run C.P w ∧ RepPs γ w args vs

theorem callRun_call {f : FuncId} {args : Array Operand} {ts : Array TypeId} {xs : List (Opd T)} {ps : List (PV T)} (ho : o.op = .call { callee := .value (.func f), args := args, argTypes := ts }) (hx : cOpds args.toList = some xs) (h : Rds σ xs ps) :
    CallRun C o σ (Opd.all xs) f ps := by
  intro σ' g1 γ a w hs
  refine ⟨args.toList.map a.eval, ?_, Rds.rep hs hx g1 h⟩
  have e : (args.toList.map a.eval).toArray = args.map a.eval := by apply Array.ext'; simp
  rw [e]
  simp [execOp, ho, resolve, invoke, Deferred.ofValue, Act.eval]

theorem refs_rep {γ : Gh} {w : World} : ∀ {ids : List Nat} {bs : List Nat}, ids.map γ.bt = bs.map (fun b => some (.blk b)) → RepPs (T := T) γ w (refs ids) (bs.map fun b => Value.pointer (some ⟨b, 0, none⟩))
  | [], [], _ => by simp only [refs, List.map_nil, RepPs]
  | id :: ids, b :: bs, h => by
    simp only [List.map_cons, List.cons.injEq] at h
    simp only [refs, List.map_cons, RepPs, RepP, RepC]
    exact ⟨⟨b, h.1, rfl⟩, refs_rep h.2⟩
  | [], _ :: _, h => by simp at h
  | _ :: _, [], h => by simp at h

theorem RepPs.append {γ : Gh} {w : World} : ∀ {ps qs : List (PV T)} {vs us : List Value}, RepPs γ w ps vs → RepPs γ w qs us → RepPs γ w (ps ++ qs) (vs ++ us)
  | [], _, [], _, _, k => k
  | _ :: _, _, _ :: _, _, h, k => by
    simp only [RepPs] at h
    simp only [List.cons_append, RepPs]
    exact ⟨h.1, RepPs.append h.2 k⟩
  | [], _, _ :: _, _, h, _ => by simp only [RepPs] at h
  | _ :: _, _, [], _, h, _ => by simp only [RepPs] at h

theorem callRun_dyn {f : Operand} {F : Opd T} {g : FuncId} {ids : List Nat} {args : Array Operand} {ts : Array TypeId} {xs : List (Opd T)} {ps : List (PV T)} (ho : o.op = .call { callee := .value f, args := args, argTypes := ts }) (hF : cOpd f = some F) (hx : cOpds args.toList = some xs)
    (h : Rd σ F (.one (.fn g ids))) (h2 : Rds σ xs ps) : CallRun C o σ (F.slots ++ Opd.all xs) g (ps ++ refs ids) := by
  intro σ' g1 γ a w hs
  have e1 := Rd.rep hs hF (fun j hj => g1 j (left hj)) h
  have e2 := Rds.rep hs hx (fun j hj => g1 j (right hj)) h2
  simp only [RepP, RepC] at e1
  obtain ⟨bs, k1, k2⟩ := e1
  refine ⟨args.toList.map a.eval ++ bs.map fun b => Value.pointer (some ⟨b, 0, none⟩), ?_, e2.append (refs_rep k1)⟩
  have e : (args.toList.map a.eval ++ bs.map fun b => Value.pointer (some ⟨b, 0, none⟩)).toArray = args.map a.eval ++ (bs.map fun b => Value.pointer (some ⟨b, 0, none⟩)).toArray := by apply Array.ext'; simp
  rw [e]
  simp [execOp, ho, resolve, invoke, Deferred.ofValue, k2]

theorem heapAt_mem : ∀ {nms : List Nat} {l : Loc} {f : Fact T}, (l, f) ∈ heapAt σ nms → ∃ nm, l = .h nm ∧ look σ (.h nm) = some f
  | [], _, _, h => by simp [heapAt] at h
  | nm :: r, l, f, h => by
    simp only [heapAt] at h
    split at h
    · rename_i g hg
      rcases List.mem_cons.1 h with h | h
      · cases h; exact ⟨nm, rfl, hg⟩
      · exact heapAt_mem h
    · exact heapAt_mem h

theorem kv_call {f : FuncId} {args : List (PV T)} {H H' : St T} {n lim : Nat} {r : PV T} {sl : List Nat} (hf : FnOK C.P f) (hlim : lim ≤ C.E.lim) (hbase : C.E.base ≤ n) (hc : CallOK C.P f args H n lim r H')
    (hH : ∀ l g, (l, g) ∈ H → ∃ nm, l = .h nm ∧ look σ (.h nm) = some g) (hHn : ∀ nm f, (Loc.h nm, f) ∈ H → nm < n ∨ lim ≤ nm)
    (hH' : ∀ l g, (l, g) ∈ H' → ∃ nm, l = .h nm ∧ ((∃ g', (l, g') ∈ H) ∨ (n ≤ nm ∧ nm < lim))) (hrun : CallRun C o σ sl f args) :
    KValid C o σ sl r (H.map (·.1)) ((H.map fun x => (x.1, none)) ++ H'.map fun x => (x.1, some x.2)) n lim := by
  intro σ' g1 g2 γ a w hi hs hfr Q
  obtain ⟨vs, hr, hrep⟩ := hrun σ' g1 γ a w hs
  unfold Oper.wp
  rw [hr, run_callFunc hf, Oper.upon_enter]
  have hlk : ∀ nm g, (Loc.h nm, g) ∈ H → look σ' (.h nm) = some g := fun nm g hm => by
    obtain ⟨nm', e, h1⟩ := hH _ _ hm
    cases e
    exact (g2 _ (List.mem_map.2 ⟨_, hm, rfl⟩)).trans h1
  have hHs : HSat γ w H := fun l g hm => by
    obtain ⟨nm, rfl, _⟩ := hH l g hm
    exact ⟨(hs.facts _ g (hlk nm g hm)).mem (by simp), by simp⟩
  have hE : EntryOK ⟨γ, w, n, lim, fun nm => ∃ g, (Loc.h nm, g) ∈ H⟩ := ⟨fun nm hl => hfr nm hl.1 hl.2, hi.ok⟩
  refine (hc γ w vs hE hHs hrep hHn hs.glob).mono ?_
  rintro e w' ⟨γ', v, rfl, k1, k2, k3⟩
  have ev : Evo (fun nm => ∃ g, (Loc.h nm, g) ∈ H) γ w γ' w' := { k1.evo with
    os := k1.os, tape := k1.tape, output := k1.output
    same := fun b hb hx => k1.same b hb hx
    bt := fun nm v hv => by
      rcases Classical.em (n ≤ nm ∧ nm < lim) with h | h
      · rw [(hfr nm h.1 h.2).1] at hv; cases hv
      · exact k1.bt nm v h hv }
  refine ⟨γ', v, _, rfl, fun _ _ => k3, ev, fun nm ⟨g, hg⟩ => ⟨hs.perm nm g (hlk nm g hg), ?_⟩, fun l g hm => ?_, fun nm hn => ?_, fun b nm hb => ?_, k1.ok, fun nm hnm hl => ⟨?_, fun b hb => ?_⟩⟩
  · simp only [locs, List.map_append, List.mem_append, List.mem_map]
    exact .inl ⟨(.h nm, none), ⟨_, hg, rfl⟩, rfl⟩
  · simp only [List.mem_append, List.mem_map, Prod.mk.injEq, reduceCtorEq, and_false, exists_false, false_or] at hm
    obtain ⟨⟨l', g'⟩, hm', rfl, hg⟩ := hm
    cases hg
    obtain ⟨nm, rfl, h4⟩ := hH' l' g' hm'
    refine ⟨nm, rfl, ?_, fun tm => (k2 _ _ hm').1.mem (by simp)⟩
    rcases h4 with ⟨g2', h4⟩ | h4
    · exact hs.perm nm g2' (hlk nm g2' h4)
    · exact .inr ⟨by omega, by omega⟩
  · have hnl : ¬ (n ≤ nm ∧ nm < lim) := fun h => hn ⟨by omega, by omega⟩
    cases hb : γ.bt nm with
    | none => exact k1.out nm hnl hb
    | some v => exact k1.bt nm v hnl hb
  · rcases k1.new b nm hb with h | ⟨_, h⟩
    · exact .inl ⟨by have := h.1; simp only at this; omega, by have := h.2; simp only at this; omega⟩
    · exact .inr h
  · have hnl : ¬ (n ≤ nm ∧ nm < lim) := by omega
    cases hb : γ.bt nm with
    | none => exact k1.out nm hnl hb
    | some v => exact k1.bt nm v hnl hb
  · rcases k1.new b nm hb with h | ⟨_, h⟩
    · exact absurd h (by simp only [Entry.loc]; omega)
    · exact h
end
end Go.G
namespace Go.G
variable {T : Uni}

def zShape (P : Program) (t : TypeId) : Option (List (CV T)) :=
  match P.info? t with
  | some i => match i.zero with
    | some (.agg cs) => match tyAg P t with
      | some true => zCVs cs.toList
      | _ => none
    | some v => match tyAg P t, zCV v with
      | some false, some c => some [c]
      | _, _ => none
    | none => none
  | none => none

theorem zShape_run {P : Program} {γ : Gh} {w : World} {t : TypeId} {q : List (CV T)} {ag : Bool} (h : zShape P t = some q) (ha : tyAg P t = some ag) : ∃ z, (zeroValue t).run P w = .ok z w ∧ RepP γ w (shp ag q) z := by
  unfold zShape at h
  split at h
  · rename_i i hi
    split at h
    · rename_i cs hz
      rw [ha] at h
      cases ag with
      | false => simp at h
      | true =>
        simp only at h
        refine ⟨.agg cs, by simp [zeroValue, typeInfo, hi, hz], ?_⟩
        simp only [shp, RepP]
        exact ⟨cs.toList, by simp, zCVs_rep h⟩
    · rename_i v _ hz
      rw [ha] at h
      cases ag with
      | true => simp at h
      | false =>
        split at h
        · rename_i x hx
          cases h
          refine ⟨v, by simp [zeroValue, typeInfo, hi, hz], ?_⟩
          simp only [shp, RepP]
          rename_i h1
          exact zCV_rep (by assumption)
        · cases h
    · cases h
  · cases h

/-- What a search has found, beside what it should find. -/
def Found (imm : Nat → Nat) (w : World) (uv : T.U) (key : Value) (es : List MapEntry) (i0 : Nat) : Option (Nat × T.El uv) → Option (Nat × Value) → Prop
  | none, none => True
  | some (i, q), some (j, v) => i = j ∧ (∃ vs, v = mkV (T.ag uv) vs ∧ RepDs imm w (T.enc uv q) vs) ∧ i0 ≤ i ∧ ∃ e, es[i - i0]? = some e ∧ e.key = key
  | _, _ => False

def mfindI {α β : Type} (eq : α → α → Bool) : List (α × β) → α → Nat → Option (Nat × β)
  | [], _, _ => none
  | (k', v) :: r, k, i => if eq k k' then some (i, v) else mfindI eq r k (i + 1)

theorem mfindI_find {α β : Type} (eq : α → α → Bool) (k : α) : ∀ (l : List (α × β)) (i : Nat), (mfindI eq l k i).map (·.2) = mfind eq l k
  | [], _ => rfl
  | (k', v) :: r, i => by
    have ih := mfindI_find eq k r (i + 1)
    simp only [mfindI, mfind, List.find?_cons] at ih ⊢
    by_cases h : eq k k' = true
    · simp [h]
    · simp only [h, Bool.false_eq_true, if_false]
      exact ih

def mputI {α β : Type} (l : List (α × β)) (k : α) (v : β) : Option (Nat × β) → List (α × β)
  | some (i, _) => l.set i (k, v)
  | none => l ++ [(k, v)]

theorem mputI_set {α β : Type} (eq : α → α → Bool) (k : α) (v : β) : ∀ (l : List (α × β)) (i : Nat), mset eq l k v = match mfindI eq l k i with
    | some (j, _) => l.set (j - i) (k, v)
    | none => l ++ [(k, v)]
  | [], _ => rfl
  | (k', x) :: r, i => by
    have ih := mputI_set eq k v r (i + 1)
    simp only [mset, mfindI]
    by_cases h : eq k k' = true
    · simp [h]
    · simp only [h, Bool.false_eq_true, if_false]
      rw [ih]
      cases hf : mfindI eq r k (i + 1) with
      | none => rfl
      | some q =>
        obtain ⟨j, q⟩ := q
        have hj : ∀ (l : List (α × β)) (i j : Nat) (q : β), mfindI eq l k i = some (j, q) → i ≤ j := by
          intro l
          induction l with
          | nil => intro i j q h; simp [mfindI] at h
          | cons y ys ih2 =>
            intro i j q h
            obtain ⟨y1, y2⟩ := y
            simp only [mfindI] at h
            split at h
            · simp at h; omega
            · have := ih2 _ _ _ h; omega
        have := hj _ _ _ _ hf
        simp only
        rw [show j - i = (j - (i + 1)) + 1 by omega]
        rfl

section
variable {P : Program} {imm : Nat → Nat} {γ : Gh} {w : World}

theorem deqs_ceqs : ∀ (ks : List K1) (xs ys : List (DV T.toSig)), ceqs ks (xs.map CV.d) (ys.map CV.d) = deqs ks xs ys
  | [], [], [] => rfl
  | k :: ks, x :: xs, y :: ys => by simp only [List.map_cons, ceqs, deqs, ceq, deqs_ceqs ks xs ys]
  | [], [], _ :: _ => rfl
  | [], _ :: _, _ => rfl
  | _ :: _, [], _ => rfl
  | _ :: _, _ :: _, [] => rfl

theorem deqs_true : ∀ {ks : List K1} {cs ds : List (DV T.toSig)} {xs ys : List Value}, deqs ks cs ds = some true → RepDs imm w cs xs → RepDs imm w ds ys → xs = ys
  | [], [], [], [], [], _, _, _ => rfl
  | k :: ks, c :: cs, d :: ds, x :: xs, y :: ys, h, hx, hy => by
    simp only [deqs] at h
    split at h
    · rename_i a b h1 h2
      simp only [Option.some.injEq, Bool.and_eq_true] at h
      obtain ⟨rfl, rfl⟩ := h
      rw [deqs_true h2 hx.2 hy.2]
      congr 1
      have e1 := hx.1
      have e2 := hy.1
      unfold deq1 at h1
      split at h1
      · split at h1
        · rename_i hk
          simp only [Option.some.injEq, ieq, decide_eq_true_eq] at h1
          have hk := same_eq hk
          subst h1; subst hk
          rw [RepD.int_iff.1 e1, RepD.int_iff.1 e2]
        · cases h1
      · simp only [Option.some.injEq, beqb, beq_iff_eq] at h1
        subst h1
        rw [RepD.bool_iff.1 e1, RepD.bool_iff.1 e2]
      · cases h1
    · cases h
  | [], _ :: _, _, _, _, h, _, _ => by simp [deqs] at h
  | [], [], _ :: _, _, _, h, _, _ => by simp [deqs] at h
  | _ :: _, [], _, _, _, h, _, _ => by simp [deqs] at h
  | _ :: _, _ :: _, [], _, _, h, _, _ => by simp [deqs] at h
  | [], [], [], _ :: _, _, _, h, _ => h.elim
  | [], [], [], [], _ :: _, _, _, h => h.elim
  | _ :: _, _ :: _, _ :: _, [], _, _, h, _ => h.elim
  | _ :: _, _ :: _, _ :: _, _ :: _, [], _, _, h => h.elim

def Plain1 (v : Value) : Prop := match v with
  | .int .. | .bool _ => True
  | _ => False

theorem deqs_plain : ∀ {ks : List K1} {cs ds : List (DV T.toSig)} {xs : List Value} {r : Bool}, deqs ks cs ds = some r → RepDs imm w cs xs → ∀ x ∈ xs, Plain1 x
  | [], [], [], [], _, _, _ => by simp
  | k :: ks, c :: cs, d :: ds, x :: xs, r, h, hx => by
    simp only [deqs] at h
    split at h
    · rename_i a b h1 h2
      intro y hy
      rcases List.mem_cons.1 hy with rfl | hy
      · have e1 := hx.1
        unfold deq1 at h1
        split at h1
        · rw [RepD.int_iff.1 e1]; trivial
        · rw [RepD.bool_iff.1 e1]; trivial
        · cases h1
      · exact deqs_plain h2 hx.2 y hy
    · cases h
  | [], _ :: _, _, _, _, h, _ => by simp [deqs] at h
  | [], [], _ :: _, _, _, h, _ => by simp [deqs] at h
  | _ :: _, [], _, _, _, h, _ => by simp [deqs] at h
  | _ :: _, _ :: _, [], _, _, h, _ => by simp [deqs] at h
  | [], [], [], _ :: _, _, _, h => h.elim
  | _ :: _, _ :: _, _ :: _, [], _, _, h => h.elim

theorem sameBits_plain {v : Value} (h : Plain1 v) (n : Nat) : Instr.sameBits n v v = true := by
  cases v <;> first | exact h.elim | skip
  all_goals (cases n <;> simp [Instr.sameBits])

theorem sameBits_mkV {ag : Bool} {vs : List Value} (h : ∀ x ∈ vs, Plain1 x) (h1 : ag = false → vs.length = 1) (n : Nat) : Instr.sameBits (n + 1) (mkV ag vs) (mkV ag vs) = true := by
  cases ag with
  | false =>
    match vs, h1 rfl with
    | [v], _ => exact sameBits_plain (h v (by simp)) _
  | true =>
    simp only [mkV, if_true, Instr.sameBits, beq_self_eq_true, Bool.true_and]
    rw [List.all_eq_true]
    rintro ⟨x, y⟩ hm
    have : x = y ∧ x ∈ vs := by
      clear h h1
      induction vs with
      | nil => simp at hm
      | cons v vs ih =>
        simp only [List.zip_cons_cons, List.mem_cons, Prod.mk.injEq] at hm
        rcases hm with ⟨rfl, rfl⟩ | hm
        · simp
        · have := ih hm
          exact ⟨this.1, by simp [this.2]⟩
    obtain ⟨rfl, hx⟩ := this
    exact sameBits_plain (h x hx) _

theorem Found.cons {uv : T.U} {es : List MapEntry} {e : MapEntry} {i0 : Nat} {a : Option (Nat × T.El uv)} {key : Value} {b : Option (Nat × Value)} (h : Found imm w uv key es (i0 + 1) a b) : Found imm w uv key (e :: es) i0 a b := by
  cases a with
  | none => cases b <;> exact h
  | some x =>
    cases b with
    | none => exact h
    | some y =>
      obtain ⟨h1, h2, h3, h4⟩ := h
      refine ⟨h1, h2, by omega, ?_⟩
      rw [show x.1 - i0 = (x.1 - (i0 + 1)) + 1 by omega]
      simpa using h4

structure KeyT (P : Program) (uk : T.U) (t : TypeId) : Prop where
  hk : kinds P 50 t = some (T.kds uk)
  ha : tyAg P t = some (T.ag uk)
  ik : T.isKey uk = true

theorem key_equal {t : TypeId} {uk : T.U} (K : KeyT P uk t) {k k' : T.El uk} {kv vs : List Value} (hr : RepDs γ.imm w (T.enc uk k) kv) (hr' : RepDs γ.imm w (T.enc uk k') vs) : (Op.equal t (mkV (T.ag uk) kv) (mkV (T.ag uk) vs)).run P w = .ok (T.keq uk k k') w :=
  kinds_eq γ w 50 t (T.kds uk) _ _ kv vs _ (T.ag uk) 10000 K.hk K.ha (by omega) hr.cs hr'.cs (by rw [deqs_ceqs]; exact T.keq_row uk k k' K.ik)

theorem findAsking_run {t : TypeId} {uk uv : T.U} (K : KeyT P uk t) {k : T.El uk} {kv : List Value} (hr : RepDs γ.imm w (T.enc uk k) kv) :
    ∀ (l : List (T.El uk × T.El uv)) (es : List MapEntry) (i : Nat), RepM γ.imm w uk uv l es → ∃ r', (Instr.findAsking t (mkV (T.ag uk) kv) es i).run P w = .ok r' w ∧ Found γ.imm w uv (mkV (T.ag uk) kv) es i (mfindI (T.keq uk) l k i) r'
  | [], [], i, _ => ⟨none, by simp [Instr.findAsking], trivial⟩
  | (k', v) :: l, e :: es, i, hm => by
    obtain ⟨⟨vs, h1, h2⟩, h3, h4⟩ := hm
    have key := key_equal K hr h2
    rw [← h1] at key
    simp only [mfindI]
    by_cases he : T.keq uk k k' = true
    · rw [he] at key
      rw [if_pos he]
      refine ⟨some (i, e.val), by simp [Instr.findAsking, key], rfl, h3, Nat.le_refl _, e, by simp, ?_⟩
      rw [h1, deqs_true (by rw [T.keq_row uk k k' K.ik, he]) hr h2]
    · rw [Bool.not_eq_true] at he
      rw [he] at key
      rw [if_neg (by simp [he])]
      obtain ⟨r', g1, g2⟩ := findAsking_run K hr l es (i + 1) h4
      exact ⟨r', by simp [Instr.findAsking, key, g1], g2.cons⟩
  | [], _ :: _, _, hm => hm.elim
  | _ :: _, [], _, hm => hm.elim

theorem eq_str (a b : ByteArray) : (a == b) = (a.toList == b.toList) := Go.beq_toListBytes a b

theorem sameNow_eq {t : TypeId} {d : TypeDesc} {x y : Value} {b b' : Bool} (hu : P.underlying t = some d) (hs : Instr.sameNow d x y = some b) (he : (Op.equal t x y).run P w = .ok b' w) : b = b' := by
  have hm : Op.equal t x y = Op.equalIn (9999 + 1) t x y := rfl
  rw [hm] at he
  unfold Instr.sameNow at hs
  split at hs
  · split at hs
    · rename_i hk
      subst hk
      cases hs
      rw [run_equalIn_int w 9999 t _ _ _ _ hu] at he
      cases he
      rfl
    · cases hs
  · cases hs
    rw [run_equalIn_string w 9999 t _ _ hu] at he
    cases he
    rw [eq_str]
  · cases hs
    rw [run_equalIn_bool' w 9999 t _ _ hu] at he
    cases he
    rfl
  · cases hs

theorem findNow_run {t : TypeId} {d : TypeDesc} {uk uv : T.U} (K : KeyT P uk t) {k : T.El uk} {kv : List Value} (hu : P.underlying t = some d) (hr : RepDs γ.imm w (T.enc uk k) kv) :
    ∀ (l : List (T.El uk × T.El uv)) (es : List MapEntry) (i : Nat) (r' : Option (Nat × Value)), RepM γ.imm w uk uv l es → Instr.findNow d (mkV (T.ag uk) kv) es i = some r' → Found γ.imm w uv (mkV (T.ag uk) kv) es i (mfindI (T.keq uk) l k i) r'
  | [], [], i, r', _, hf => by
    simp only [Instr.findNow, Option.some.injEq] at hf
    subst hf
    trivial
  | (k', v) :: l, e :: es, i, r', hm, hf => by
    obtain ⟨⟨vs, h1, h2⟩, h3, h4⟩ := hm
    have key := key_equal K hr h2
    rw [← h1] at key
    simp only [mfindI]
    simp only [Instr.findNow] at hf
    split at hf
    · rename_i hs
      cases hf
      have he := sameNow_eq hu hs key
      rw [if_pos he.symm]
      exact ⟨rfl, h3, Nat.le_refl _, e, by simp, by rw [h1, deqs_true (by rw [T.keq_row uk k k' K.ik, ← he]) hr h2]⟩
    · rename_i hs
      have he := sameNow_eq hu hs key
      rw [if_neg (by simp [← he])]
      exact (findNow_run K hu hr l es (i + 1) r' h4 hf).cons
    · cases hf
  | [], _ :: _, _, _, hm, _ => hm.elim
  | _ :: _, [], _, _, hm, _ => hm.elim

theorem findKey_run {t : TypeId} {uk uv : T.U} (K : KeyT P uk t) {k : T.El uk} {kv : List Value} (hr : RepDs γ.imm w (T.enc uk k) kv) {l : List (T.El uk × T.El uv)} {es : List MapEntry} (hm : RepM γ.imm w uk uv l es) :
    ∃ r', (Instr.findKey t (mkV (T.ag uk) kv) es).run P w = .ok r' w ∧ Found γ.imm w uv (mkV (T.ag uk) kv) es 0 (mfindI (T.keq uk) l k 0) r' := by
  cases hu : P.underlying t with
  | none => have := K.ha; simp [tyAg, hu] at this
  | some d =>
    cases hf : Instr.findNow d (mkV (T.ag uk) kv) es 0 with
    | some r' => exact ⟨r', by simp [Instr.findKey, run_underlying hu, hf], findNow_run K hu hr _ _ _ _ hm hf⟩
    | none =>
      obtain ⟨r', g1, g2⟩ := findAsking_run K hr l es 0 hm
      exact ⟨r', by simp [Instr.findKey, run_underlying hu, hf, g1], g2⟩

mutual
theorem checkKey_run (em : Bool) : ∀ (d : Nat) (t : TypeId) (ks : List K1) (ag : Bool) (vs : List Value) (dd : Nat), kinds P d t = some ks → tyAg P t = some ag → d ≤ dd → vs.length = ks.length → (Instr.checkKey em dd t (mkV ag vs)).run P w = .ok () w
  | 0, t, ks, ag, vs, dd, h, _, _, _ => by simp [kinds] at h
  | d + 1, t, ks, ag, vs, 0, h, ha, hd, hl => by omega
  | d + 1, t, ks, ag, vs, dd + 1, h, ha, hd, hl => by
    unfold kinds at h
    unfold tyAg at ha
    cases hu : P.underlying t with
    | none => simp [hu] at h
    | some x =>
      cases x <;> simp only [hu] at h ha <;> first | (cases h; done) | skip
      case int => simp [Instr.checkKey, run_underlying hu]
      case bool => simp [Instr.checkKey, run_underlying hu]
      case struct fs =>
        cases ha
        split at h
        · cases h
        · simp only [mkV, if_true]
          rw [Instr.checkKey]
          simp only [Sem.run_bind, run_underlying hu, Result.andThen_ok]
          rw [← Array.forIn_toList]
          have h5 := checkFields_run em d fs.toList 0 ks vs dd h (by omega) (by omega)
          simp only [h5, Result.andThen_ok, Sem.run_pure]
      case array n e =>
        cases ha
        split at h
        · rename_i ks' hks
          split at h
          · rename_i hsz
            cases h
            obtain ⟨ag, ha, h1⟩ := kinds_ag hks
            rw [flatLen] at hl
            simp only [mkV, if_true]
            rw [Instr.checkKey]
            simp only [Sem.run_bind, run_underlying hu, Result.andThen_ok]
            simp only [Std.Legacy.Range.forIn_eq_forIn_range', Std.Legacy.Range.size, Nat.sub_zero, Nat.add_one_sub_one, Nat.div_one]
            have key : ∀ (k j : Nat), j + k = n → (forIn (List.range' j k) PUnit.unit fun i _ => do
                Instr.checkKey em dd e (← part e vs.toArray (i * (← sizeOf e)))
                pure (ForInStep.yield PUnit.unit) : Sem PUnit).run P w = .ok () w := by
              intro k
              induction k with
              | zero => intro j _; simp
              | succ k ih =>
                intro j hj
                have h8 : n * ks'.length = j * ks'.length + (k + 1) * ks'.length := by rw [← hj, Nat.add_mul]
                have h9 : (k + 1) * ks'.length = k * ks'.length + ks'.length := by rw [Nat.add_mul]; omega
                have p1 := run_part_mk ha hsz h1 vs (j * ks'.length) (by omega) w
                have p2 := checkKey_run em d e ks' ag ((vs.drop (j * ks'.length)).take ks'.length) dd hks ha (by omega) (by simp; omega)
                simp only [List.range'_succ, List.forIn_cons, Sem.run_bind, run_sizeOf hsz, Result.andThen_ok, p1, p2, Sem.run_pure]
                have := ih (j + 1) (by omega)
                simpa using this
            have h5 := key n 0 (by omega)
            simp only [h5, Result.andThen_ok, Sem.run_pure]
          · cases h
        · cases h
theorem checkFields_run (em : Bool) : ∀ (d : Nat) (fs : List Field) (off : Nat) (ks : List K1) (vs : List Value) (dd : Nat), kindsF P d fs off = some ks → d ≤ dd → off + ks.length ≤ vs.length →
    (forIn fs PUnit.unit fun f _ => if f.name ≠ "_" then do
        let x ← part f.type vs.toArray f.offset
        Instr.checkKey em dd f.type x
        pure (ForInStep.yield PUnit.unit)
      else pure (ForInStep.yield PUnit.unit) : Sem PUnit).run P w = .ok () w
  | d, [], off, ks, vs, dd, _, _, _ => by simp
  | 0, _ :: _, off, ks, vs, dd, h, _, _ => by simp [kindsF] at h
  | d + 1, f :: fs, off, ks, vs, 0, h, hd, hl => by omega
  | d + 1, f :: fs, off, ks, vs, dd + 1, h, hd, hl => by
    unfold kindsF at h
    split at h
    · rename_i hcond
      obtain ⟨hoff, hname⟩ := hcond
      split at h
      · rename_i ks' hks
        split at h
        · rename_i hsz
          split at h
          · rename_i rest hrest
            cases h
            obtain ⟨ag, ha, h1⟩ := kinds_ag hks
            simp only [List.length_append] at hl
            have p1 := run_part_mk ha hsz h1 vs off (by omega) w
            have p2 := checkKey_run em d f.type ks' ag ((vs.drop off).take ks'.length) (dd + 1) hks ha (by omega) (by simp; omega)
            have ih := checkFields_run em d fs (off + ks'.length) rest vs (dd + 1) hrest (by omega) (by omega)
            simp only [List.forIn_cons, Sem.run_bind, hname, hoff, ne_eq, not_false_eq_true, if_true, p1, p2, Result.andThen_ok, Sem.run_pure]
            simpa using ih
          · cases h
        · cases h
      · cases h
    · cases h
end
end
end Go.G
namespace Go.G
variable {T : Uni}

theorem RepM.push {imm : Nat → Nat} {w : World} {uk uv : T.U} {k : T.El uk} {q : T.El uv} {e : MapEntry} (hk : ∃ vs, e.key = mkV (T.ag uk) vs ∧ RepDs imm w (T.enc uk k) vs) (hv : ∃ vs, e.val = mkV (T.ag uv) vs ∧ RepDs imm w (T.enc uv q) vs) :
    ∀ {l : List (T.El uk × T.El uv)} {es : List MapEntry}, RepM imm w uk uv l es → RepM imm w uk uv (l ++ [(k, q)]) (es ++ [e])
  | [], [], _ => ⟨hk, hv, trivial⟩
  | (_, _) :: _, _ :: _, ⟨h1, h2, h3⟩ => ⟨h1, h2, RepM.push hk hv h3⟩
  | [], _ :: _, h => h.elim
  | _ :: _, [], h => h.elim

theorem RepM.set {imm : Nat → Nat} {w : World} {uk uv : T.U} {k : T.El uk} {q : T.El uv} {f : MapEntry → MapEntry} (hk : ∀ e, ∃ vs, (f e).key = mkV (T.ag uk) vs ∧ RepDs imm w (T.enc uk k) vs) (hv : ∀ e, ∃ vs, (f e).val = mkV (T.ag uv) vs ∧ RepDs imm w (T.enc uv q) vs) :
    ∀ {l : List (T.El uk × T.El uv)} {es : List MapEntry} (i : Nat), RepM imm w uk uv l es → RepM imm w uk uv (l.set i (k, q)) (es.modify i f)
  | [], [], _, _ => by simp [RepM]
  | (_, _) :: _, e :: _, 0, ⟨_, _, h3⟩ => ⟨hk e, hv e, h3⟩
  | (_, _) :: _, _ :: _, i + 1, ⟨h1, h2, h3⟩ => ⟨h1, h2, RepM.set hk hv i h3⟩
  | [], _ :: _, _, h => h.elim
  | _ :: _, [], _, h => h.elim

theorem keyOf_rep {γ : Gh} {w : World} {ag : Bool} {p : PV T} {cs : List (CV T)} {v : Value} (h : keyOf ag p = some cs) (hr : RepP γ w p v) : ∃ vs, v = mkV ag vs ∧ RepCs γ w cs vs := by
  unfold keyOf at h
  split at h
  · cases h
    simp only [RepP] at hr
    obtain ⟨vs, e, hr⟩ := hr
    exact ⟨vs, by simp [mkV, e], hr⟩
  · cases h
    simp only [RepP] at hr
    exact ⟨[v], by simp [mkV], hr, trivial⟩
  · cases h

section
variable {C : Ctx} {o : Oper} {σ : St T} {lo hi : Nat}

/-- Cells that are data without a buffer among them. -/
theorem rowOf_plain {γ : Gh} {w : World} : ∀ {shs : List (Option T.U)} {cs : List (CV T)} {xs : List (DV T.toSig)} {vs : List Value}, rowOf σ shs cs = some (xs, []) → RepCs γ w cs vs → RepDs γ.imm w xs vs
  | [], [], xs, vs, h, hr => by
    simp only [rowOf, Option.some.injEq, Prod.mk.injEq] at h
    obtain ⟨rfl, _⟩ := h
    cases vs with
    | nil => trivial
    | cons _ _ => exact hr.elim
  | sh :: shs, c :: cs, xs, vs, h, hr => by
    simp only [rowOf] at h
    split at h
    · rename_i x fs hx'
      split at h
      · rename_i ys gs hy'
        simp only [Option.some.injEq, Prod.mk.injEq, List.append_eq_nil_iff] at h
        obtain ⟨rfl, rfl, rfl⟩ := h
        cases vs with
        | nil => exact hr.elim
        | cons v vs =>
          refine ⟨?_, rowOf_plain hy' hr.2⟩
          cases c with
          | d y => simp only [cvD, Option.some.injEq, Prod.mk.injEq] at hx'; obtain ⟨rfl, _⟩ := hx'; exact hr.1
          | nl =>
            cases sh with
            | none => simp [cvD] at hx'
            | some u =>
              simp only [cvD, Option.some.injEq, Prod.mk.injEq] at hx'
              obtain ⟨rfl, _⟩ := hx'
              obtain ⟨A, h⟩ := hr.1
              subst h
              exact .nil _ _ _
          | own u0 nm => simp only [cvD] at hx'; split at hx' <;> simp at hx'
          | buf u0 nm off len =>
            simp only [cvD] at hx'
            split at hx' <;> try simp at hx'
            split at hx' <;> try simp at hx'
          | _ => cases sh <;> simp [cvD] at hx'
      · cases h
    · cases h
  | [], _ :: _, _, _, h, _ => by simp [rowOf] at h
  | _ :: _, [], _, _, h, _ => by simp [rowOf] at h

theorem kv_mkm {t : TypeId} {uk uv : T.U} {n : Nat} (ho : o.op = .makeMap t none) (hl : C.E.loc n) : KValid C o σ [] (.one (.mp n)) [] [(.h n, some (.m uk uv []))] n (n + 1) := by
  refine kv_newO (g := .blk) (im := 0) hl fun σ' _ _ γ a w _ hs => ⟨.map #[] 0, .map (some w.heap.size), ?_, fun γ' _ b1 b2 b3 => ⟨?_, fun tm => ?_⟩⟩
  · simp [execOp, ho, Instr.makeMap]
  · simp only [RepP, RepC]
    exact ⟨_, b1, rfl⟩
  · exact ⟨w.heap.size, #[], 0, b1, b2, by simp, heap_alloc_at _ _, trivial⟩

theorem shp_mkV {γ : Gh} {w : World} {ag : Bool} {cs : List (CV T)} {vs : List Value} (h : RepCs γ w cs vs) (h1 : ag = false → cs.length = 1) : RepP γ w (shp ag cs) (mkV ag vs) := by
  cases ag with
  | true => simp only [shp, mkV, if_true, RepP]; exact ⟨vs, rfl, h⟩
  | false =>
    match cs, vs, h, h1 rfl with
    | [c], [v], h, _ => simp only [shp, mkV, RepP]; exact h.1

def lookRes (z : List (CV T)) (uv : T.U) (comma : Bool) (r : Option (T.El uv)) : PV T :=
  match r with
  | some v => if comma then .tup [shp (T.ag uv) ((T.enc uv v).map CV.d), bl true] else shp (T.ag uv) ((T.enc uv v).map CV.d)
  | none => if comma then .tup [shp (T.ag uv) z, bl false] else shp (T.ag uv) z

theorem kv_mlook {xT key elem : TypeId} {x idx : Operand} {Xx Ii : Opd T} {comma : Bool} {uk uv : T.U} {z : List (CV T)} {p : PV T} {nm : Nat} {l : List (T.El uk × T.El uv)} {k : T.El uk} {cs : List (CV T)} {xs : List (DV T.toSig)} (ho : o.op = .lookup xT x idx comma) (hx : cOpd x = some Xx) (hi' : cOpd idx = some Ii)
    (hu : C.P.underlying xT = some (.map key elem)) (K : KeyT C.P uk key) (hz : zShape C.P elem = some z) (hae : tyAg C.P elem = some (T.ag uv)) (h1 : Rd σ Xx (.one (.mp nm))) (h2 : Rd σ Ii p) (hp : keyOf (T.ag uk) p = some cs) (hrow : rowOf σ (T.shape uk) cs = some (xs, [])) (hdec : T.dec uk xs = some k)
    (hb : look σ (.h nm) = some (.m uk uv l)) :
    KValid C o σ (Xx.slots ++ Ii.slots) (lookRes z uv comma (mfind (T.keq uk) l k)) [.h nm] [] lo hi := by
  refine kv_pure fun σ' g1 g2 γ a w hinv hs => ?_
  have e1 := Rd.rep hs hx (fun j hj => g1 j (left hj)) h1
  have e2 := Rd.rep hs hi' (fun j hj => g1 j (right hj)) h2
  simp only [RepP, RepC] at e1
  obtain ⟨b, hbox, e1⟩ := e1
  obtain ⟨b', es, clock, h3, _, _, h4, h5⟩ := hs.facts (.h nm) (.m uk uv l) ((g2 _ (by simp)).trans hb)
  rw [hbox] at h3; cases h3
  obtain ⟨vs, e3, h6⟩ := keyOf_rep hp e2
  have h7 := rowOf_plain hrow h6
  have h8 := T.dec_enc uk _ _ hdec
  rw [← h8] at h7
  obtain ⟨r', g3, g4⟩ := findKey_run K h7 h5
  have hkl : (T.kds uk).length = vs.length := by
    have := T.keq_row uk k k K.ik
    have h9 := h7.length
    have key : ∀ (ks : List K1) (xs ys : List (DV T.toSig)) (r : Bool), deqs ks xs ys = some r → ks.length = xs.length := by
      intro ks
      induction ks with
      | nil => intro xs ys r h; cases xs <;> cases ys <;> simp [deqs] at h ⊢
      | cons k ks ih =>
        intro xs ys r h
        cases xs with
        | nil => simp [deqs] at h
        | cons x xs =>
          cases ys with
          | nil => simp [deqs] at h
          | cons y ys =>
            simp only [deqs] at h
            split at h
            · rename_i h10
              simp [ih _ _ _ h10]
            · cases h
    rw [key _ _ _ _ this, h9]
  have ck := checkKey_run (w := w) es.isEmpty 50 key (T.kds uk) (T.ag uk) vs 10000 K.hk K.ha (by omega) hkl.symm
  obtain ⟨zv, hz1, hz2⟩ := zShape_run (w := w) (γ := γ) hz hae
  have hget : (getObj b).run C.P w = .ok (.map es clock) w := by simp [getObj, Sem.run, h4]
  have hff := mfindI_find (T.keq uk) k l 0
  rw [← hff]
  cases hr : mfindI (T.keq uk) l k 0 with
  | none =>
    rw [hr] at g4
    cases r' with
    | some _ => exact g4.elim
    | none =>
      refine ⟨if comma then .tuple #[zv, .bool false] else zv, ?_, ?_⟩
      · simp [execOp, ho, e1, e3, Instr.lookup, run_underlying hu, hget, ck, g3, hz1]
      · cases comma <;> simp only [Option.map_none, lookRes, Bool.false_eq_true, if_false, if_true]
        · exact hz2
        · simp only [RepP]
          exact ⟨[zv, .bool false], rfl, by simp only [RepPs]; exact ⟨hz2, mkB, trivial⟩⟩
  | some q =>
    rw [hr] at g4
    cases r' with
    | none => exact g4.elim
    | some q' =>
      obtain ⟨_, ⟨us, g5, g6⟩, _⟩ := g4
      have hrep : RepP γ w (shp (T.ag uv) ((T.enc uv q.2).map CV.d)) q'.2 := by
        rw [g5]
        exact shp_mkV g6.cs fun h => by rw [List.length_map, T.enc_len]; exact T.ag_size uv h
      refine ⟨if comma then .tuple #[q'.2, .bool true] else q'.2, ?_, ?_⟩
      · simp [execOp, ho, e1, e3, Instr.lookup, run_underlying hu, hget, ck, g3]
      · cases comma <;> simp only [Option.map_some, lookRes, Bool.false_eq_true, if_false, if_true]
        · exact hrep
        · simp only [RepP]
          exact ⟨[q'.2, .bool true], rfl, by simp only [RepPs]; exact ⟨hrep, mkB, trivial⟩⟩

theorem kv_mupd {mT key elem : TypeId} {x kx vx : Operand} {Xx Kk Vv : Opd T} {uk uv : T.U} {p q : PV T} {nm : Nat} {l : List (T.El uk × T.El uv)} {k : T.El uk} {vv : T.El uv} {cs ds : List (CV T)} {xs ys : List (DV T.toSig)} (ho : o.op = .mapUpdate mT x kx vx ∨ o.op = .insert mT x kx vx) (hd : o.dst = none) (hx : cOpd x = some Xx) (hkx : cOpd kx = some Kk) (hvx : cOpd vx = some Vv)
    (hu : C.P.underlying mT = some (.map key elem)) (K : KeyT C.P uk key) (h1 : Rd σ Xx (.one (.mp nm))) (h2 : Rd σ Kk p) (h3 : Rd σ Vv q) (hp : keyOf (T.ag uk) p = some cs) (hq : keyOf (T.ag uv) q = some ds) (hrow : rowOf σ (T.shape uk) cs = some (xs, [])) (hdec : T.dec uk xs = some k)
    (hrow2 : rowOf σ (T.shape uv) ds = some (ys, [])) (hdec2 : T.dec uv ys = some vv) (hb : look σ (.h nm) = some (.m uk uv l)) :
    KValid C o σ (Xx.slots ++ (Kk.slots ++ Vv.slots)) .junk [.h nm] [(.h nm, some (.m uk uv (mset (T.keq uk) l k vv)))] lo lo := by
  intro σ' g1 g2 γ a w hi hs _ Q
  have e1 := Rd.rep hs hx (fun j hj => g1 j (left hj)) h1
  have e2 := Rd.rep hs hkx (fun j hj => g1 j (right (left hj))) h2
  have e4 := Rd.rep hs hvx (fun j hj => g1 j (right (right hj))) h3
  simp only [RepP, RepC] at e1
  obtain ⟨b, hbox, e1⟩ := e1
  have hlk := (g2 _ (by simp)).trans hb
  obtain ⟨b', es, clock, h4, h4o, hblt, h5, h6⟩ := hs.facts (.h nm) (.m uk uv l) hlk
  rw [hbox] at h4; cases h4
  obtain ⟨vs, e3, h7⟩ := keyOf_rep hp e2
  obtain ⟨us, e5, h8⟩ := keyOf_rep hq e4
  have h7 := rowOf_plain hrow h7
  rw [← T.dec_enc uk _ _ hdec] at h7
  have h8 := rowOf_plain hrow2 h8
  rw [← T.dec_enc uv _ _ hdec2] at h8
  obtain ⟨r', g3, g4⟩ := findKey_run K h7 h6
  have hself := T.keq_row uk k k K.ik
  have hkl : (T.kds uk).length = vs.length := by
    have h9 := h7.length
    have key : ∀ (ks : List K1) (xs ys : List (DV T.toSig)) (r : Bool), deqs ks xs ys = some r → ks.length = xs.length := by
      intro ks
      induction ks with
      | nil => intro xs ys r h; cases xs <;> cases ys <;> simp [deqs] at h ⊢
      | cons k ks ih =>
        intro xs ys r h
        cases xs with
        | nil => simp [deqs] at h
        | cons x xs =>
          cases ys with
          | nil => simp [deqs] at h
          | cons y ys =>
            simp only [deqs] at h
            split at h
            · rename_i h10
              simp [ih _ _ _ h10]
            · cases h
    rw [key _ _ _ _ hself, h9]
  have ck := checkKey_run (w := w) false 50 key (T.kds uk) (T.ag uk) vs 10000 K.hk K.ha (by omega) hkl.symm
  have hget : (getObj b).run C.P w = .ok (.map es clock) w := by simp [getObj, Sem.run, h5]
  have hset : ∀ ob, (setObj b ob).run C.P w = .ok () { w with heap := w.heap.setIfInBounds b ob } := fun ob => by simp [setObj, Sem.run, h5]
  have hone : T.ag uk = false → vs.length = 1 := fun h => by
    rw [← h7.length, T.enc_len]; exact T.ag_size uk h
  have hbits := sameBits_mkV (deqs_plain hself h7) hone 9999
  have hms := mputI_set (T.keq uk) k vv l 0
  obtain ⟨es', clock', hrun, hrep⟩ : ∃ es' clock', (Instr.mapUpdate mT (a.eval x) (a.eval kx) (a.eval vx)).run C.P w = .ok () { w with heap := w.heap.setIfInBounds b (.map es' clock') } ∧ RepM γ.imm w uk uv (mset (T.keq uk) l k vv) es'.toList := by
    rw [hms]
    cases hr : mfindI (T.keq uk) l k 0 with
    | none =>
      rw [hr] at g4
      cases r' with
      | some _ => exact g4.elim
      | none =>
        refine ⟨es.push { key := mkV (T.ag uk) vs, val := a.eval vx, born := clock }, clock + 1, ?_, ?_⟩
        · simp [e1, e3, Instr.mapUpdate, run_underlying hu, hget, ck, g3, hset]
        · simp only [Array.toList_push]
          exact h6.push ⟨vs, rfl, h7⟩ ⟨us, e5, h8⟩
    | some y =>
      rw [hr] at g4
      cases r' with
      | none => exact g4.elim
      | some y' =>
        obtain ⟨g5, _, _, e0, g6, g7⟩ := g4
        rw [Nat.sub_zero] at g6
        have g6' : es[y'.1]? = some e0 := by rw [← g5]; simpa using g6
        refine ⟨es.modify y'.1 fun e => { e with key := mkV (T.ag uk) vs, val := a.eval vx }, clock, ?_, ?_⟩
        · simp [e1, e3, Instr.mapUpdate, run_underlying hu, hget, ck, g3, hset, Instr.keyThatStays, g6', g7, hbits]
        · simp only [Array.toList_modify, g5, Nat.sub_zero]
          exact h6.set (fun _ => ⟨vs, rfl, h7⟩) (fun _ => ⟨us, e5, h8⟩) _
  have hcell : ∀ i, ({ w with heap := w.heap.setIfInBounds b (.map es' clock') } : World).cell? ⟨b, i, none⟩ = w.cell? ⟨b, i, none⟩ := fun i => by
    have h9 : (w.heap.setIfInBounds b (.map es' clock'))[b]? = some (.map es' clock') := by simp [hblt]
    unfold World.cell?
    simp only [h9, h5]
  have hE : Evo (fun n => n = nm) γ w γ { w with heap := w.heap.setIfInBounds b (.map es' clock') } := by
    refine ⟨⟨by simp, fun _ _ => Nat.le_refl _, fun k i hk _ => ?_⟩, rfl, rfl, rfl, fun j hj hx => ?_, fun _ _ h => h⟩
    · by_cases hkb : k = b
      · subst hkb; exact hcell i
      · unfold World.cell?
        simp [Ne.symm hkb]
    · have hjb : j ≠ b := by rintro rfl; exact hx nm h4o rfl
      exact ⟨by simp [Ne.symm hjb], rfl, rfl⟩
  unfold Oper.wp execOp
  have hexec : (execOp a.eval o).run C.P w = .ok .skip { w with heap := w.heap.setIfInBounds b (.map es' clock') } := by
    rcases ho with ho | ho <;> simp only [execOp, ho, Sem.run_bind, hrun, Result.andThen_ok, Sem.run_pure]
  unfold execOp at hexec
  rw [hexec, Oper.upon_skip]
  refine ⟨γ, undef, fun n => n = nm, rfl, (by intro d hd'; rw [hd] at hd'; cases hd'), hE, fun n hn => ?_, fun l' f' hm' => ?_, fun _ _ => rfl, fun _ _ h => .inr h, fun k hk => hi.ok k (by simpa using hk), .refl _ _ _⟩
  · subst hn
    exact ⟨hs.perm _ _ hlk, by simp [locs]⟩
  · simp only [List.mem_singleton, Prod.mk.injEq, Option.some.injEq] at hm'
    obtain ⟨rfl, rfl⟩ := hm'
    exact ⟨nm, rfl, hs.perm _ _ hlk, fun tm => ⟨b, es', clock', hbox, h4o, by simpa using hblt, by simp [hblt], hrep.evo hE.toDEvo⟩⟩
end
end Go.G
namespace Go.G
variable {T : Uni}

theorem flat_app (u : T.U) (l m : List (T.El u)) : (l ++ m).flatMap (T.enc u) = l.flatMap (T.enc u) ++ m.flatMap (T.enc u) := List.flatMap_append

theorem dput_some {α : Type} {l l' ys : List α} {i : Int} (h : dput l i ys = some l') : 0 ≤ i ∧ i.toNat + ys.length ≤ l.length ∧ l' = l.take i.toNat ++ ys ++ l.drop (i.toNat + ys.length) := by
  unfold dput at h
  split at h
  · rename_i hh; cases h; exact ⟨hh.1, by omega, rfl⟩
  · cases h

/-- Elements of a row are written over. -/
theorem put_core {P : Program} {γ : Gh} {w : World} {u : T.U} {l ys : List (T.El u)} {i nm : Nat} {A : Option Addr} {cap : Nat} {us : List Value} (hbt : γ.bt nm = some (.row A l.length cap)) (hcap : l.length ≤ cap) (hrow : RowOK γ w nm u l false A cap)
    (hu : RepDs γ.imm w (ys.flatMap (T.enc u)) us) (hi : i + ys.length ≤ l.length) (hne : ys ≠ []) :
    ∃ b off w', A = some ⟨b, off, none⟩ ∧ (storeCells ⟨b, off + i * T.size u, none⟩ us).run P w = .ok () w' ∧ Evo (fun k => k = nm) γ w γ w' ∧ (∀ tm, FactOK γ w' tm (.h nm) (.r u (l.take i ++ ys ++ l.drop (i + ys.length)) false)) ∧ w'.heap.size = w.heap.size := by
  have hys : 0 < ys.length := List.length_pos_iff.2 hne
  have hul : us.length = ys.length * T.size u := by rw [← hu.length, flat_len]
  rcases hrow with ⟨h0, rfl⟩ | ⟨b, off, c, tt, rfl, k2, k3, k4, k5, k6, k7⟩
  · simp only [List.length_nil] at hi; omega
  · simp only [Bool.false_eq_true, if_false, Nat.add_zero] at k6
    have hcm : (i + ys.length) * T.size u ≤ cap * T.size u := Nat.mul_le_mul_right _ (by omega)
    rw [Nat.add_mul] at hcm
    have hfit : off + i * T.size u + 0 + us.length ≤ c.size := by omega
    have hst := run_storeCells_at P b (off + i * T.size u) tt us 0 c w k4 hfit hu.one
    simp only [Nat.add_zero] at hst
    have hcs : ∀ k, (c.toList.take (off + i * T.size u) ++ us ++ c.toList.drop (off + i * T.size u + us.length)).toArray[k]? = if k < off + i * T.size u then c[k]? else if k < off + i * T.size u + us.length then us[k - (off + i * T.size u)]? else c[k]? := by
      intro k
      rw [List.getElem?_toArray]
      by_cases hk : k < off + i * T.size u
      · rw [if_pos hk, List.append_assoc, List.getElem?_append_left (by simp; omega), List.getElem?_take_of_lt hk, Array.getElem?_toList]
      · rw [if_neg hk]
        by_cases hk2 : k < off + i * T.size u + us.length
        · rw [if_pos hk2, List.getElem?_append_left (by simp; omega), List.getElem?_append_right (by simp; omega)]
          congr 1
          simp; omega
        · rw [if_neg hk2, List.getElem?_append_right (by simp; omega), List.getElem?_drop, Array.getElem?_toList]
          congr 1
          simp; omega
    have hE : Evo (fun k => k = nm) γ w γ (w.setRow b (c.toList.take (off + i * T.size u) ++ us ++ c.toList.drop (off + i * T.size u + us.length)).toArray) :=
      Evo.setRow k4 k2 fun k hk => by rw [hcs k, if_pos (by omega)]
    refine ⟨b, off, _, rfl, hst, hE, fun tm => ?_, setRow_size _ _ _⟩
    obtain ⟨vs, q1, q2, q3⟩ := k7.values
    -- the old cells in three parts
    have hsplit : l = l.take i ++ l.drop i := (List.take_append_drop i l).symm
    have r1 : RepDs γ.imm w ((l.take i).flatMap (T.enc u)) (vs.take (i * T.size u)) ∧ RepDs γ.imm w ((l.drop i).flatMap (T.enc u)) (vs.drop (i * T.size u)) := by
      have hh : RepDs γ.imm w ((l.take i).flatMap (T.enc u) ++ (l.drop i).flatMap (T.enc u)) vs := by rw [← flat_app, List.take_append_drop]; exact q3
      have hs := RepDs.split hh
      have hl : ((l.take i).flatMap (T.enc u)).length = i * T.size u := by rw [flat_len, List.length_take, Nat.min_eq_left (by omega)]
      rw [hl] at hs
      exact hs
    have r2 : RepDs γ.imm w ((l.drop (i + ys.length)).flatMap (T.enc u)) (vs.drop ((i + ys.length) * T.size u)) := by
      have hh : RepDs γ.imm w ((l.take (i + ys.length)).flatMap (T.enc u) ++ (l.drop (i + ys.length)).flatMap (T.enc u)) vs := by rw [← flat_app, List.take_append_drop]; exact q3
      have hs := RepDs.split hh
      have hl : ((l.take (i + ys.length)).flatMap (T.enc u)).length = (i + ys.length) * T.size u := by rw [flat_len, List.length_take, Nat.min_eq_left (by omega)]
      rw [hl] at hs
      exact hs.2
    have hnl : (l.take i ++ ys ++ l.drop (i + ys.length)).length = l.length := by simp; omega
    have hvl : i * T.size u ≤ vs.length := by rw [q1]; exact Nat.mul_le_mul_right _ (by omega)
    have hvl2 : (i + ys.length) * T.size u ≤ vs.length := by rw [q1]; exact Nat.mul_le_mul_right _ (by omega)
    refine ⟨some ⟨b, off, none⟩, cap, by rw [hnl]; exact hbt, by omega, .inr ⟨b, off, _, tt, rfl, k2, by rw [setRow_size]; exact k3, setRow_heap _ _ _ _ _ _ k4, ?_, ?_, ?_⟩⟩
    · have hlen2 : (c.toList.take (off + i * T.size u) ++ us ++ c.toList.drop (off + i * T.size u + us.length)).length = c.size := by simp; omega
      simp only [List.size_toArray]
      omega
    · simpa using k6
    · have hrep : RepDs γ.imm w ((l.take i ++ ys ++ l.drop (i + ys.length)).flatMap (T.enc u)) (vs.take (i * T.size u) ++ us ++ vs.drop ((i + ys.length) * T.size u)) := by
        rw [flat_app, flat_app]
        exact (r1.1.append hu).append r2
      refine RowsAt.of (hrep.evo hE.toDEvo) fun j v hj => ?_
      rw [cell_setRow_same _ _ _ _ _ _ _ k4, hcs]
      rw [Nat.add_mul] at hvl2 hj
      by_cases h1 : j < i * T.size u
      · rw [if_pos (by omega)]
        rw [List.append_assoc, List.getElem?_append_left (by simp; omega), List.getElem?_take_of_lt h1] at hj
        have := q2 j v hj
        simp only [World.cell?, k4] at this
        simpa using this
      · rw [if_neg (by omega)]
        by_cases h2 : j < i * T.size u + us.length
        · rw [if_pos (by omega)]
          rw [List.getElem?_append_left (by simp; omega), List.getElem?_append_right (by simp; omega)] at hj
          rw [← hj]
          congr 1
          simp; omega
        · rw [if_neg (by omega)]
          rw [List.getElem?_append_right (by simp; omega), List.getElem?_drop] at hj
          have e : i * T.size u + ys.length * T.size u + (j - (vs.take (i * T.size u) ++ us).length) = j := by simp; omega
          rw [e] at hj
          have := q2 j v hj
          simp only [World.cell?, k4] at this
          simpa using this

section
variable {C : Ctx} {o : Oper} {σ : St T} {lo hi : Nat}

/-- append onto a part of a row, where the row goes on. -/
theorem kv_appb {t t' e e' : TypeId} {u : T.U} {bytes : Nat} {x y : Operand} {Xx Yy : Opd T} {c2 : CV T} {l ys l' : List (T.El u)} {rd mrd : List Loc} {mwr : Wr T} {nm : Nat} {off len : Int}
    (ho : o.op = .call { callee := .builtin .append, args := #[x, y], argTypes := #[t, t'] }) (ht' : C.P.underlying t' = some (.slice e'))
    (hx : cOpd x = some Xx) (hy : cOpd y = some Yy) (hT : AppT C.P u t e bytes) (h1 : Rd σ Xx (.one (.buf u nm off len))) (h2 : Rd σ Yy (.one c2)) (hel : ElemsOf C σ u c2 ys rd) (hlk : look σ (.h nm) = some (.r u l false))
    (ho0 : 0 ≤ off) (hl0 : 0 ≤ len) (hd : dput l (off + len) ys = some l') (hmr : ∀ q ∈ rd, q ∈ mrd) (hmn : Loc.h nm ∈ mrd) (hmw : mwr = [(.h nm, some (.r u l' false))]) :
    KValid C o σ (Xx.slots ++ Yy.slots) (.one (.buf u nm off (len + (ys.length : Int)))) mrd mwr lo lo := by
  intro σ' g1 g2 γ a w hinv hs _ Q
  have e1 := Rd.rep hs hx (fun j hj => g1 j (left hj)) h1
  have e2 := Rd.rep hs hy (fun j hj => g1 j (right hj)) h2
  simp only [RepP] at e1 e2
  have e3 := hel σ' (fun q hq => g2 q (hmr q hq)) γ a w hs _ e2
  have hlk' := (g2 _ hmn).trans hlk
  obtain ⟨A0, L, cap, A1, k1, k2, k3, k4, k5, ev, k7⟩ := e1
  obtain ⟨A, cap', f1, f2, f3⟩ := hs.facts _ _ hlk'
  rw [k1] at f1
  cases f1
  obtain ⟨d1, d2, d3⟩ := dput_some hd
  obtain ⟨ht, i, z, hi, hz, hzs, his, _⟩ := hT
  obtain ⟨B, cb, ey, hcb, us, u1, u2, u3⟩ := e3.cells (P := C.P)
  have hroom : len.toNat + ys.length ≤ cap - off.toNat := by omega
  have f2' := u3 w fun _ => rfl
  rw [← his] at f2'
  have hnn : (off + len).toNat = off.toNat + len.toNat := by omega
  -- the run
  have hrun : ∃ w', (Builtin.append_ #[t, t'] o.type #[a.eval x, a.eval y]).run C.P w = .ok (.slice A1 (len.toNat + ys.length) (cap - off.toNat)) w' ∧ Evo (fun k => k = nm) γ w γ w' ∧ (∀ tm, FactOK γ w' tm (.h nm) (.r u l' false)) ∧ w'.heap.size = w.heap.size := by
    rw [ev, ey]
    by_cases hne : ys = []
    · subst hne
      have hu0 : us = [] := List.eq_nil_of_length_eq_zero (by rw [u1]; simp)
      subst hu0
      simp only [List.length_nil] at f2'
      refine ⟨w, ?_, .refl _ _ _, fun tm => ?_, rfl⟩
      · cases A1 with
        | none => simp [Builtin.append_, run_underlying ht, run_underlying ht', sizeOf, typeInfo, hi, Builtin.lenOf, show len.toNat ≤ cap - off.toNat from by simpa using hroom, f2']
        | some ad => simp [Builtin.append_, run_underlying ht, run_underlying ht', sizeOf, typeInfo, hi, Builtin.lenOf, show len.toNat ≤ cap - off.toNat from by simpa using hroom, f2', storeCells]
      · have : l' = l := by rw [d3]; simp
        rw [this]
        exact (hs.facts _ _ hlk').mem (by simp)
    · have hys : 0 < ys.length := List.length_pos_iff.2 hne
      obtain ⟨b, of0, w', rfl, p2, p3, p4, p5⟩ := put_core (P := C.P) (i := (off + len).toNat) k1 k5 f3 u2 d2 hne
      refine ⟨w', ?_, p3, fun tm => by rw [d3]; exact p4 tm, p5⟩
      have hA1 : A1 = some ⟨b, of0 + off.toNat * T.size u, none⟩ := by
        rw [k7 (by omega)]
        simp [addr_add]
      have hst : (storeCells ((⟨b, of0 + off.toNat * T.size u, none⟩ : Addr).add (len.toNat * i.size)) us).run C.P w = .ok () w' := by
        rw [addr_add, his, show of0 + off.toNat * T.size u + len.toNat * T.size u = of0 + (off + len).toNat * T.size u by rw [hnn, Nat.add_mul]; omega]
        exact p2
      rw [hA1]
      simp [Builtin.append_, run_underlying ht, run_underlying ht', sizeOf, typeInfo, hi, Builtin.lenOf, hroom, f2', hst]
  obtain ⟨w', r1, r2, r3, r4⟩ := hrun
  have hl' : l'.length = l.length := by rw [d3]; simp; omega
  unfold Oper.wp execOp
  simp only [ho, resolve, invoke, builtin, Sem.run_bind, Sem.run_pure, Result.andThen_ok, List.map_toArray, List.map_cons, List.map_nil, r1, Oper.upon_value]
  subst hmw
  refine ⟨γ, _, _, rfl, fun _ _ => ?_, r2, fun k hk => ?_, fun q f hm => ?_, fun _ _ => rfl, fun _ _ h => .inr h, fun b hb => hinv.ok b (by omega), .refl _ _ _⟩
  · simp only [RepP, RepC]
    refine ⟨A0, l.length, cap, A1, k1, ho0, by omega, by omega, k5, ?_, fun h => k7 h⟩
    congr 1
    omega
  · subst hk
    exact ⟨hs.perm _ _ hlk', by simp [locs]⟩
  · simp only [List.mem_singleton, Prod.mk.injEq, Option.some.injEq] at hm
    obtain ⟨rfl, rfl⟩ := hm
    exact ⟨nm, rfl, hs.perm _ _ hlk', r3⟩

theorem zeroCells_rep {γ : Gh} {w : World} {u : T.U} {z : Array Value} {a : T.El u} (h : RepDs γ.imm w (T.enc u a) z.toList) : ∀ n : Nat, RepDs γ.imm w ((List.replicate n a).flatMap (T.enc u)) (Builtin.zeroCells z n).toList := by
  intro n
  have hz : 0 < z.size := by
    have h1 := h.length
    rw [T.enc_len] at h1
    have := T.size_pos u
    simp at h1; omega
  induction n with
  | zero => simp [Builtin.zeroCells, RepDs]
  | succ n ih =>
    have e : (Builtin.zeroCells z (n + 1)).toList = (Builtin.zeroCells z n).toList ++ z.toList := by
      apply List.ext_getElem?
      intro j
      simp only [Builtin.zeroCells, Array.getElem?_toList, Array.getElem?_map, Array.toList_map, List.getElem?_map]
      by_cases h1 : j < n * z.size
      · rw [List.getElem?_append_left (by simpa using h1)]
        simp [Array.getElem?_range, h1, show j < (n + 1) * z.size from by rw [Nat.add_mul]; omega]
      · by_cases h2 : j < (n + 1) * z.size
        · rw [List.getElem?_append_right (by simp; omega)]
          rw [Nat.add_mul] at h2
          have h3 : j - n * z.size < z.size := by omega
          have hm : j % z.size = j - n * z.size := by
            have e1 : j = n * z.size + (j - n * z.size) := by omega
            rw [e1, Nat.mul_add_mod_self_right, Nat.mod_eq_of_lt h3]
            omega
          simp only [List.length_map, Array.length_toList, Array.size_range]
          rw [Array.getElem?_range]
          rw [if_pos (by rw [Nat.add_mul]; omega)]
          simp only [Option.map_some, hm]
          rw [Array.getElem?_toList, Array.getElem?_eq_getElem h3, getElem!_pos z _ h3]
        · rw [List.getElem?_append_right (by simp; rw [Nat.add_mul] at h2; omega)]
          rw [List.getElem?_eq_none (by simp; rw [Nat.add_mul] at h2; omega)]
          simp [Array.getElem?_range, h2]
    rw [List.replicate_succ', List.flatMap_append, e]
    exact ih.append (by simpa using h)

/-- clear of a part of a row. -/
theorem kv_clr {t e : TypeId} {u : T.U} {x : Operand} {Xx : Opd T} {l l' : List (T.El u)} {z : List (DV T.toSig)} {a0 : T.El u} {nm : Nat} {off len : Int}
    (ho : o.op = .call { callee := .builtin .clear, args := #[x], argTypes := #[t] }) (hod : o.dst = none) (hx : cOpd x = some Xx) (ht : C.P.underlying t = some (.slice e))
    (hz : ∃ i zv, C.P.info? e = some i ∧ i.zero = some zv ∧ ∀ (imm : Nat → Nat) (w : World), RepDs imm w z zv.cells.toList) (hdec : T.dec u z = some a0)
    (h1 : Rd σ Xx (.one (.buf u nm off len))) (hlk : look σ (.h nm) = some (.r u l false)) (ho0 : 0 ≤ off) (hl0 : 0 ≤ len) (hd : dput l off (List.replicate len.toNat a0) = some l') :
    KValid C o σ Xx.slots .junk [.h nm] [(.h nm, some (.r u l' false))] lo lo := by
  intro σ' g1 g2 γ a w hinv hs _ Q
  have e1 := Rd.rep hs hx (fun j hj => g1 j hj) h1
  simp only [RepP] at e1
  have hlk' := (g2 _ (by simp)).trans hlk
  obtain ⟨A0, L, cap, A1, k1, k2, k3, k4, k5, ev, k7⟩ := e1
  obtain ⟨A, cap', f1, f2, f3⟩ := hs.facts _ _ hlk'
  rw [k1] at f1
  cases f1
  obtain ⟨d1, d2, d3⟩ := dput_some hd
  obtain ⟨i, zv, hi, hzv, hrz⟩ := hz
  have hza := T.dec_enc u z a0 hdec
  have hr0 : RepDs γ.imm w (T.enc u a0) zv.cells.toList := by rw [hza]; exact hrz _ _
  have hrun : ∃ w', (Builtin.clear_ #[t] o.type #[a.eval x]).run C.P w = .ok (.tuple #[]) w' ∧ Evo (fun k => k = nm) γ w γ w' ∧ (∀ tm, FactOK γ w' tm (.h nm) (.r u l' false)) ∧ w'.heap.size = w.heap.size := by
    rw [ev]
    by_cases hn : len.toNat = 0
    · refine ⟨w, ?_, .refl _ _ _, fun tm => ?_, rfl⟩
      · rw [hn]
        cases A1 <;> simp [Builtin.clear_, run_underlying ht]
      · have : l' = l := by rw [d3, hn]; simp
        rw [this]
        exact (hs.facts _ _ hlk').mem (by simp)
    · have hne : List.replicate len.toNat a0 ≠ [] := by
        intro h
        have := congrArg List.length h
        simp at this; omega
      have hrep := zeroCells_rep hr0 len.toNat
      obtain ⟨b, of0, w', rfl, p2, p3, p4, p5⟩ := put_core (P := C.P) (i := off.toNat) k1 k5 f3 hrep d2 hne
      refine ⟨w', ?_, p3, fun tm => by rw [d3]; exact p4 tm, p5⟩
      simp only [List.length_replicate] at d2
      have hA1 : A1 = some ⟨b, of0 + off.toNat * T.size u, none⟩ := by
        rw [k7 (by omega)]
        simp [addr_add]
      obtain ⟨n, hn'⟩ : ∃ n, len.toNat = n + 1 := ⟨len.toNat - 1, by omega⟩
      rw [hn'] at p2
      rw [hA1, hn']
      simp [Builtin.clear_, run_underlying ht, zeroValue, typeInfo, hi, hzv, p2]
  obtain ⟨w', r1, r2, r3, r4⟩ := hrun
  unfold Oper.wp execOp
  simp only [ho, resolve, invoke, builtin, Sem.run_bind, Sem.run_pure, Result.andThen_ok, List.map_toArray, List.map_cons, List.map_nil, r1, Oper.upon_value]
  refine ⟨γ, _, _, rfl, fun d hdd => ?_, r2, fun k hk => ?_, fun q f hm => ?_, fun _ _ => rfl, fun _ _ h => .inr h, fun b hb => hinv.ok b (by omega), .refl _ _ _⟩
  · simp only [RepP]
  · subst hk
    exact ⟨hs.perm _ _ hlk', by simp [locs]⟩
  · simp only [List.mem_singleton, Prod.mk.injEq, Option.some.injEq] at hm
    obtain ⟨rfl, rfl⟩ := hm
    exact ⟨nm, rfl, hs.perm _ _ hlk', r3⟩

/-- A part of a row taken beyond its end, within the row. -/
theorem kv_slice_up {t e : TypeId} {x : Operand} {lo' hi' : Option Operand} {Xx : Opd T} {Lo Hi : Option (Opd T)} {u u1 : T.U} {nm : Nat} {L : List (T.El u1)} {fz : Bool} {off len l h : Int} (ho : o.op = .slice t x lo' hi' none) (hx : cOpd x = some Xx) (hlo : cOpo lo' = some Lo) (hhi : cOpo hi' = some Hi)
    (hu : C.P.underlying t = some (.slice e)) (hm : tySz C.P e = some (T.size u)) (h1 : Rd σ Xx (.one (.buf u nm off len))) (hl : Rdo σ Lo 0 l) (hh : Rdo σ Hi len h) (hlk : look σ (.h nm) = some (.r u1 L fz)) (ho0 : 0 ≤ off) (h0 : 0 ≤ l) (hlh : l ≤ h) (hhd : off + h ≤ (L.length : Int)) :
    KValid C o σ (Xx.slots ++ (Opd.all Lo.toList ++ Opd.all Hi.toList)) (.one (.buf u nm (off + l) (h - l))) [.h nm] [] lo hi := by
  refine kv_pure fun σ' g1 g2 γ a w hinv hs => ?_
  have e1 := Rd.rep hs hx (fun j hj => g1 j (left hj)) h1
  simp only [RepP] at e1
  obtain ⟨A0, L0, cap0, A1, k1, k2, k3, k4, k5, ev, k7⟩ := e1
  obtain ⟨A', cap', f1, f2, _⟩ := hs.facts _ _ ((g2 _ (by simp)).trans hlk)
  rw [k1] at f1
  cases f1
  have b1 := Rdo.bound (d := 0) hs hlo (fun j hj => g1 j (right (left hj))) hl
  have b2 := Rdo.bound (d := len.toNat) hs hhi (fun j hj => g1 j (right (right hj))) (by rw [Int.toNat_of_nonneg k3]; exact hh)
  have hrun := run_slice_none hu hm w A1 len.toNat (cap0 - off.toNat) _ _ l h b1 b2 h0 hlh (by omega)
  refine ⟨.slice (if cap0 - off.toNat = l.toNat then A1 else A1.map (·.add (l.toNat * T.size u))) (h.toNat - l.toNat) (cap0 - off.toNat - l.toNat), by simp only [execOp, ho, ev, Option.map_none, Sem.run_bind, hrun, Result.andThen_ok, Sem.run_pure], ?_⟩
  simp only [RepP, RepC]
  refine ⟨A0, L.length, cap0, (if cap0 - off.toNat = l.toNat then A1 else A1.map (·.add (l.toNat * T.size u))), k1, by omega, by omega, by omega, k5, ?_, fun hlt => ?_⟩
  · congr 1 <;> omega
  · rw [if_neg (by omega), k7 (by omega)]
    cases A0 with
    | none => rfl
    | some ad =>
      simp only [Option.map_some, add_add, Option.some.injEq]
      congr 1
      rw [← Nat.add_mul]
      congr 1
      omega

theorem run_slice_three {P : Program} {t e : TypeId} {size : Nat} (hu : P.underlying t = some (.slice e)) (hm : tySz P e = some size) (w : World) (A : Option Addr) (len cap : Nat) (k1 k2 k3 : IntKind) (l h m : Int) (h0 : 0 ≤ l) (h1 : l ≤ h) (h2 : h ≤ m) (h3 : m ≤ cap) :
    ∃ v, (Instr.sliceAt t (.slice A len cap) (some (.int k1 l)) (some (.int k2 h)) (some (.int k3 m))).run P w = .ok v w := by
  have b1 := run_bound P w k3 m cap .slice3Acap (by omega) h3
  have b2 := run_bound P w k2 h m.toNat .slice3B (by omega) (by omega)
  have b3 := run_bound P w k1 l h.toNat .slice3C h0 (by omega)
  have key : (Instr.sliceBounds true len cap (some (.int k1 l)) (some (.int k2 h)) (some (.int k3 m))).run P w = .ok (l.toNat, h.toNat, m.toNat) w := by
    simp [Instr.sliceBounds, b1, b2, b3]
  exact ⟨.slice (if m.toNat = l.toNat then A else A.map (·.add (l.toNat * size))) (h.toNat - l.toNat) (m.toNat - l.toNat), by simp [Instr.sliceAt, run_underlying hu, Instr.slice, key, run_sizeOf hm]⟩
/-- s[i:j:k], looked at only. -/
theorem kv_look3 {t e : TypeId} {size : Nat} {x y1 y2 y3 : Operand} {Xx Y1 Y2 Y3 : Opd T} {u0 u : T.U} {nm : Nat} {l : List (T.El u)} {fz : Bool} {k1 k2 k3 : IntKind} {a b m : Int} (ho : o.op = .slice t x (some y1) (some y2) (some y3))
    (hx : cOpd x = some Xx) (hy1 : cOpd y1 = some Y1) (hy2 : cOpd y2 = some Y2) (hy3 : cOpd y3 = some Y3) (hu : C.P.underlying t = some (.slice e)) (hm : tySz C.P e = some size)
    (h0 : Rd σ Xx (.one (.own u0 nm))) (h1 : Rd σ Y1 (.one (.d (.int k1 a)))) (h2 : Rd σ Y2 (.one (.d (.int k2 b)))) (h3 : Rd σ Y3 (.one (.d (.int k3 m)))) (hlk : look σ (.h nm) = some (.r u l fz)) (q0 : 0 ≤ a) (q1 : a ≤ b) (q2 : b ≤ m) (q3 : m ≤ (l.length : Int)) :
    KValid C o σ (Xx.slots ++ (Y1.slots ++ (Y2.slots ++ Y3.slots))) .junk [.h nm] [] lo hi := by
  refine kv_pure fun σ' g1 g2 γ ac w hinv hs => ?_
  have e0 := Rd.rep hs hx (fun j hj => g1 j (left hj)) h0
  have e1 := repI (Rd.rep hs hy1 (fun j hj => g1 j (right (left hj))) h1)
  have e2 := repI (Rd.rep hs hy2 (fun j hj => g1 j (right (right (left hj)))) h2)
  have e3 := repI (Rd.rep hs hy3 (fun j hj => g1 j (right (right (right hj)))) h3)
  simp only [RepP] at e0
  obtain ⟨A, L, cap, i1, i2⟩ := e0
  obtain ⟨A', cap', f1, f2, _⟩ := hs.facts _ _ ((g2 _ (by simp)).trans hlk)
  rw [i1] at f1
  cases f1
  obtain ⟨v, hv⟩ := run_slice_three hu hm w A l.length cap k1 k2 k3 a b m q0 q1 q2 (by omega)
  exact ⟨v, by simp only [execOp, ho, i2, e1, e2, e3, Option.map_some, Sem.run_bind, hv, Result.andThen_ok, Sem.run_pure], by simp only [RepP]⟩
theorem kv_mm {big : Bool} {x y : Operand} {ts : Array TypeId} {Xx Yy : Opd T} {k : IntKind} {p q : Int} (ho : o.op = .call { callee := .builtin (if big then .max else .min), args := #[x, y], argTypes := ts }) (hx : cOpd x = some Xx) (hy : cOpd y = some Yy)
    (h1 : Rd σ Xx (.one (.d (.int k p)))) (h2 : Rd σ Yy (.one (.d (.int k q)))) : KValid C o σ (Xx.slots ++ Yy.slots) (.one (.d (.int k (if big then imax p q else imin p q)))) [] [] lo hi := by
  refine kv_pure fun σ' g1 _ γ ac w hinv hs => ?_
  have e1 := repI (Rd.rep hs hx (fun j hj => g1 j (left hj)) h1)
  have e2 := repI (Rd.rep hs hy (fun j hj => g1 j (right hj)) h2)
  cases big with
  | true =>
    refine ⟨_, by simp [execOp, ho, resolve, invoke, builtin, e1, e2, Builtin.max_, Builtin.max2]; rfl, ?_⟩
    exact mkI
  | false =>
    refine ⟨_, by simp [execOp, ho, resolve, invoke, builtin, e1, e2, Builtin.min_, Builtin.min2]; rfl, ?_⟩
    exact mkI
end
end Go.G
namespace Go.G
variable {T : Uni}
section
variable {C : Ctx} {o : Oper} {σ : St T}
theorem madeCells_zero (z : Array Value) (n : Nat) : madeCells z (n * z.size) = Builtin.zeroCells z n := rfl
/-- make of a slice. -/
theorem kv_mksl {t e : TypeId} {x : Operand} {X : Opd T} {u : T.U} {bytes : Nat} {k : IntKind} {iv : Int} {z : List (DV T.toSig)} {a0 : T.El u} {l : List (T.El u)} {n : Nat}
    (ho : o.op = .makeSlice t x x) (hx : cOpd x = some X) (ht : C.P.underlying t = some (.slice e))
    (hz : ∃ i zv, C.P.info? e = some i ∧ i.zero = some zv ∧ i.bytes = bytes ∧ 0 < bytes ∧ i.size = zv.cells.size ∧ ∀ (imm : Nat → Nat) (w : World), RepDs imm w z zv.cells.toList) (hdec : T.dec u z = some a0)
    (h1 : Rd σ X (.one (.d (.int k iv)))) (hd : dmk bytes iv a0 = some l) (hl : C.E.loc n) : KValid C o σ X.slots (.one (.own u n)) [] [(.h n, some (.r u l false))] n (n + 1) := by
  obtain ⟨i, zv, hi, hzv, hby, hb0, hsz, hrz⟩ := hz
  unfold dmk at hd
  split at hd
  · rename_i hc
    cases hd
    obtain ⟨c1, c2⟩ := hc
    refine kv_newO (g := fun b => .row (some ⟨b, 0, none⟩) iv.toNat iv.toNat) (im := 0) hl fun σ' g1 _ γ a w hinv hs => ?_
    have e1 := repI (Rd.rep hs hx (fun j hj => g1 j hj) h1)
    have hza := T.dec_enc u z a0 hdec
    have hr0 : RepDs γ.imm w (T.enc u a0) zv.cells.toList := by rw [hza]; exact hrz _ _
    have hsu : zv.cells.size = T.size u := by
      have h1 := hr0.length
      rw [T.enc_len] at h1
      simpa using h1.symm
    have hle : iv.toNat ≤ iv.toNat * bytes := Nat.le_mul_of_pos_right _ hb0
    have hmul : (i.bytes : Int) * iv = ((iv.toNat * bytes : Nat) : Int) := by
      rw [hby, Int.natCast_mul, Int.toNat_of_nonneg c1, Int.mul_comm]
    have hrun := run_make (P := C.P) w t e i zv ht hi hzv k k iv iv c1 (by omega) (by rw [hmul]; omega) (by omega)
    rw [hsz, madeCells_zero] at hrun
    refine ⟨_, _, by simp only [execOp, ho, e1, Sem.run_bind, hrun, Result.andThen_ok, Sem.run_pure]; rfl, fun γ' ev b1 b2 b3 => ⟨?_, fun tm => ?_⟩⟩
    · simp only [RepP, RepC]
      exact ⟨some ⟨w.heap.size, 0, none⟩, iv.toNat, iv.toNat, b1, rfl⟩
    · refine row_new (cap := iv.toNat) (b := w.heap.size) ev (zeroCells_rep hr0 iv.toNat) (heap_alloc_at _ _) (fun j v hj => by simpa using hj) (by simp) ?_ (by simpa using b1) b2 (by rw [b3]; simp) tm
      have h1 := (zeroCells_rep hr0 iv.toNat).length
      have h2 := flat_len u (List.replicate iv.toNat a0)
      rw [List.length_replicate] at h2
      rw [← Array.length_toList, ← h1, h2]
      exact Nat.le_refl _
  · cases hd
end
end Go.G
