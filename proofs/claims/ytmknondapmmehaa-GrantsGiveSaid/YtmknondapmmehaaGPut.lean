import Derived.Test.YtmknondapmmehaaGOps7
import Derived.Test.YtmknondapmmehaaGMap2
set_option linter.unusedVariables false
set_option linter.unusedSimpArgs false
namespace Go.G
variable {T : Uni}

theorem flat_app (u : T.U) (l m : List (T.El u)) : (l ++ m).flatMap (T.enc u) = l.flatMap (T.enc u) ++ m.flatMap (T.enc u) := List.flatMap_append

theorem dput_some {α : Type} {l l' ys : List α} {i : Int} (h : dput l i ys = some l') : 0 ≤ i ∧ i.toNat + ys.length ≤ l.length ∧ l' = l.take i.toNat ++ ys ++ l.drop (i.toNat + ys.length) := by
  unfold dput at h
  split at h
  · rename_i hh; cases h; exact ⟨hh.1, by omega, rfl⟩
  · cases h

/-- Elements of a row are written over. -/
theorem put_core {P : Program} {γ : Gh} {w : World} {u : T.U} {l ys : List (T.El u)} {i nm : Nat} {A : Option Addr} {cap : Nat} {us : List Value} (hbt : γ.bt nm = some (.row A l.length cap)) (hcap : l.length ≤ cap) (hrow : RowOK γ w nm u l false A cap)
    (hu : RepDs γ.imm w (ys.flatMap (T.enc u)) us) (hi : i + ys.length ≤ l.length) (hne : ys ≠ []) :
    ∃ b off w', A = some ⟨b, off, none⟩ ∧ (storeCells ⟨b, off + i * T.size u, none⟩ us).run P w = .ok () w' ∧ Evo (fun k => k = nm) γ w γ w' ∧ (∀ tm, FactOK γ w' tm (.h nm) (.r u (l.take i ++ ys ++ l.drop (i + ys.length)) false)) ∧ w'.heap.size = w.heap.size := by
  have hys : 0 < ys.length := List.length_pos_iff.2 hne
  have hul : us.length = ys.length * T.size u := by rw [← hu.length, flat_len]
  rcases hrow with ⟨h0, rfl⟩ | ⟨b, off, c, tt, rfl, k2, k3, k4, k5, k6, k7⟩
  · simp only [List.length_nil] at hi; omega
  · simp only [Bool.false_eq_true, if_false, Nat.add_zero] at k6
    have hcm : (i + ys.length) * T.size u ≤ cap * T.size u := Nat.mul_le_mul_right _ (by omega)
    rw [Nat.add_mul] at hcm
    have hfit : off + i * T.size u + 0 + us.length ≤ c.size := by omega
    have hst := run_storeCells_at P b (off + i * T.size u) tt us 0 c w k4 hfit hu.one
    simp only [Nat.add_zero] at hst
    have hcs : ∀ k, (c.toList.take (off + i * T.size u) ++ us ++ c.toList.drop (off + i * T.size u + us.length)).toArray[k]? = if k < off + i * T.size u then c[k]? else if k < off + i * T.size u + us.length then us[k - (off + i * T.size u)]? else c[k]? := by
      intro k
      rw [List.getElem?_toArray]
      by_cases hk : k < off + i * T.size u
      · rw [if_pos hk, List.append_assoc, List.getElem?_append_left (by simp; omega), List.getElem?_take_of_lt hk, Array.getElem?_toList]
      · rw [if_neg hk]
        by_cases hk2 : k < off + i * T.size u + us.length
        · rw [if_pos hk2, List.getElem?_append_left (by simp; omega), List.getElem?_append_right (by simp; omega)]
          congr 1
          simp; omega
        · rw [if_neg hk2, List.getElem?_append_right (by simp; omega), List.getElem?_drop, Array.getElem?_toList]
          congr 1
          simp; omega
    have hE : Evo (fun k => k = nm) γ w γ (w.setRow b (c.toList.take (off + i * T.size u) ++ us ++ c.toList.drop (off + i * T.size u + us.length)).toArray) :=
      Evo.setRow k4 k2 fun k hk => by rw [hcs k, if_pos (by omega)]
    refine ⟨b, off, _, rfl, hst, hE, fun tm => ?_, setRow_size _ _ _⟩
    obtain ⟨vs, q1, q2, q3⟩ := k7.values
    -- the old cells in three parts
    have hsplit : l = l.take i ++ l.drop i := (List.take_append_drop i l).symm
    have r1 : RepDs γ.imm w ((l.take i).flatMap (T.enc u)) (vs.take (i * T.size u)) ∧ RepDs γ.imm w ((l.drop i).flatMap (T.enc u)) (vs.drop (i * T.size u)) := by
      have hh : RepDs γ.imm w ((l.take i).flatMap (T.enc u) ++ (l.drop i).flatMap (T.enc u)) vs := by rw [← flat_app, List.take_append_drop]; exact q3
      have hs := RepDs.split hh
      have hl : ((l.take i).flatMap (T.enc u)).length = i * T.size u := by rw [flat_len, List.length_take, Nat.min_eq_left (by omega)]
      rw [hl] at hs
      exact hs
    have r2 : RepDs γ.imm w ((l.drop (i + ys.length)).flatMap (T.enc u)) (vs.drop ((i + ys.length) * T.size u)) := by
      have hh : RepDs γ.imm w ((l.take (i + ys.length)).flatMap (T.enc u) ++ (l.drop (i + ys.length)).flatMap (T.enc u)) vs := by rw [← flat_app, List.take_append_drop]; exact q3
      have hs := RepDs.split hh
      have hl : ((l.take (i + ys.length)).flatMap (T.enc u)).length = (i + ys.length) * T.size u := by rw [flat_len, List.length_take, Nat.min_eq_left (by omega)]
      rw [hl] at hs
      exact hs.2
    have hnl : (l.take i ++ ys ++ l.drop (i + ys.length)).length = l.length := by simp; omega
    have hvl : i * T.size u ≤ vs.length := by rw [q1]; exact Nat.mul_le_mul_right _ (by omega)
    have hvl2 : (i + ys.length) * T.size u ≤ vs.length := by rw [q1]; exact Nat.mul_le_mul_right _ (by omega)
    refine ⟨some ⟨b, off, none⟩, cap, by rw [hnl]; exact hbt, by omega, .inr ⟨b, off, _, tt, rfl, k2, by rw [setRow_size]; exact k3, setRow_heap _ _ _ _ _ _ k4, ?_, ?_, ?_⟩⟩
    · have hlen2 : (c.toList.take (off + i * T.size u) ++ us ++ c.toList.drop (off + i * T.size u + us.length)).length = c.size := by simp; omega
      simp only [List.size_toArray]
      omega
    · simpa using k6
    · have hrep : RepDs γ.imm w ((l.take i ++ ys ++ l.drop (i + ys.length)).flatMap (T.enc u)) (vs.take (i * T.size u) ++ us ++ vs.drop ((i + ys.length) * T.size u)) := by
        rw [flat_app, flat_app]
        exact (r1.1.append hu).append r2
      refine RowsAt.of (hrep.evo hE.toDEvo) fun j v hj => ?_
      rw [cell_setRow_same _ _ _ _ _ _ _ k4, hcs]
      rw [Nat.add_mul] at hvl2 hj
      by_cases h1 : j < i * T.size u
      · rw [if_pos (by omega)]
        rw [List.append_assoc, List.getElem?_append_left (by simp; omega), List.getElem?_take_of_lt h1] at hj
        have := q2 j v hj
        simp only [World.cell?, k4] at this
        simpa using this
      · rw [if_neg (by omega)]
        by_cases h2 : j < i * T.size u + us.length
        · rw [if_pos (by omega)]
          rw [List.getElem?_append_left (by simp; omega), List.getElem?_append_right (by simp; omega)] at hj
          rw [← hj]
          congr 1
          simp; omega
        · rw [if_neg (by omega)]
          rw [List.getElem?_append_right (by simp; omega), List.getElem?_drop] at hj
          have e : i * T.size u + ys.length * T.size u + (j - (vs.take (i * T.size u) ++ us).length) = j := by simp; omega
          rw [e] at hj
          have := q2 j v hj
          simp only [World.cell?, k4] at this
          simpa using this

section
variable {C : Ctx} {o : Oper} {σ : St T} {lo hi : Nat}

/-- append onto a part of a row, where the row goes on. -/
theorem kv_appb {t t' e e' : TypeId} {u : T.U} {bytes : Nat} {x y : Operand} {Xx Yy : Opd T} {c2 : CV T} {l ys l' : List (T.El u)} {rd mrd : List Loc} {mwr : Wr T} {nm : Nat} {off len : Int}
    (ho : o.op = .call { callee := .builtin .append, args := #[x, y], argTypes := #[t, t'] }) (ht' : C.P.underlying t' = some (.slice e'))
    (hx : cOpd x = some Xx) (hy : cOpd y = some Yy) (hT : AppT C.P u t e bytes) (h1 : Rd σ Xx (.one (.buf u nm off len))) (h2 : Rd σ Yy (.one c2)) (hel : ElemsOf C σ u c2 ys rd) (hlk : look σ (.h nm) = some (.r u l false))
    (ho0 : 0 ≤ off) (hl0 : 0 ≤ len) (hd : dput l (off + len) ys = some l') (hmr : ∀ q ∈ rd, q ∈ mrd) (hmn : Loc.h nm ∈ mrd) (hmw : mwr = [(.h nm, some (.r u l' false))]) :
    KValid C o σ (Xx.slots ++ Yy.slots) (.one (.buf u nm off (len + (ys.length : Int)))) mrd mwr lo lo := by
  intro σ' g1 g2 γ a w hinv hs _ Q
  have e1 := Rd.rep hs hx (fun j hj => g1 j (left hj)) h1
  have e2 := Rd.rep hs hy (fun j hj => g1 j (right hj)) h2
  simp only [RepP] at e1 e2
  have e3 := hel σ' (fun q hq => g2 q (hmr q hq)) γ a w hs _ e2
  have hlk' := (g2 _ hmn).trans hlk
  obtain ⟨A0, L, cap, A1, k1, k2, k3, k4, k5, ev, k7⟩ := e1
  obtain ⟨A, cap', f1, f2, f3⟩ := hs.facts _ _ hlk'
  rw [k1] at f1
  cases f1
  obtain ⟨d1, d2, d3⟩ := dput_some hd
  obtain ⟨ht, i, z, hi, hz, hzs, his, _⟩ := hT
  obtain ⟨B, cb, ey, hcb, us, u1, u2, u3⟩ := e3.cells (P := C.P)
  have hroom : len.toNat + ys.length ≤ cap - off.toNat := by omega
  have f2' := u3 w fun _ => rfl
  rw [← his] at f2'
  have hnn : (off + len).toNat = off.toNat + len.toNat := by omega
  -- the run
  have hrun : ∃ w', (Builtin.append_ #[t, t'] o.type #[a.eval x, a.eval y]).run C.P w = .ok (.slice A1 (len.toNat + ys.length) (cap - off.toNat)) w' ∧ Evo (fun k => k = nm) γ w γ w' ∧ (∀ tm, FactOK γ w' tm (.h nm) (.r u l' false)) ∧ w'.heap.size = w.heap.size := by
    rw [ev, ey]
    by_cases hne : ys = []
    · subst hne
      have hu0 : us = [] := List.eq_nil_of_length_eq_zero (by rw [u1]; simp)
      subst hu0
      simp only [List.length_nil] at f2'
      refine ⟨w, ?_, .refl _ _ _, fun tm => ?_, rfl⟩
      · cases A1 with
        | none => simp [Builtin.append_, run_underlying ht, run_underlying ht', sizeOf, typeInfo, hi, Builtin.lenOf, show len.toNat ≤ cap - off.toNat from by simpa using hroom, f2']
        | some ad => simp [Builtin.append_, run_underlying ht, run_underlying ht', sizeOf, typeInfo, hi, Builtin.lenOf, show len.toNat ≤ cap - off.toNat from by simpa using hroom, f2', storeCells]
      · have : l' = l := by rw [d3]; simp
        rw [this]
        exact (hs.facts _ _ hlk').mem (by simp)
    · have hys : 0 < ys.length := List.length_pos_iff.2 hne
      obtain ⟨b, of0, w', rfl, p2, p3, p4, p5⟩ := put_core (P := C.P) (i := (off + len).toNat) k1 k5 f3 u2 d2 hne
      refine ⟨w', ?_, p3, fun tm => by rw [d3]; exact p4 tm, p5⟩
      have hA1 : A1 = some ⟨b, of0 + off.toNat * T.size u, none⟩ := by
        rw [k7 (by omega)]
        simp [addr_add]
      have hst : (storeCells ((⟨b, of0 + off.toNat * T.size u, none⟩ : Addr).add (len.toNat * i.size)) us).run C.P w = .ok () w' := by
        rw [addr_add, his, show of0 + off.toNat * T.size u + len.toNat * T.size u = of0 + (off + len).toNat * T.size u by rw [hnn, Nat.add_mul]; omega]
        exact p2
      rw [hA1]
      simp [Builtin.append_, run_underlying ht, run_underlying ht', sizeOf, typeInfo, hi, Builtin.lenOf, hroom, f2', hst]
  obtain ⟨w', r1, r2, r3, r4⟩ := hrun
  have hl' : l'.length = l.length := by rw [d3]; simp; omega
  unfold Oper.wp execOp
  simp only [ho, resolve, invoke, builtin, Sem.run_bind, Sem.run_pure, Result.andThen_ok, List.map_toArray, List.map_cons, List.map_nil, r1, Oper.upon_value]
  subst hmw
  refine ⟨γ, _, _, rfl, fun _ _ => ?_, r2, fun k hk => ?_, fun q f hm => ?_, fun _ _ => rfl, fun _ _ h => .inr h, fun b hb => hinv.ok b (by omega), .refl _ _ _⟩
  · simp only [RepP, RepC]
    refine ⟨A0, l.length, cap, A1, k1, ho0, by omega, by omega, k5, ?_, fun h => k7 h⟩
    congr 1
    omega
  · subst hk
    exact ⟨hs.perm _ _ hlk', by simp [locs]⟩
  · simp only [List.mem_singleton, Prod.mk.injEq, Option.some.injEq] at hm
    obtain ⟨rfl, rfl⟩ := hm
    exact ⟨nm, rfl, hs.perm _ _ hlk', r3⟩

theorem zeroCells_rep {γ : Gh} {w : World} {u : T.U} {z : Array Value} {a : T.El u} (h : RepDs γ.imm w (T.enc u a) z.toList) : ∀ n : Nat, RepDs γ.imm w ((List.replicate n a).flatMap (T.enc u)) (Builtin.zeroCells z n).toList := by
  intro n
  have hz : 0 < z.size := by
    have h1 := h.length
    rw [T.enc_len] at h1
    have := T.size_pos u
    simp at h1; omega
  induction n with
  | zero => simp [Builtin.zeroCells, RepDs]
  | succ n ih =>
    have e : (Builtin.zeroCells z (n + 1)).toList = (Builtin.zeroCells z n).toList ++ z.toList := by
      apply List.ext_getElem?
      intro j
      simp only [Builtin.zeroCells, Array.getElem?_toList, Array.getElem?_map, Array.toList_map, List.getElem?_map]
      by_cases h1 : j < n * z.size
      · rw [List.getElem?_append_left (by simpa using h1)]
        simp [Array.getElem?_range, h1, show j < (n + 1) * z.size from by rw [Nat.add_mul]; omega]
      · by_cases h2 : j < (n + 1) * z.size
        · rw [List.getElem?_append_right (by simp; omega)]
          rw [Nat.add_mul] at h2
          have h3 : j - n * z.size < z.size := by omega
          have hm : j % z.size = j - n * z.size := by
            have e1 : j = n * z.size + (j - n * z.size) := by omega
            rw [e1, Nat.mul_add_mod_self_right, Nat.mod_eq_of_lt h3]
            omega
          simp only [List.length_map, Array.length_toList, Array.size_range]
          rw [Array.getElem?_range]
          rw [if_pos (by rw [Nat.add_mul]; omega)]
          simp only [Option.map_some, hm]
          rw [Array.getElem?_toList, Array.getElem?_eq_getElem h3, getElem!_pos z _ h3]
        · rw [List.getElem?_append_right (by simp; rw [Nat.add_mul] at h2; omega)]
          rw [List.getElem?_eq_none (by simp; rw [Nat.add_mul] at h2; omega)]
          simp [Array.getElem?_range, h2]
    rw [List.replicate_succ', List.flatMap_append, e]
    exact ih.append (by simpa using h)

/-- clear of a part of a row. -/
theorem kv_clr {t e : TypeId} {u : T.U} {x : Operand} {Xx : Opd T} {l l' : List (T.El u)} {z : List (DV T.toSig)} {a0 : T.El u} {nm : Nat} {off len : Int}
    (ho : o.op = .call { callee := .builtin .clear, args := #[x], argTypes := #[t] }) (hod : o.dst = none) (hx : cOpd x = some Xx) (ht : C.P.underlying t = some (.slice e))
    (hz : ∃ i zv, C.P.info? e = some i ∧ i.zero = some zv ∧ ∀ (imm : Nat → Nat) (w : World), RepDs imm w z zv.cells.toList) (hdec : T.dec u z = some a0)
    (h1 : Rd σ Xx (.one (.buf u nm off len))) (hlk : look σ (.h nm) = some (.r u l false)) (ho0 : 0 ≤ off) (hl0 : 0 ≤ len) (hd : dput l off (List.replicate len.toNat a0) = some l') :
    KValid C o σ Xx.slots .junk [.h nm] [(.h nm, some (.r u l' false))] lo lo := by
  intro σ' g1 g2 γ a w hinv hs _ Q
  have e1 := Rd.rep hs hx (fun j hj => g1 j hj) h1
  simp only [RepP] at e1
  have hlk' := (g2 _ (by simp)).trans hlk
  obtain ⟨A0, L, cap, A1, k1, k2, k3, k4, k5, ev, k7⟩ := e1
  obtain ⟨A, cap', f1, f2, f3⟩ := hs.facts _ _ hlk'
  rw [k1] at f1
  cases f1
  obtain ⟨d1, d2, d3⟩ := dput_some hd
  obtain ⟨i, zv, hi, hzv, hrz⟩ := hz
  have hza := T.dec_enc u z a0 hdec
  have hr0 : RepDs γ.imm w (T.enc u a0) zv.cells.toList := by rw [hza]; exact hrz _ _
  have hrun : ∃ w', (Builtin.clear_ #[t] o.type #[a.eval x]).run C.P w = .ok (.tuple #[]) w' ∧ Evo (fun k => k = nm) γ w γ w' ∧ (∀ tm, FactOK γ w' tm (.h nm) (.r u l' false)) ∧ w'.heap.size = w.heap.size := by
    rw [ev]
    by_cases hn : len.toNat = 0
    · refine ⟨w, ?_, .refl _ _ _, fun tm => ?_, rfl⟩
      · rw [hn]
        cases A1 <;> simp [Builtin.clear_, run_underlying ht]
      · have : l' = l := by rw [d3, hn]; simp
        rw [this]
        exact (hs.facts _ _ hlk').mem (by simp)
    · have hne : List.replicate len.toNat a0 ≠ [] := by
        intro h
        have := congrArg List.length h
        simp at this; omega
      have hrep := zeroCells_rep hr0 len.toNat
      obtain ⟨b, of0, w', rfl, p2, p3, p4, p5⟩ := put_core (P := C.P) (i := off.toNat) k1 k5 f3 hrep d2 hne
      refine ⟨w', ?_, p3, fun tm => by rw [d3]; exact p4 tm, p5⟩
      simp only [List.length_replicate] at d2
      have hA1 : A1 = some ⟨b, of0 + off.toNat * T.size u, none⟩ := by
        rw [k7 (by omega)]
        simp [addr_add]
      obtain ⟨n, hn'⟩ : ∃ n, len.toNat = n + 1 := ⟨len.toNat - 1, by omega⟩
      rw [hn'] at p2
      rw [hA1, hn']
      simp [Builtin.clear_, run_underlying ht, zeroValue, typeInfo, hi, hzv, p2]
  obtain ⟨w', r1, r2, r3, r4⟩ := hrun
  unfold Oper.wp execOp
  simp only [ho, resolve, invoke, builtin, Sem.run_bind, Sem.run_pure, Result.andThen_ok, List.map_toArray, List.map_cons, List.map_nil, r1, Oper.upon_value]
  refine ⟨γ, _, _, rfl, fun d hdd => ?_, r2, fun k hk => ?_, fun q f hm => ?_, fun _ _ => rfl, fun _ _ h => .inr h, fun b hb => hinv.ok b (by omega), .refl _ _ _⟩
  · simp only [RepP]
  · subst hk
    exact ⟨hs.perm _ _ hlk', by simp [locs]⟩
  · simp only [List.mem_singleton, Prod.mk.injEq, Option.some.injEq] at hm
    obtain ⟨rfl, rfl⟩ := hm
    exact ⟨nm, rfl, hs.perm _ _ hlk', r3⟩

/-- A part of a row taken beyond its end, within the row. -/
theorem kv_slice_up {t e : TypeId} {x : Operand} {lo' hi' : Option Operand} {Xx : Opd T} {Lo Hi : Option (Opd T)} {u u1 : T.U} {nm : Nat} {L : List (T.El u1)} {fz : Bool} {off len l h : Int} (ho : o.op = .slice t x lo' hi' none) (hx : cOpd x = some Xx) (hlo : cOpo lo' = some Lo) (hhi : cOpo hi' = some Hi)
    (hu : C.P.underlying t = some (.slice e)) (hm : tySz C.P e = some (T.size u)) (h1 : Rd σ Xx (.one (.buf u nm off len))) (hl : Rdo σ Lo 0 l) (hh : Rdo σ Hi len h) (hlk : look σ (.h nm) = some (.r u1 L fz)) (ho0 : 0 ≤ off) (h0 : 0 ≤ l) (hlh : l ≤ h) (hhd : off + h ≤ (L.length : Int)) :
    KValid C o σ (Xx.slots ++ (Opd.all Lo.toList ++ Opd.all Hi.toList)) (.one (.buf u nm (off + l) (h - l))) [.h nm] [] lo hi := by
  refine kv_pure fun σ' g1 g2 γ a w hinv hs => ?_
  have e1 := Rd.rep hs hx (fun j hj => g1 j (left hj)) h1
  simp only [RepP] at e1
  obtain ⟨A0, L0, cap0, A1, k1, k2, k3, k4, k5, ev, k7⟩ := e1
  obtain ⟨A', cap', f1, f2, _⟩ := hs.facts _ _ ((g2 _ (by simp)).trans hlk)
  rw [k1] at f1
  cases f1
  have b1 := Rdo.bound (d := 0) hs hlo (fun j hj => g1 j (right (left hj))) hl
  have b2 := Rdo.bound (d := len.toNat) hs hhi (fun j hj => g1 j (right (right hj))) (by rw [Int.toNat_of_nonneg k3]; exact hh)
  have hrun := run_slice_none hu hm w A1 len.toNat (cap0 - off.toNat) _ _ l h b1 b2 h0 hlh (by omega)
  refine ⟨.slice (if cap0 - off.toNat = l.toNat then A1 else A1.map (·.add (l.toNat * T.size u))) (h.toNat - l.toNat) (cap0 - off.toNat - l.toNat), by simp only [execOp, ho, ev, Option.map_none, Sem.run_bind, hrun, Result.andThen_ok, Sem.run_pure], ?_⟩
  simp only [RepP, RepC]
  refine ⟨A0, L.length, cap0, (if cap0 - off.toNat = l.toNat then A1 else A1.map (·.add (l.toNat * T.size u))), k1, by omega, by omega, by omega, k5, ?_, fun hlt => ?_⟩
  · congr 1 <;> omega
  · rw [if_neg (by omega), k7 (by omega)]
    cases A0 with
    | none => rfl
    | some ad =>
      simp only [Option.map_some, add_add, Option.some.injEq]
      congr 1
      rw [← Nat.add_mul]
      congr 1
      omega

theorem run_slice_three {P : Program} {t e : TypeId} {size : Nat} (hu : P.underlying t = some (.slice e)) (hm : tySz P e = some size) (w : World) (A : Option Addr) (len cap : Nat) (k1 k2 k3 : IntKind) (l h m : Int) (h0 : 0 ≤ l) (h1 : l ≤ h) (h2 : h ≤ m) (h3 : m ≤ cap) :
    ∃ v, (Instr.sliceAt t (.slice A len cap) (some (.int k1 l)) (some (.int k2 h)) (some (.int k3 m))).run P w = .ok v w := by
  have b1 := run_bound P w k3 m cap .slice3Acap (by omega) h3
  have b2 := run_bound P w k2 h m.toNat .slice3B (by omega) (by omega)
  have b3 := run_bound P w k1 l h.toNat .slice3C h0 (by omega)
  have key : (Instr.sliceBounds true len cap (some (.int k1 l)) (some (.int k2 h)) (some (.int k3 m))).run P w = .ok (l.toNat, h.toNat, m.toNat) w := by
    simp [Instr.sliceBounds, b1, b2, b3]
  exact ⟨.slice (if m.toNat = l.toNat then A else A.map (·.add (l.toNat * size))) (h.toNat - l.toNat) (m.toNat - l.toNat), by simp [Instr.sliceAt, run_underlying hu, Instr.slice, key, run_sizeOf hm]⟩
/-- s[i:j:k], looked at only. -/
theorem kv_look3 {t e : TypeId} {size : Nat} {x y1 y2 y3 : Operand} {Xx Y1 Y2 Y3 : Opd T} {u0 u : T.U} {nm : Nat} {l : List (T.El u)} {fz : Bool} {k1 k2 k3 : IntKind} {a b m : Int} (ho : o.op = .slice t x (some y1) (some y2) (some y3))
    (hx : cOpd x = some Xx) (hy1 : cOpd y1 = some Y1) (hy2 : cOpd y2 = some Y2) (hy3 : cOpd y3 = some Y3) (hu : C.P.underlying t = some (.slice e)) (hm : tySz C.P e = some size)
    (h0 : Rd σ Xx (.one (.own u0 nm))) (h1 : Rd σ Y1 (.one (.d (.int k1 a)))) (h2 : Rd σ Y2 (.one (.d (.int k2 b)))) (h3 : Rd σ Y3 (.one (.d (.int k3 m)))) (hlk : look σ (.h nm) = some (.r u l fz)) (q0 : 0 ≤ a) (q1 : a ≤ b) (q2 : b ≤ m) (q3 : m ≤ (l.length : Int)) :
    KValid C o σ (Xx.slots ++ (Y1.slots ++ (Y2.slots ++ Y3.slots))) .junk [.h nm] [] lo hi := by
  refine kv_pure fun σ' g1 g2 γ ac w hinv hs => ?_
  have e0 := Rd.rep hs hx (fun j hj => g1 j (left hj)) h0
  have e1 := repI (Rd.rep hs hy1 (fun j hj => g1 j (right (left hj))) h1)
  have e2 := repI (Rd.rep hs hy2 (fun j hj => g1 j (right (right (left hj)))) h2)
  have e3 := repI (Rd.rep hs hy3 (fun j hj => g1 j (right (right (right hj)))) h3)
  simp only [RepP] at e0
  obtain ⟨A, L, cap, i1, i2⟩ := e0
  obtain ⟨A', cap', f1, f2, _⟩ := hs.facts _ _ ((g2 _ (by simp)).trans hlk)
  rw [i1] at f1
  cases f1
  obtain ⟨v, hv⟩ := run_slice_three hu hm w A l.length cap k1 k2 k3 a b m q0 q1 q2 (by omega)
  exact ⟨v, by simp only [execOp, ho, i2, e1, e2, e3, Option.map_some, Sem.run_bind, hv, Result.andThen_ok, Sem.run_pure], by simp only [RepP]⟩
theorem kv_mm {big : Bool} {x y : Operand} {ts : Array TypeId} {Xx Yy : Opd T} {k : IntKind} {p q : Int} (ho : o.op = .call { callee := .builtin (if big then .max else .min), args := #[x, y], argTypes := ts }) (hx : cOpd x = some Xx) (hy : cOpd y = some Yy)
    (h1 : Rd σ Xx (.one (.d (.int k p)))) (h2 : Rd σ Yy (.one (.d (.int k q)))) : KValid C o σ (Xx.slots ++ Yy.slots) (.one (.d (.int k (if big then imax p q else imin p q)))) [] [] lo hi := by
  refine kv_pure fun σ' g1 _ γ ac w hinv hs => ?_
  have e1 := repI (Rd.rep hs hx (fun j hj => g1 j (left hj)) h1)
  have e2 := repI (Rd.rep hs hy (fun j hj => g1 j (right hj)) h2)
  cases big with
  | true =>
    refine ⟨_, by simp [execOp, ho, resolve, invoke, builtin, e1, e2, Builtin.max_, Builtin.max2]; rfl, ?_⟩
    exact mkI
  | false =>
    refine ⟨_, by simp [execOp, ho, resolve, invoke, builtin, e1, e2, Builtin.min_, Builtin.min2]; rfl, ?_⟩
    exact mkI
end
end Go.G
