import Derived.Test.YtjmhaeegcaapeaaP12o
import Derived.Lib.Bytes
set_option linter.unusedVariables false
set_option linter.unusedSimpArgs false
namespace Go.G
open Go.Lib
set_option maxRecDepth 100000
deriving instance DecidableEq for Flight12
theorem beqb_d (a b : Bool) : beqb a b = decide (a = b) := by cases a <;> cases b <;> rfl
abbrev By (l : List Int) : Prop := ∀ x ∈ l, 0 ≤ x ∧ x ≤ 255
theorem by_back {a : List Int} (h : By a) : (bytesOf a).map (fun u => (u.toNat : Int)) = a := by
  unfold bytesOf
  rw [List.map_map]
  conv => rhs; rw [← List.map_id a]
  refine List.map_congr_left fun x hx => ?_
  have := h x hx
  show ((UInt8.ofNat x.toNat).toNat : Int) = x
  rw [UInt8.toNat_ofNat']
  omega
theorem s58_eq (fu : Nat) {a b : List Int} (ha : By a) (hb : By b) : s58 fu a b = some (decide (a = b), ()) := by
  unfold s58 seqb dstr
  rw [strOfNums_toList, strOfNums_toList]
  congr 2
  by_cases h : a = b
  · subst h; simp
  · have : bytesOf a ≠ bytesOf b := fun e => h (by rw [← by_back ha, e, by_back hb])
    simp [h, this]
theorem iter_eq2 {X ε α : Type} [DecidableEq α] {step : X → Option (X ⊕ ε)} {fu : Nat} (l l' : List α) (hl : l.length = l'.length) (st : Nat → X) (e0 e1 : ε) (hf : l.length < fu)
    (hin : ∀ i a, l[i]? = some a → l'[i]? = some a → step (st i) = some (.inl (st (i + 1))))
    (hout : ∀ i a b, l[i]? = some a → l'[i]? = some b → a ≠ b → step (st i) = some (.inr e1))
    (hend : step (st l.length) = some (.inr e0)) : iter step fu (st 0) = some (if l = l' then e0 else e1) := by
  rcases iter_search (step := step) (fu := fu) (n := l.length) st (fun j => decide (l[j]? ≠ l'[j]?)) (fun _ => e1) (e := e0)
    (fun j hj hn => by
      have e := of_decide_eq_false hn
      rw [ne_eq, Classical.not_not] at e
      have e2 : l[j]? = some l[j] := List.getElem?_eq_getElem hj
      exact hin j _ e2 (by rw [← e, e2]))
    (fun j hj hn => by
      have e := of_decide_eq_true hn
      have e2 : l[j]? = some l[j] := List.getElem?_eq_getElem hj
      have e3 : l'[j]? = some (l'[j]'(by omega)) := List.getElem?_eq_getElem (by omega)
      exact hout j _ _ e2 e3 (fun h => e (by rw [e2, e3, h])))
    hend hf with ⟨j, h1, h2, _, h4⟩ | ⟨h1, h2⟩
  · rw [h4, if_neg]
    intro h
    subst h
    simp at h2
  · rw [h2, if_pos]
    refine List.ext_getElem? fun j => ?_
    by_cases hj : j < l.length
    · have e := of_decide_eq_false (h1 j hj)
      rwa [ne_eq, Classical.not_not] at e
    · rw [List.getElem?_eq_none (by omega), List.getElem?_eq_none (by omega)]
theorem fl_eq (f g : Flight12) : decide (f = g) = (decide (f.Due = g.Due) && decide (f.Data = g.Data)) := by
  rw [Bool.eq_iff_iff]
  simp only [Bool.and_eq_true, decide_eq_true_eq]
  constructor
  · rintro rfl; exact ⟨rfl, rfl⟩
  · rintro ⟨a, b⟩
    cases f; cases g; simp_all
theorem eqfl (fu : Nat) {fl fl' : List Flight12} (hf : fl.length < fu) (hL : fl.length ≤ 1000000000000000) (hl : fl.length = fl'.length) (h1 : ∀ f ∈ fl, By f.Data) (h2 : ∀ f ∈ fl', By f.Data) : iter (t31_1 fu) fu (fl', ((), (fl, ((dlen fl), (0, ()))))) = some (if fl = fl' then .inl () else .inr (.inl (false, ()))) := by
  have h := iter_eq2 (step := t31_1 fu) (fu := fu) fl fl' hl (fun i => (fl', ((), (fl, ((dlen fl), ((i : Int), ())))))) (.inl ()) (.inr (.inl (false, ()))) hf
    (fun i a ha hb => by
      have hj := getElem?_lt ha
      have k := s58_eq fu (h1 a (List.mem_of_getElem? ha)) (h2 a (List.mem_of_getElem? hb))
      simp only [t31_1, dlen_def, ilt_len hj, dat_nat, ha, hb, s60, k, ieq_d, decide_true, iadd1 (show i < 9223372036854775807 by omega)])
    (fun i a b ha hb hn => by
      have hj := getElem?_lt ha
      have k := s58_eq fu (h1 a (List.mem_of_getElem? ha)) (h2 b (List.mem_of_getElem? hb))
      have e := fl_eq a b
      rw [decide_eq_false hn] at e
      simp only [t31_1, dlen_def, ilt_len hj, dat_nat, ha, hb, s60, k, ieq_d]
      cases h3 : decide (a.Due = b.Due) with
      | false => rfl
      | true =>
        rw [h3, Bool.true_and] at e
        rw [← e])
    (by simp only [t31_1, dlen_def, ilt_end])
  exact h
theorem eqwt (fu : Nat) {wt wt' : List (List Int)} (hf : wt.length < fu) (hL : wt.length ≤ 1000000000000000) (hl : wt.length = wt'.length) (h1 : ∀ f ∈ wt, By f) (h2 : ∀ f ∈ wt', By f) : iter (t31_7 fu) fu (wt', ((), (wt, ((dlen wt), (0, ()))))) = some (if wt = wt' then .inl () else .inr (.inl (false, ()))) := by
  have h := iter_eq2 (step := t31_7 fu) (fu := fu) wt wt' hl (fun i => (wt', ((), (wt, ((dlen wt), ((i : Int), ())))))) (.inl ()) (.inr (.inl (false, ()))) hf
    (fun i a ha hb => by
      have hj := getElem?_lt ha
      have k := s58_eq fu (h1 a (List.mem_of_getElem? ha)) (h2 a (List.mem_of_getElem? hb))
      simp only [t31_7, dlen_def, ilt_len hj, dat_nat, ha, hb, k, decide_true, iadd1 (show i < 9223372036854775807 by omega)])
    (fun i a b ha hb hn => by
      have hj := getElem?_lt ha
      have k := s58_eq fu (h1 a (List.mem_of_getElem? ha)) (h2 b (List.mem_of_getElem? hb))
      simp only [t31_7, dlen_def, ilt_len hj, dat_nat, ha, hb, k, decide_eq_false hn])
    (by simp only [t31_7, dlen_def, ilt_end])
  exact h
def eqC (o : Bool) (t op pl : Int) (d : List Int) (lt la : Int) (ld : List Int) (o' : Bool) (t' op' pl' : Int) (d' : List Int) (lt' la' : Int) (ld' : List Int) : Bool :=
  decide (o = o') && (decide (t = t') && (decide (op = op') && (decide (pl = pl') && (decide (d = d') && (decide (lt = lt') && (decide (la = la') && decide (ld = ld')))))))
theorem s62_eq (fu : Nat) (o : Bool) (t op pl : Int) (d : List Int) (lt la : Int) (ld : List Int) (o' : Bool) (t' op' pl' : Int) (d' : List Int) (lt' la' : Int) (ld' : List Int) (h1 : By d) (h2 : By ld) (h3 : By d') (h4 : By ld') : s62 fu o t op pl d lt la ld o' t' op' pl' d' lt' la' ld' = some (eqC o t op pl d lt la ld o' t' op' pl' d' lt' la' ld', ()) := by
  unfold s62 eqC
  rw [s58_eq fu h1 h3, s58_eq fu h2 h4]
  simp only [beqb_d, ieq_d]
  cases decide (o = o') <;> cases decide (t = t') <;> cases decide (op = op') <;> cases decide (pl = pl') <;> cases decide (d = d') <;> cases decide (lt = lt') <;> cases decide (la = la') <;> rfl
def eqS (P : List Int) (now : Int) (sent : Int) (first : Int) (fl : List Flight12) (wt : List (List Int)) (oo : Bool) (ot : Int) (oop : Int) (opl : Int) (od : List Int) (olt : Int) (ola : Int) (old : List Int) (io : Bool) (it : Int) (iop : Int) (ipl : Int) (id : List Int) (jlt : Int) (jla : Int) (jld : List Int) (P' : List Int) (now' : Int) (sent' : Int) (first' : Int) (fl' : List Flight12) (wt' : List (List Int)) (oo' : Bool) (ot' : Int) (oop' : Int) (opl' : Int) (od' : List Int) (olt' : Int) (ola' : Int) (old' : List Int) (io' : Bool) (it' : Int) (iop' : Int) (ipl' : Int) (id' : List Int) (jlt' : Int) (jla' : Int) (jld' : List Int) : Bool := decide (P = P') && (decide (now = now') && (decide (sent = sent') && (decide (first = first') && (decide (fl = fl') && (decide (wt = wt') && (eqC oo ot oop opl od olt ola old oo' ot' oop' opl' od' olt' ola' old' && eqC io it iop ipl id jlt jla jld io' it' iop' ipl' id' jlt' jla' jld'))))))
section
variable {fu : Nat} {P P' : List Int} {now sent first now' sent' first' : Int} {fl fl' : List Flight12} {wt wt' : List (List Int)} {oo oo' : Bool} {ot oop opl ot' oop' opl' : Int} {od od' : List Int} {olt ola olt' ola' : Int} {old old' : List Int} {io io' : Bool} {it iop ipl it' iop' ipl' : Int} {id id' : List Int} {jlt jla jlt' jla' : Int} {jld jld' : List Int}
theorem eqS_iff : eqS P now sent first fl wt oo ot oop opl od olt ola old io it iop ipl id jlt jla jld P' now' sent' first' fl' wt' oo' ot' oop' opl' od' olt' ola' old' io' it' iop' ipl' id' jlt' jla' jld' = true ↔ tu P now sent first fl wt oo ot oop opl od olt ola old io it iop ipl id jlt jla jld = tu P' now' sent' first' fl' wt' oo' ot' oop' opl' od' olt' ola' old' io' it' iop' ipl' id' jlt' jla' jld' := by
  unfold eqS eqC tu
  simp only [Bool.and_eq_true, decide_eq_true_eq, Prod.mk.injEq, and_true]
  constructor
  · rintro ⟨a, b, c, d, e, f, ⟨g, h, i, j, k, l, m, n⟩, o, p, q, r, s, t, u, v⟩
    exact ⟨a, b, c, d, e, f, g, h, i, j, k, l, m, n, o, p, q, r, s, t, u, v⟩
  · rintro ⟨a, b, c, d, e, f, g, h, i, j, k, l, m, n, o, p, q, r, s, t, u, v⟩
    exact ⟨a, b, c, d, e, f, ⟨g, h, i, j, k, l, m, n⟩, o, p, q, r, s, t, u, v⟩
theorem dl_eq {α : Type} (l l' : List α) : ieq (dlen l) (dlen l') = decide (l.length = l'.length) := by rw [ieq_d, dlen_def, dlen_def]; exact decide_eq_decide.2 (by omega)
structure BySt (P : List Int) (fl : List Flight12) (wt : List (List Int)) (od old id jld : List Int) : Prop where
  p : By P
  fl : ∀ f ∈ fl, By f.Data
  wt : ∀ b ∈ wt, By b
  od : By od
  old : By old
  id : By id
  jld : By jld
theorem equal_p (hf : fl.length < fu) (hL : fl.length ≤ 1000000000000000) (hf' : wt.length < fu) (hL' : wt.length ≤ 1000000000000000) (hb : BySt P fl wt od old id jld) (hb' : BySt P' fl' wt' od' old' id' jld') : s31 fu P now sent first fl wt oo ot oop opl od olt ola old io it iop ipl id jlt jla jld P' now' sent' first' fl' wt' oo' ot' oop' opl' od' olt' ola' old' io' it' iop' ipl' id' jlt' jla' jld' = some (eqS P now sent first fl wt oo ot oop opl od olt ola old io it iop ipl id jlt jla jld P' now' sent' first' fl' wt' oo' ot' oop' opl' od' olt' ola' old' io' it' iop' ipl' id' jlt' jla' jld', ()) := by
  have t22 : t31_22 fu = t31_7 fu := rfl
  unfold s31 eqS
  simp only [t22, s58_eq fu hb.p hb'.p, ieq_d, s62_eq fu _ _ _ _ _ _ _ _ _ _ _ _ _ _ _ _ hb.od hb.old hb'.od hb'.old, s62_eq fu _ _ _ _ _ _ _ _ _ _ _ _ _ _ _ _ hb.id hb.jld hb'.id hb'.jld]
  generalize hcO : eqC oo ot oop opl od olt ola old oo' ot' oop' opl' od' olt' ola' old' = cO
  generalize hcI : eqC io it iop ipl id jlt jla jld io' it' iop' ipl' id' jlt' jla' jld' = cI
  cases decide (P = P') with
  | false => rfl
  | true =>
  cases decide (now = now') with
  | false => rfl
  | true =>
  cases decide (sent = sent') with
  | false => rfl
  | true =>
  cases decide (first = first') with
  | false => rfl
  | true =>
  simp only [← ieq_d, dl_eq]
  by_cases e1 : fl.length = fl'.length
  · rw [decide_eq_true e1]
    simp only [eqfl fu hf hL e1 hb.fl hb'.fl]
    by_cases e2 : fl = fl'
    · rw [if_pos e2, decide_eq_true e2]
      by_cases e3 : wt.length = wt'.length
      · rw [decide_eq_true e3]
        simp only [eqwt fu hf' hL' e3 hb.wt hb'.wt]
        by_cases e4 : wt = wt'
        · rw [if_pos e4, decide_eq_true e4]
          cases cO <;> rfl
        · rw [if_neg e4, decide_eq_false e4]
          rfl
      · rw [decide_eq_false e3, show decide (wt = wt') = false from decide_eq_false (fun h => e3 (by rw [h]))]
        rfl
    · rw [if_neg e2, decide_eq_false e2]
      rfl
  · rw [decide_eq_false e1, show decide (fl = fl') = false from decide_eq_false (fun h => e1 (by rw [h]))]
    rfl
end
end Go.G
