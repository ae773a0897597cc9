import Derived.Test.YtmhleddbamfheaaP18f
set_option linter.unusedVariables false
set_option linter.unusedSimpArgs false
namespace Go.G
set_option maxRecDepth 100000
theorem enter_roots (fu : Nat) (n o : Int) (l : List Cap18) (hf : l.length < fu) (hl : l.length < 1000000000000) :
    iter (t19_1 fu) fu ((), ((), ((), ((), (l, ((dlen l), (0, ([], ((0, ((), ())), ((o, ()), ((n, (l, ())), ()))))))))))) = some (.inl ((), ((), ((), ((), (l.filter isRoot, ((0, ((), ())), ((o, ()), ((n, (l, ())), ()))))))))) := by
  have := iter_fold (step := t19_1 fu) (fu := fu) l (fun j (s : List Cap18) => ((), ((), ((), ((), (l, ((dlen l), ((j : Int), (s, ((0, ((), ())), ((o, ()), ((n, (l, ())), ()))))))))))))
    (fun x s => bif isRoot x then s ++ [x] else s) (fun i s => s.length ≤ i) (fun s => .inl ((), ((), ((), ((), (s, ((0, ((), ())), ((o, ()), ((n, (l, ())), ()))))))))) [] hf (by simp)
    (fun i x s hi hI => by
      have h1 := getElem?_lt hi
      refine ⟨?_, by cases isRoot x <;> simp <;> omega⟩
      simp only [t19_1, dlen_def, dat_nat, hi, ilt_len h1, iadd1 (show i < 9223372036854775807 by omega), isRoot]
      rw [dapp_ok (by simp; omega) (by simp; omega)]
      cases ieq x.Parent 0 <;> cases ieq x.Right_Type 1 <;> cases ieq x.Right_Code 1 <;> simp)
    (fun s hI => by simp only [t19_1, dlen_def, ilt_end])
  simp only [Int.natCast_zero] at this
  rw [this]
  have e : ∀ (l acc : List Cap18), l.foldl (fun s x => bif isRoot x then s ++ [x] else s) acc = acc ++ l.filter isRoot := by
    intro l
    induction l with
    | nil => simp
    | cons x l ih =>
      intro acc
      rw [List.foldl_cons, ih]
      cases h : isRoot x <;> simp [h]
  rw [e]
  rfl

theorem enter_has (fu : Nat) (n o : Int) (l r : List Cap18) (hf : l.length < fu) (hl : l.length < 1000000000000) (hfr : r.length < fu) (hr : r.length < 1000000000000) :
    (∃ i : Nat, r.any (hasR l o) = true ∧ iter (t19_6 fu) fu ((), ((), ((dlen r), (0, ((o, ()), ((n, (l, ())), (r, ()))))))) = some (.inr (.inl ((i : Int), ((o, ()), ((n, (l, ())), (r, ()))))))) ∨
    (r.any (hasR l o) = false ∧ iter (t19_6 fu) fu ((), ((), ((dlen r), (0, ((o, ()), ((n, (l, ())), (r, ()))))))) = some (.inl ((o, ()), ((n, (l, ())), (r, ()))))) := by
  have := iter_idx (step := t19_6 fu) (fu := fu) r (fun j => ((), ((), ((dlen r), ((j : Int), ((o, ()), ((n, (l, ())), (r, ())))))))) (hasR l o) (fun i => .inr (.inl ((i : Int), ((o, ()), ((n, (l, ())), (r, ())))))) (.inl ((o, ()), ((n, (l, ())), (r, ())))) hfr
    (fun i x hi hq => by
      have h1 := getElem?_lt hi
      simp only [hasR] at hq
      simp only [t19_6, dlen_def, dat_nat, hi, ilt_len h1, iadd1 (show i < 9223372036854775807 by omega), has_caps fu n l _ _ _ _ hf (by omega), hq])
    (fun i x hi hq => by
      have h1 := getElem?_lt hi
      simp only [hasR] at hq
      simp only [t19_6, dlen_def, dat_nat, hi, ilt_len h1, has_caps fu n l _ _ _ _ hf (by omega), hq])
    (by simp only [t19_6, dlen_def, ilt_end])
  simp only [Int.natCast_zero] at this
  rw [this, any_find]
  rcases idx_find r (hasR l o) with ⟨i, x, h1, h2, h3, h4⟩ | ⟨h1, h2⟩
  · exact .inl ⟨i, by rw [h3]; rfl, by rw [h1]⟩
  · exact .inr ⟨by rw [h2]; rfl, by rw [h1]⟩

theorem enter_caps (fu : Nat) (n : Int) (l : List Cap18) (o : Int) (hf : l.length < fu) (hl : l.length < 1000000000000) : s19 fu n l o = some (enterS n l o) := by
  unfold s19 enterS
  rw [valid_caps fu n l hf hl]
  cases hv : validB n l with
  | false => simp
  | true =>
    obtain ⟨_, v2, v3, v4⟩ := validB_iff.1 hv
    simp only [Bool.not_true, cond_false]
    cases c1 : ilt o 16 <;> simp only [Bool.true_or, Bool.false_or, cond_true]
    cases c2 : ile 32 o <;> simp only [cond_true, cond_false]
    rw [enter_roots fu n o l hf hl]
    simp only
    have hrl : (l.filter isRoot).length ≤ l.length := List.length_filter_le _ _
    generalize hr : l.filter isRoot = r at hrl ⊢
    rcases enter_has fu n o l r hf hl (by omega) (by omega) with ⟨i, h1, h2⟩ | ⟨h1, h2⟩
    · rw [h2, h1]
      simp only [show ile 0 (i : Int) = true from ile_iff.2 (by omega), cond_true]
    · rw [h2, h1]
      simp only [show ile 0 (-1) = false from rfl, cond_false, dlen_def]
      rw [iadd64 (by omega)]
      by_cases c3 : 400 < l.length + r.length
      · rw [show ilt 400 ((l.length : Int) + (r.length : Int)) = true from ilt_iff.2 (by omega)]
        simp [c3]
      · rw [show ilt 400 ((l.length : Int) + (r.length : Int)) = false from ilt_f.2 (by omega), decide_eq_false c3]
        simp only [Bool.false_or]
        rw [dapp_ok (l := []) (by simp; omega) (by simp; omega), isub64 (by omega)]
        by_cases c4 : r.length = 0
        · rw [show ilt 0 (r.length : Int) = false from ilt_f.2 (by omega), decide_eq_false (by omega)]
          simp only [List.nil_append]
          have := enter_add fu o n 0 l r (by omega) (by omega) (by omega) (by omega)
          simp only [dlen_def] at this
          rw [this]
          simp
        · rw [show ilt 0 (r.length : Int) = true from ilt_iff.2 (by omega)]
          simp only [List.nil_append]
          by_cases c5 : 1099511627776 < n + r.length
          · rw [show ilt (1099511627776 - (r.length : Int)) n = true from ilt_iff.2 (by omega), decide_eq_true c5]
            simp
          · rw [show ilt (1099511627776 - (r.length : Int)) n = false from ilt_f.2 (by omega), decide_eq_false c5]
            have := enter_add fu o n 0 l r (by omega) (by omega) (by omega) (by omega)
            simp only [dlen_def] at this
            simp only [t19_a]
            rw [this]
            simp

/-- The reference's collecting loop: stops at a root that is had. -/
theorem enter_walk (l : List Cap18) (o : Int) {ε : Type} (e : List Cap18 → ε) : ∀ (r : List Cap18) (i : Nat) (s : List Cap18),
    ((r.filter isRoot).any (hasR l o) = false ∧ walkI (fun _ x s => bif isRoot x then (bif hasR l o x then .inr (e s) else .inl (s ++ [x])) else .inl s) r i s = .inl (s ++ r.filter isRoot)) ∨
    ((r.filter isRoot).any (hasR l o) = true ∧ ∃ s', walkI (fun _ x s => bif isRoot x then (bif hasR l o x then .inr (e s) else .inl (s ++ [x])) else .inl s) r i s = .inr (e s'))
  | [], i, s => .inl ⟨rfl, by simp [walkI]⟩
  | x :: r, i, s => by
    simp only [walkI]
    cases h1 : isRoot x with
    | false =>
      simp only [cond_false, List.filter_cons, h1, Bool.false_eq_true, if_false]
      exact enter_walk l o e r (i + 1) s
    | true =>
      simp only [cond_true, List.filter_cons, h1, if_true, List.any_cons]
      cases h2 : hasR l o x with
      | true => exact .inr ⟨rfl, s, rfl⟩
      | false =>
        simp only [cond_false, Bool.false_or]
        have := enter_walk l o e r (i + 1) (s ++ [x])
        simpa using this

theorem enter_ref (fu : Nat) (n : Int) (l : List Cap18) (o : Int) (hf : l.length < fu) (hl : l.length < 1000000000000) : s26 fu n l o = some (enterS n l o) := by
  unfold s26 enterS
  rw [valid_ref fu n l hf hl]
  cases hv : validB n l with
  | false => simp
  | true =>
    obtain ⟨_, v2, v3, v4⟩ := validB_iff.1 hv
    simp only [Bool.not_true, cond_false]
    cases c1 : ilt o 16 <;> simp only [Bool.true_or, Bool.false_or, cond_true]
    cases c2 : ile 32 o <;> simp only [cond_true, cond_false]
    have := iter_walk (step := t26_1 fu) (fu := fu) l (fun j (s : List Cap18) => (o, ((), ((), ((), ((j : Int), (s, ((0, ([], ())), ((n, (l, ())), ())))))))))
      (fun _ x s => bif isRoot x then (bif hasR l o x then .inr (.inr (.inl (9, ((), (s, ((0, ([], ())), ((n, (l, ())), ()))))))) else .inl (s ++ [x])) else .inl s) (fun i s => s.length ≤ i)
      (fun s => .inl (o, ((), ((), ((), (s, ((0, ([], ())), ((n, (l, ())), ())))))))) [] hf (by simp)
      (fun i x s hi hI => by
        have h1 := getElem?_lt hi
        simp only [t26_1, dlen_def, dat_nat, hi, ilt_len h1, iadd1 (show i < 9223372036854775807 by omega), has_ref fu n l _ _ _ _ hf (by omega), isRoot, hasR]
        rw [dapp_ok (by simp; omega) (by simp; omega)]
        cases ieq x.Parent 0 <;> simp <;> try omega
        cases ieq x.Right_Type 1 <;> simp <;> try omega
        cases ieq x.Right_Code 1 <;> simp <;> try omega
        cases l.any (isHas o x.Right_Type x.Right_Peer x.Right_Code) <;> simp <;> omega)
      (fun s hI => by simp only [t26_1, dlen_def, ilt_end])
    simp only [Int.natCast_zero] at this
    rw [this]
    have hrl : (l.filter isRoot).length ≤ l.length := List.length_filter_le _ _
    rcases enter_walk l o (ε := (Int × Unit × Unit × Unit × List Cap18 × (Int × List Cap18 × Unit) × (Int × List Cap18 × Unit) × Unit) ⊕ (Int × Unit × List Cap18 × (Int × List Cap18 × Unit) × (Int × List Cap18 × Unit) × Unit) ⊕ Empty) (fun s => .inr (.inl (9, ((), (s, ((0, ([], ())), ((n, (l, ())), ()))))))) l 0 [] with ⟨w1, w2⟩ | ⟨w1, s', w2⟩
    · rw [w2, w1]
      simp only [List.nil_append, cond_false, dlen_def]
      generalize hr : l.filter isRoot = r at hrl ⊢
      rw [iadd64 (by omega)]
      by_cases c3 : 400 < l.length + r.length
      · rw [show ilt 400 ((l.length : Int) + (r.length : Int)) = true from ilt_iff.2 (by omega)]
        simp [c3]
      · rw [show ilt 400 ((l.length : Int) + (r.length : Int)) = false from ilt_f.2 (by omega), decide_eq_false c3, iadd64 (by omega)]
        simp only [Bool.false_or]
        by_cases c5 : 1099511627776 < n + r.length
        · rw [show ilt 1099511627776 (n + (r.length : Int)) = true from ilt_iff.2 (by omega), decide_eq_true c5]
          simp
        · rw [show ilt 1099511627776 (n + (r.length : Int)) = false from ilt_f.2 (by omega), decide_eq_false c5]
          have := iter_fold (step := t26_7 fu) (fu := fu) r (fun j (s : Int × List Cap18) => (o, ((), ((), ((), ((j : Int), (r, ((0, ([], ())), ((s.1, (s.2, ())), ())))))))))
            (adStep o) (fun i s => s.2.length = l.length + i ∧ s.1 = n + i) (fun s => .inl ((), ((), (r, ((0, ([], ())), ((s.1, (s.2, ())), ())))))) (n, l) (by omega) (by simp)
            (fun i x s hi hI => by
              have h1 := getElem?_lt hi
              refine ⟨?_, by simp only [adStep, List.length_append, List.length_cons, List.length_nil]; omega⟩
              simp only [t26_7, dlen_def, dat_nat, hi, ilt_len h1, iadd1 (show i < 9223372036854775807 by omega), add_ref fu s.1 s.2 _ _ _ _ _ (show s.2.length < 1000000000000 by omega) (by omega)]
              rfl)
            (fun s hI => by simp only [t26_7, dlen_def, ilt_end])
          simp only [Int.natCast_zero] at this
          simp only
          rw [this, ad_fold]
          simp
    · rw [w2, w1]
      simp
end Go.G
