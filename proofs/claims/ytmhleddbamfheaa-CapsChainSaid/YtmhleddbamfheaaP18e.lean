import Derived.Test.YtmhleddbamfheaaP18d
set_option linter.unusedVariables false
set_option linter.unusedSimpArgs false
namespace Go.G
set_option maxRecDepth 100000
theorem any_find {α : Type} (l : List α) (q : α → Bool) : l.any q = (l.find? q).isSome := by
  induction l with
  | nil => rfl
  | cons a l ih =>
    rw [List.any_cons, List.find?_cons]
    cases h : q a with
    | true => rfl
    | false => simpa using ih

def gStep (k o : Int) (x : Cap18) (s : List Cap18 × List Cap18) : List Cap18 × List Cap18 :=
  (bif s.1.any (byID x.Parent) || (ieq x.ID k || ieq x.Owner o) then s.1 ++ [x] else s.1, bif s.1.any (byID x.Parent) || ieq x.Owner o then s.2 else s.2 ++ [x])

theorem gStep_len (k o : Int) (x : Cap18) (s : List Cap18 × List Cap18) : (gStep k o x s).1.length ≤ s.1.length + 1 ∧ (gStep k o x s).2.length ≤ s.2.length + 1 := by
  unfold gStep
  constructor
  · cases s.1.any (byID x.Parent) || (ieq x.ID k || ieq x.Owner o) <;> simp
  · cases s.1.any (byID x.Parent) || ieq x.Owner o <;> simp

theorem gone_ref (fu : Nat) (l : List Cap18) (k o : Int) (hf : l.length < fu) (hl : l.length < 1000000000000) : s46 fu l k o = some ((l.foldl (fun s x => gStep k o x s) ([], [])).2, ()) := by
  unfold s46
  have := iter_fold (step := t46_0 fu) (fu := fu) l (fun j (s : List Cap18 × List Cap18) => (l, (k, (o, ((), ((), ((j : Int), (s.1, (s.2, ())))))))))
    (gStep k o) (fun i s => s.1.length ≤ i ∧ s.2.length ≤ i) (fun s => .inl ((), (s.1, (s.2, ())))) ([], []) hf (by simp)
    (fun i x s hi hI => by
      have h1 := getElem?_lt hi
      refine ⟨?_, by have := gStep_len k o x s; omega⟩
      simp only [t46_0, dlen_def, dat_nat, hi, ilt_len h1, iadd1 (show i < 9223372036854775807 by omega), find_ref fu s.1 _ (show s.1.length < fu by omega) (show s.1.length < 9223372036854775807 by omega), gStep, any_find]
      rw [dapp_ok (by simp; omega) (by simp; omega), dapp_ok (by simp; omega) (by simp; omega)]
      cases hm : s.1.find? (byID x.Parent) <;> cases h2 : ieq x.ID k <;> cases h3 : ieq x.Owner o <;> simp)
    (fun s hI => by simp only [t46_0, dlen_def, ilt_end])
  simp only [Int.natCast_zero] at this
  rw [this]

theorem specW_congr (g : Cap18 → Bool) : ∀ (l : List Cap18) (m m' : Int → Bool), (∀ j, m j = m' j) → specW g l m = specW g l m'
  | l, m, m', h => by rw [show m = m' from funext h]

theorem gone_leave (k o : Int) : ∀ (l : List Cap18) (aw out : List Cap18), (∀ x ∈ l, ieq x.ID k = false) → (l.foldl (fun s x => gStep k o x s) (aw, out)).2 = out ++ specW (fun x => ieq x.Owner o) l (fun j => aw.any (byID j))
  | [], aw, out, _ => by simp [specW]
  | x :: l, aw, out, h => by
    have hx := h x (by simp)
    simp only [List.foldl_cons, specW]
    have e : gStep k o x (aw, out) = bif aw.any (byID x.Parent) || ieq x.Owner o then (aw ++ [x], out) else (aw, out ++ [x]) := by
      unfold gStep
      simp only [hx, Bool.false_or]
      cases aw.any (byID x.Parent) || ieq x.Owner o <;> rfl
    rw [e]
    cases hc : aw.any (byID x.Parent) || ieq x.Owner o with
    | true =>
      simp only [cond_true]
      rw [gone_leave k o l _ _ fun y hy => h y (by simp [hy])]
      congr 1
      apply specW_congr
      intro j
      simp only [List.any_append, List.any_cons, List.any_nil, Bool.or_false, byID]
      rw [Bool.or_comm, ieq_comm]
    | false =>
      simp only [cond_false]
      rw [gone_leave k o l _ _ fun y hy => h y (by simp [hy])]
      simp

theorem okAt_par {n : Int} {pre : List Cap18} {x : Cap18} (h : okAt n pre x = true) : ieq x.Parent 0 = true ∨ pre.any (byID x.Parent) = true := by
  simp only [okAt, Bool.and_eq_true] at h
  have hp := h.2.2.2.2.2.1
  simp only [parOK] at hp
  cases h0 : ieq x.Parent 0 with
  | true => exact .inl rfl
  | false =>
    rw [h0, if_neg (by simp)] at hp
    refine .inr ?_
    rw [any_find]
    show (pre.find? fun p => ieq p.ID x.Parent).isSome = true
    cases hf : pre.find? (fun p => ieq p.ID x.Parent) with
    | none => rw [hf] at hp; cases hp
    | some p => rfl
theorem okAt_owner {n : Int} {pre : List Cap18} {x : Cap18} (h : okAt n pre x = true) : 0 ≤ x.Owner ∧ x.Owner < 32 := by
  simp only [okAt, Bool.and_eq_true, Bool.not_eq_true', ilt_f, ile_f] at h
  exact ⟨h.2.2.2.1, h.2.2.2.2.1⟩
theorem okAt_next {n : Int} {pre : List Cap18} {x : Cap18} (h : okAt n pre x = true) : x.ID < n := by
  simp only [okAt, Bool.and_eq_true, Bool.not_eq_true', ilt_f, ile_f] at h
  exact h.2.1

theorem gone_revoke (n k o : Int) (hk : 1 ≤ k) (ho : o < 0) : ∀ (l pre aw out : List Cap18), validL n pre l = true → (pre.any (byID k) = true → aw.any (byID k) = true) → 
    (l.foldl (fun s x => gStep k o x s) (aw, out)).2 = out ++ specW (fun _ => false) l (fun j => aw.any (byID j) || ieq j k)
  | [], pre, aw, out, _, _ => by simp [specW]
  | x :: l, pre, aw, out, hv, hp => by
    simp only [validL, Bool.and_eq_true] at hv
    obtain ⟨hx, hv⟩ := hv
    have hO : ieq x.Owner o = false := by have := okAt_owner hx; rw [ieq_f]; omega
    have hm : (aw.any (byID x.Parent) || ieq x.Parent k) = aw.any (byID x.Parent) := by
      cases hpk : ieq x.Parent k with
      | false => simp
      | true =>
        have e : x.Parent = k := ieq_iff.1 hpk
        rcases okAt_par hx with h | h
        · rw [ieq_iff] at h; omega
        · rw [e] at h ⊢
          rw [hp h]; rfl
    have hany : ∀ j, (aw ++ [x]).any (byID j) = (aw.any (byID j) || ieq j x.ID) := fun j => by
      simp only [List.any_append, List.any_cons, List.any_nil, Bool.or_false, byID]
      rw [ieq_comm x.ID j]
    simp only [List.foldl_cons, specW]
    rw [hm]
    have e : gStep k o x (aw, out) = (bif aw.any (byID x.Parent) || ieq x.ID k then aw ++ [x] else aw, bif aw.any (byID x.Parent) then out else out ++ [x]) := by
      unfold gStep
      simp only [hO, Bool.or_false]
    rw [e]
    cases hc : aw.any (byID x.Parent) with
    | true =>
      simp only [Bool.true_or, cond_true]
      rw [gone_revoke n k o hk ho l (pre ++ [x]) _ _ hv]
      · congr 1
        apply specW_congr
        intro j
        rw [hany]
        cases aw.any (byID j) <;> cases ieq j x.ID <;> rfl
      · intro h
        rw [hany]
        rw [List.any_append, Bool.or_eq_true] at h
        rcases h with h | h
        · rw [hp h]; rfl
        · simp only [List.any_cons, List.any_nil, Bool.or_false, byID] at h
          rw [ieq_comm] at h
          rw [h]; simp
    | false =>
      simp only [Bool.false_or, cond_false]
      cases hi : ieq x.ID k with
      | true =>
        simp only [cond_true]
        have : x.ID = k := ieq_iff.1 hi
        rw [gone_revoke n k o hk ho l (pre ++ [x]) _ _ hv]
        · simp only [List.append_assoc, List.cons_append, List.nil_append]
          congr 2
          apply specW_congr
          intro j
          rw [hany, this]
          cases aw.any (byID j) <;> cases ieq j k <;> rfl
        · intro _
          rw [hany, this, show ieq k k = true from ieq_iff.2 rfl]; simp
      | false =>
        simp only [cond_false]
        rw [gone_revoke n k o hk ho l (pre ++ [x]) _ _ hv]
        · simp
        · intro h
          rw [List.any_append, Bool.or_eq_true] at h
          rcases h with h | h
          · exact hp h
          · simp only [List.any_cons, List.any_nil, Bool.or_false, byID, hi] at h
            cases h

theorem validL_mem {n : Int} : ∀ (l pre : List Cap18), validL n pre l = true → 0 ≤ lastID pre → ∀ x ∈ l, 1 ≤ x.ID ∧ x.ID < n
  | [], _, _, _, x, hx => by cases hx
  | y :: l, pre, hv, hl, x, hx => by
    simp only [validL, Bool.and_eq_true] at hv
    have h1 := okAt_last hv.1
    have h2 := okAt_next hv.1
    rcases List.mem_cons.1 hx with rfl | hx
    · exact ⟨by omega, h2⟩
    · exact validL_mem l _ hv.2 (by rw [lastID_snoc]; omega) x hx

theorem revoke_ref (fu : Nat) (n : Int) (l : List Cap18) (k : Int) (hf : l.length < fu) (hl : l.length < 1000000000000) : s25 fu n l k = some (revokeS n l k) := by
  unfold s25 revokeS
  rw [valid_ref fu n l hf hl, find_ref fu l k hf (by omega)]
  cases hv : validB n l with
  | false => simp
  | true =>
    simp only [Bool.not_true, cond_false]
    cases h : l.find? (byID k) with
    | none => simp
    | some x =>
      have hx := List.mem_of_find?_eq_some h
      have hxk : byID k x = true := List.find?_some h
      simp only [byID, ieq_iff] at hxk
      have h1 := validL_mem l [] (validB_iff.1 hv).1 (by simp [lastID]) x hx
      simp only [gone_ref fu l k (-1) hf hl]
      rw [gone_revoke n k (-1) (by omega) (by omega) l [] [] [] (validB_iff.1 hv).1 (by simp)]
      simp
theorem leave_ref (fu : Nat) (n : Int) (l : List Cap18) (o : Int) (hf : l.length < fu) (hl : l.length < 1000000000000) : s27 fu n l o = some (leaveS n l o) := by
  unfold s27 leaveS
  rw [valid_ref fu n l hf hl]
  cases hv : validB n l with
  | false => simp
  | true =>
    simp only [Bool.not_true, cond_false]
    cases ho : ieq o 0 with
    | true => simp
    | false =>
      simp only [cond_false, gone_ref fu l (-1) o hf hl]
      rw [gone_leave (-1) o l [] [] fun x hx => by
        have h1 := validL_mem l [] (validB_iff.1 hv).1 (by simp [lastID]) x hx
        rw [ieq_f]; omega]
      simp
end Go.G
