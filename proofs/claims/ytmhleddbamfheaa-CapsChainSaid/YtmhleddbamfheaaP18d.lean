import Derived.Test.YtmhleddbamfheaaP18c
set_option linter.unusedVariables false
set_option linter.unusedSimpArgs false
namespace Go.G
set_option maxRecDepth 100000
abbrev Tb : Type := (Int × (List Cap18) × Unit)
abbrev noT : Tb := (0, ([], ()))
theorem idx_find {α : Type} (l : List α) (q : α → Bool) : (∃ i x, l.findIdx? q = some i ∧ l[i]? = some x ∧ l.find? q = some x ∧ q x = true) ∨ (l.findIdx? q = none ∧ l.find? q = none) := by
  induction l with
  | nil => exact .inr ⟨rfl, rfl⟩
  | cons a l ih =>
    rw [List.findIdx?_cons, List.find?_cons]
    cases h : q a with
    | true => exact .inl ⟨0, a, by simp, by simp, rfl, h⟩
    | false =>
      simp only [Bool.false_eq_true, if_false]
      rcases ih with ⟨i, x, h1, h2, h3, h4⟩ | ⟨h1, h2⟩
      · exact .inl ⟨i + 1, x, by simp [h1], by simpa using h2, h3, h4⟩
      · exact .inr ⟨by simp [h1], h2⟩

def deriveS (n : Int) (l : List Cap18) (k o : Int) : Tb × Int × Int × Unit :=
  bif !validB n l then (noT, (0, (1, ()))) else match l.find? (byID k) with
    | none => (noT, (0, (8, ())))
    | some x => bif ilt o 1 || ile 32 o then (noT, (0, (2, ()))) else bif l.any (isHas o x.Right_Type x.Right_Peer x.Right_Code) then (noT, (0, (9, ())))
      else bif decide (l.length = 400) || decide (n = 1099511627776) then (noT, (0, (6, ()))) else ((n + 1, (l ++ [⟨n, k, o, x.Right_Type, x.Right_Peer, x.Right_Code⟩], ())), (n, (0, ())))

theorem validB_iff {n : Int} {l : List Cap18} : validB n l = true ↔ validL n [] l = true ∧ l.length ≤ 400 ∧ 1 ≤ n ∧ n ≤ 1099511627776 := by
  simp only [validB, Bool.and_eq_true, decide_eq_true_eq, ile_iff]

theorem derive_caps (fu : Nat) (n : Int) (l : List Cap18) (k o : Int) (hf : l.length < fu) (hl : l.length < 1000000000000) : s28 fu n l k o = some (deriveS n l k o) := by
  unfold s28 deriveS
  rw [valid_caps fu n l hf hl, index_caps fu n l k hf (by omega)]
  cases hv : validB n l with
  | false => simp
  | true =>
    obtain ⟨_, v2, v3, v4⟩ := validB_iff.1 hv
    simp only [Bool.not_true, cond_false]
    rcases idx_find l (byID k) with ⟨i, x, h1, h2, h3, h4⟩ | ⟨h1, h2⟩
    · simp only [h1, h3, show ilt (i : Int) 0 = false from ilt_f.2 (by omega), dat_nat, h2, has_caps fu n l _ _ _ _ hf (by omega), dlen_def]
      cases c1 : ilt o 1 <;> simp only [Bool.true_or, Bool.false_or, cond_true, cond_false]
      cases c2 : ile 32 o <;> simp only [cond_true, cond_false]
      cases c3 : l.any (isHas o x.Right_Type x.Right_Peer x.Right_Code) with
      | true => simp
      | false =>
        simp only [cond_false]
        by_cases c4 : l.length = 400
        · simp [ieq, c4]
        · rw [show ieq (l.length : Int) 400 = false from ieq_f.2 (by omega)]
          by_cases c5 : n = 1099511627776
          · simp [ieq, c5]
          · rw [show ieq n 1099511627776 = false from ieq_f.2 c5]
            simp only
            rw [dapp_ok (by simp; omega) (by simp; omega)]
            simp only [List.nil_append, dat_nat, h2]
            rw [dapp_ok (by simp; omega) (by simp; omega), iadd64 (by omega)]
            simp [c4, c5]
    · simp [h1, h2, ilt]

theorem add_ref (fu : Nat) (n : Int) (l : List Cap18) (p o t q c : Int) (hl : l.length < 1000000000000) (hn : -1000000000000000 ≤ n ∧ n ≤ 1000000000000000) : s35 fu n l p o t q c = some ((n + 1, (l ++ [⟨n, p, o, t, q, c⟩], ())), ()) := by
  unfold s35
  rw [dapp_ok (by simp; omega) (by simp; omega)]
  simp only [List.nil_append]
  rw [dapp_ok (by simp; omega) (by simp; omega), iadd64 (by omega)]

theorem derive_ref (fu : Nat) (n : Int) (l : List Cap18) (k o : Int) (hf : l.length < fu) (hl : l.length < 1000000000000) : s29 fu n l k o = some (deriveS n l k o) := by
  unfold s29 deriveS
  rw [valid_ref fu n l hf hl, find_ref fu l k hf (by omega)]
  cases hv : validB n l with
  | false => simp
  | true =>
    obtain ⟨_, v2, v3, v4⟩ := validB_iff.1 hv
    simp only [Bool.not_true, cond_false]
    cases h : l.find? (byID k) with
    | none => simp
    | some x =>
      simp only [capT, has_ref fu n l _ _ _ _ hf (by omega), dlen_def]
      cases c1 : ilt o 1 <;> simp only [Bool.true_or, Bool.false_or, cond_true, cond_false]
      cases c2 : ile 32 o <;> simp only [cond_true, cond_false]
      cases c3 : l.any (isHas o x.Right_Type x.Right_Peer x.Right_Code) with
      | true => simp
      | false =>
        simp only [cond_false]
        by_cases c4 : l.length = 400
        · simp [ile, c4]
        · rw [show ile 400 (l.length : Int) = false from ile_f.2 (by omega)]
          by_cases c5 : n = 1099511627776
          · simp [ile, c5]
          · rw [show ile 1099511627776 n = false from ile_f.2 (by omega)]
            simp only [add_ref fu n l _ _ _ _ _ hl (by omega)]
            simp [c4, c5]

/-! ### What is taken away -/
def specW (g : Cap18 → Bool) : List Cap18 → (Int → Bool) → List Cap18
  | [], _ => []
  | x :: r, m => bif m x.Parent || g x then specW g r (fun k => ieq k x.ID || m k) else x :: specW g r m

def wStep (g : Cap18 → Bool) (x : Cap18) (s : List Cap18 × List (Int × Bool)) : List Cap18 × List (Int × Bool) :=
  bif (mfind keq18_i64 s.2 x.Parent == some true) || g x then (s.1, mset keq18_i64 s.2 x.ID true) else (s.1 ++ [x], s.2)
theorem keq_i64_sub : ∀ a b c, keq18_i64 a b = true → keq18_i64 a c = keq18_i64 b c := by
  intro a b c h
  simp only [keq18_i64, Bool.and_true, ieq_iff] at h ⊢
  rw [h]
theorem keq_i64_comm : ∀ a b, keq18_i64 a b = keq18_i64 b a := by
  intro a b
  simp only [keq18_i64, Bool.and_true]
  exact ieq_comm a b
theorem wStep_fold (g : Cap18 → Bool) : ∀ (l : List Cap18) (acc : List Cap18) (mm : List (Int × Bool)) (m : Int → Bool), (∀ k, (mfind keq18_i64 mm k == some true) = m k) →
    (l.foldl (fun s x => wStep g x s) (acc, mm)).1 = acc ++ specW g l m
  | [], acc, mm, m, _ => by simp [specW]
  | x :: l, acc, mm, m, h => by
    simp only [List.foldl_cons, specW]
    have e : wStep g x (acc, mm) = bif m x.Parent || g x then (acc, mset keq18_i64 mm x.ID true) else (acc ++ [x], mm) := by rw [← h]; rfl
    rw [e]
    cases hc : m x.Parent || g x with
    | true =>
      simp only [cond_true]
      rw [wStep_fold g l acc _ (fun k => ieq k x.ID || m k)]
      intro k
      rw [mfind_mset keq_i64_sub keq_i64_comm]
      simp only [keq18_i64, Bool.and_true]
      cases hk : ieq k x.ID <;> simp [h]
    | false =>
      simp only [cond_false]
      rw [wStep_fold g l _ mm m h]
      simp
theorem wStep_len (g : Cap18 → Bool) (x : Cap18) (s : List Cap18 × List (Int × Bool)) : (wStep g x s).1.length ≤ s.1.length + 1 := by
  unfold wStep
  cases (mfind keq18_i64 s.2 x.Parent == some true) || g x <;> simp

def revokeS (n : Int) (l : List Cap18) (k : Int) : Tb × Int × Unit :=
  bif !validB n l then (noT, (1, ())) else match l.find? (byID k) with
    | none => (noT, (8, ()))
    | some _ => ((n, (specW (fun _ => false) l (fun j => ieq j k), ())), (0, ()))
def leaveS (n : Int) (l : List Cap18) (o : Int) : Tb × Int × Unit :=
  bif !validB n l then (noT, (1, ())) else bif ieq o 0 then (noT, (2, ())) else ((n, (specW (fun x => ieq x.Owner o) l (fun _ => false), ())), (0, ()))

theorem revoke_caps (fu : Nat) (n : Int) (l : List Cap18) (k : Int) (hf : l.length < fu) (hl : l.length < 1000000000000) : s23 fu n l k = some (revokeS n l k) := by
  unfold s23 revokeS
  rw [valid_caps fu n l hf hl, index_caps fu n l k hf (by omega)]
  cases hv : validB n l with
  | false => simp
  | true =>
    simp only [Bool.not_true, cond_false]
    rcases idx_find l (byID k) with ⟨i, x, h1, h2, h3, h4⟩ | ⟨h1, h2⟩
    · simp only [h1, h3, show ilt (i : Int) 0 = false from ilt_f.2 (by omega)]
      have := iter_fold (step := t23_2 fu) (fu := fu) l (fun j (s : List Cap18 × List (Int × Bool)) => ((), ((), ((), ((), (l, ((dlen l), ((j : Int), (s.1, ((n, ((), ())), ((0, ((), ())), (s.2, ()))))))))))))
        (wStep fun _ => false) (fun i s => s.1.length ≤ i) (fun s => .inl ((), ((), (s.1, ((n, ((), ())), ((0, ((), ())), (s.2, ()))))))) ([], mset keq18_i64 [] k true) hf (by simp)
        (fun i x s hi hI => by
          have h1 := getElem?_lt hi
          refine ⟨?_, by have := wStep_len (fun _ => false) x s; omega⟩
          simp only [t23_2, dlen_def, dat_nat, hi, ilt_len h1, iadd1 (show i < 9223372036854775807 by omega), s44, wStep]
          rw [dapp_ok (by simp; omega) (by simp; omega)]
          cases hm : mfind keq18_i64 s.2 x.Parent with
          | none => simp
          | some b => cases b <;> simp)
        (fun s hI => by simp only [t23_2, dlen_def, ilt_end])
      simp only [Int.natCast_zero] at this
      rw [this]
      simp only
      rw [wStep_fold (fun _ => false) l [] _ (fun j => ieq j k)]
      · simp
      · intro j
        rw [mfind_mset keq_i64_sub keq_i64_comm]
        simp only [keq18_i64, Bool.and_true, mfind, List.find?_nil, Option.map_none]
        cases ieq j k <;> rfl
    · simp [h1, h2, ilt]

theorem leave_caps (fu : Nat) (n : Int) (l : List Cap18) (o : Int) (hf : l.length < fu) (hl : l.length < 1000000000000) : s21 fu n l o = some (leaveS n l o) := by
  unfold s21 leaveS
  rw [valid_caps fu n l hf hl]
  cases hv : validB n l with
  | false => simp
  | true =>
    simp only [Bool.not_true, cond_false]
    cases ho : ieq o 0 with
    | true => simp
    | false =>
      simp only [cond_false]
      have := iter_fold (step := t21_1 fu) (fu := fu) l (fun j (s : List Cap18 × List (Int × Bool)) => ((), ((), ((), ((), (l, ((dlen l), ((j : Int), (s.1, ((n, ((), ())), ((0, ((), ())), ((o, ()), (s.2, ())))))))))))))
        (wStep fun x => ieq x.Owner o) (fun i s => s.1.length ≤ i) (fun s => .inl ((), ((), (s.1, ((n, ((), ())), ((0, ((), ())), ((o, ()), (s.2, ())))))))) ([], []) hf (by simp)
        (fun i x s hi hI => by
          have h1 := getElem?_lt hi
          refine ⟨?_, by have := wStep_len (fun x => ieq x.Owner o) x s; omega⟩
          simp only [t21_1, dlen_def, dat_nat, hi, ilt_len h1, iadd1 (show i < 9223372036854775807 by omega), wStep]
          rw [dapp_ok (by simp; omega) (by simp; omega)]
          cases hm : mfind keq18_i64 s.2 x.Parent with
          | none => cases hq : ieq x.Owner o <;> simp
          | some b => cases b <;> cases hq : ieq x.Owner o <;> simp)
        (fun s hI => by simp only [t21_1, dlen_def, ilt_end])
      simp only [Int.natCast_zero] at this
      rw [this]
      simp only
      rw [wStep_fold (fun x => ieq x.Owner o) l [] _ (fun _ => false)]
      · simp
      · intro j
        simp [mfind]
end Go.G
