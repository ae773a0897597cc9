import Derived.Test.YtmhleddbamfheaaOn18
import Derived.Test.YtmhleddbamfheaaGPlain2
set_option linter.unusedVariables false
set_option linter.unusedSimpArgs false
namespace Go.G
set_option maxRecDepth 100000
def isHas (a t p c : Int) (x : Cap18) : Bool := ieq x.Owner a && (ieq x.Right_Type t && (ieq x.Right_Peer p && ieq x.Right_Code c))

theorem has_caps (fu : Nat) (n : Int) (l : List Cap18) (a t p c : Int) (hf : l.length < fu) (hl : l.length < 9223372036854775807) : s16 fu n l a t p c = some (l.any (isHas a t p c), ()) := by
  unfold s16
  rcases iter_first (step := t16_0 fu) l (fun j => (l, ((), (dlen l, ((j : Int), ((t, (p, (c, ()))), ((a, ()), ()))))))) (isHas a t p c) (fun j _ => .inr (.inl ((j : Int), ((t, (p, (c, ()))), ((a, ()), ()))))) (.inl ((t, (p, (c, ()))), ((a, ()), ()))) hf
      (fun i x hi hq => by
        have h1 := getElem?_lt hi
        simp only [t16_0, dlen_def, dat_nat, hi, ilt_len h1, iadd1 (show i < 9223372036854775807 by omega)]
        simp only [isHas] at hq
        cases h1 : ieq x.Owner a <;> cases h2 : ieq x.Right_Type t <;> cases h3 : ieq x.Right_Peer p <;> cases h4 : ieq x.Right_Code c <;> simp_all)
      (fun i x hi hq => by
        have h1 := getElem?_lt hi
        simp only [t16_0, dlen_def, dat_nat, hi, ilt_len h1]
        simp only [isHas, Bool.and_eq_true] at hq
        simp only [hq])
      (by simp only [t16_0, dlen_def, ilt_end]) with ⟨i, x, h1, h2, _, h4⟩ | ⟨h1, h2⟩
  · simp only [Int.natCast_zero] at h4
    rw [h4, List.any_eq_true.2 ⟨x, List.mem_of_getElem? h1, h2⟩]
    simp [ile]
  · rw [show ((0 : Nat) : Int) = 0 from rfl] at h2
    rw [h2, List.any_eq_false.2 (by simpa using h1)]
    simp [ile]

theorem has_ref (fu : Nat) (n : Int) (l : List Cap18) (a t p c : Int) (hf : l.length < fu) (hl : l.length < 9223372036854775807) : s17 fu n l a t p c = some (l.any (isHas a t p c), ()) := by
  unfold s17
  have := iter_any (step := t17_0 fu) l (fun j => (a, ((), ((), ((j : Int), ((t, (p, (c, ()))), ((n, (l, ())), ()))))))) (isHas a t p c) (.inr (.inl (true, ((t, (p, (c, ()))), ((n, (l, ())), ()))))) (.inl ((t, (p, (c, ()))), ((n, (l, ())), ()))) hf
      (fun i x hi hq => by
        have h1 := getElem?_lt hi
        simp only [t17_0, dlen_def, dat_nat, hi, ilt_len h1, iadd1 (show i < 9223372036854775807 by omega)]
        simp only [isHas] at hq
        cases h1 : ieq x.Owner a <;> cases h2 : ieq x.Right_Type t <;> cases h3 : ieq x.Right_Peer p <;> cases h4 : ieq x.Right_Code c <;> simp_all)
      (fun i x hi hq => by
        have h1 := getElem?_lt hi
        simp only [t17_0, dlen_def, dat_nat, hi, ilt_len h1]
        simp only [isHas, Bool.and_eq_true] at hq
        simp only [hq])
      (by simp only [t17_0, dlen_def, ilt_end])
  rw [show ((0 : Nat) : Int) = 0 from rfl] at this
  rw [this]
  cases l.any (isHas a t p c) <;> rfl

theorem cap_eq (x y : Cap18) : (ieq x.ID y.ID && (ieq x.Parent y.Parent && (ieq x.Owner y.Owner && (ieq x.Right_Type y.Right_Type && (ieq x.Right_Peer y.Right_Peer && ieq x.Right_Code y.Right_Code))))) = decide (x = y) := by
  obtain ⟨a, b, c, d, e, f⟩ := x
  obtain ⟨a', b', c', d', e', f'⟩ := y
  simp [ieq, Cap18.mk.injEq, Bool.decide_and]

/-- Two lists of equal length, compared place by place. -/
theorem list_eq_iff_all {α : Type} [DecidableEq α] {l m : List α} (h : l.length = m.length) : (l.zip m).any (fun x => !decide (x.1 = x.2)) = !decide (l = m) := by
  induction l generalizing m with
  | nil => cases m with
    | nil => rfl
    | cons _ _ => simp at h
  | cons a l ih => cases m with
    | nil => simp at h
    | cons b m =>
      simp only [List.zip_cons_cons, List.any_cons, ih (by simpa using h), List.cons.injEq]
      by_cases h1 : a = b <;> by_cases h2 : l = m <;> simp [h1, h2]

theorem zip_get {α β : Type} {l : List α} {m : List β} {i : Nat} {x : α × β} (h : (l.zip m)[i]? = some x) : l[i]? = some x.1 ∧ m[i]? = some x.2 := by
  rw [List.getElem?_zip_eq_some] at h
  exact h

theorem same_ref (fu : Nat) (l m : List Cap18) (hf : l.length < fu) (hl : l.length < 9223372036854775807) : s22 fu l m = some (decide (l = m), ()) := by
  unfold s22
  simp only [dlen_def]
  by_cases h : l.length = m.length
  · rw [show ieq (l.length : Int) (m.length : Int) = true from ieq_iff.2 (by omega)]
    have hz : (l.zip m).length = l.length := by simp [h]
    have := iter_any (step := t22_0 fu) (fu := fu) (l.zip m) (fun j => (l, (m, ((j : Int), ())))) (fun x => !decide (x.1 = x.2)) (.inr (.inl (false, ()))) (.inl ()) (by omega)
      (fun i x hi hq => by
        have h1 := getElem?_lt hi
        obtain ⟨g1, g2⟩ := zip_get hi
        simp only [t22_0, dlen_def, dat_nat, g1, g2, ilt_len (show i < l.length by omega), iadd1 (show i < 9223372036854775807 by omega)]
        rw [← cap_eq] at hq
        cases h1 : ieq x.1.ID x.2.ID <;> cases h2 : ieq x.1.Parent x.2.Parent <;> cases h3 : ieq x.1.Owner x.2.Owner <;> cases h4 : ieq x.1.Right_Type x.2.Right_Type <;> cases h5 : ieq x.1.Right_Peer x.2.Right_Peer <;> cases h6 : ieq x.1.Right_Code x.2.Right_Code <;> simp_all)
      (fun i x hi hq => by
        have h1 := getElem?_lt hi
        obtain ⟨g1, g2⟩ := zip_get hi
        simp only [t22_0, dlen_def, dat_nat, g1, g2, ilt_len (show i < l.length by omega)]
        rw [← cap_eq] at hq
        cases h1 : ieq x.1.ID x.2.ID <;> cases h2 : ieq x.1.Parent x.2.Parent <;> cases h3 : ieq x.1.Owner x.2.Owner <;> cases h4 : ieq x.1.Right_Type x.2.Right_Type <;> cases h5 : ieq x.1.Right_Peer x.2.Right_Peer <;> cases h6 : ieq x.1.Right_Code x.2.Right_Code <;> simp_all)
      (by simp only [t22_0, dlen_def, hz, ilt_end])
    rw [show ((0 : Nat) : Int) = 0 from rfl] at this
    simp only
    rw [this, list_eq_iff_all h]
    cases decide (l = m) <;> rfl
  · rw [show ieq (l.length : Int) (m.length : Int) = false from ieq_f.2 (by omega)]
    have : l ≠ m := fun e => h (by rw [e])
    simp [this]
theorem same_caps (fu : Nat) (l m : List Cap18) (hf : l.length < fu) (hl : l.length < 9223372036854775807) : s48 fu l m = some (decide (l = m), ()) := by
  unfold s48
  simp only [dlen_def]
  by_cases h : l.length = m.length
  · rw [show ieq (l.length : Int) (m.length : Int) = true from ieq_iff.2 (by omega)]
    have hz : (l.zip m).length = l.length := by simp [h]
    have := iter_any (step := t48_0 fu) (fu := fu) (l.zip m) (fun j => (l, (m, ((l.length : Int), ((j : Int), ()))))) (fun x => !decide (x.1 = x.2)) (.inr (.inl (false, ()))) (.inl ()) (by omega)
      (fun i x hi hq => by
        have h1 := getElem?_lt hi
        obtain ⟨g1, g2⟩ := zip_get hi
        simp only [t48_0, dlen_def, dat_nat, g1, g2, ilt_len (show i < l.length by omega), iadd1 (show i < 9223372036854775807 by omega)]
        rw [← cap_eq] at hq
        cases h1 : ieq x.1.ID x.2.ID <;> cases h2 : ieq x.1.Parent x.2.Parent <;> cases h3 : ieq x.1.Owner x.2.Owner <;> cases h4 : ieq x.1.Right_Type x.2.Right_Type <;> cases h5 : ieq x.1.Right_Peer x.2.Right_Peer <;> cases h6 : ieq x.1.Right_Code x.2.Right_Code <;> simp_all)
      (fun i x hi hq => by
        have h1 := getElem?_lt hi
        obtain ⟨g1, g2⟩ := zip_get hi
        simp only [t48_0, dlen_def, dat_nat, g1, g2, ilt_len (show i < l.length by omega)]
        rw [← cap_eq] at hq
        cases h1 : ieq x.1.ID x.2.ID <;> cases h2 : ieq x.1.Parent x.2.Parent <;> cases h3 : ieq x.1.Owner x.2.Owner <;> cases h4 : ieq x.1.Right_Type x.2.Right_Type <;> cases h5 : ieq x.1.Right_Peer x.2.Right_Peer <;> cases h6 : ieq x.1.Right_Code x.2.Right_Code <;> simp_all)
      (by simp only [t48_0, dlen_def, hz, ilt_end])
    rw [show ((0 : Nat) : Int) = 0 from rfl] at this
    simp only
    rw [this, list_eq_iff_all h]
    cases decide (l = m) <;> rfl
  · rw [show ieq (l.length : Int) (m.length : Int) = false from ieq_f.2 (by omega)]
    have : l ≠ m := fun e => h (by rw [e])
    simp [this]

theorem equal_ref (fu : Nat) (n : Int) (l : List Cap18) (n' : Int) (m : List Cap18) (hf : l.length < fu) (hl : l.length < 9223372036854775807) : s13 fu n l n' m = some (decide (n = n') && decide (l = m), ()) := by
  unfold s13
  rw [same_ref fu l m hf hl]
  cases h : ieq n n' <;> simp_all [ieq]
theorem equal_caps (fu : Nat) (n : Int) (l : List Cap18) (n' : Int) (m : List Cap18) (hf : l.length < fu) (hl : l.length < 9223372036854775807) : s31 fu n l n' m = some (decide (n = n') && decide (l = m), ()) := by
  unfold s31
  rw [same_caps fu l m hf hl]
  cases h : ieq n n' <;> simp_all [ieq]

theorem to_caps (fu : Nat) (n : Int) (l : List Cap18) (hf : l.length < fu) (hl : l.length < 1000000000000) : s20 fu n l = some ((n, (l, ())), ()) := by
  unfold s20
  have := iter_fold (step := t20_0 fu) (fu := fu) l (fun j acc => ((), ((), ((), ((dlen l), ((j : Int), (acc, ((n, ((), ())), ((0, ((), ())), ((n, (l, ())), ()))))))))))
    (fun x acc => acc ++ [x]) (fun i acc => acc.length = i) (fun acc => .inl ((), ((), (acc, ((n, ((), ())), ((0, ((), ())), ((n, (l, ())), ()))))))) [] hf rfl
    (fun i x acc hi hI => by
      have h1 := getElem?_lt hi
      simp only [t20_0, dlen_def, dat_nat, hi, ilt_len h1, iadd1 (show i < 9223372036854775807 by omega)]
      rw [dapp_ok (by simp; omega) (by simp; omega)]
      exact ⟨rfl, by simp [hI]⟩)
    (fun acc hI => by simp only [t20_0, dlen_def, ilt_end])
  rw [show ((0 : Nat) : Int) = 0 from rfl] at this
  rw [this, foldl_map_snoc (fun x => x)]
  simp
theorem from_caps (fu : Nat) (n : Int) (l : List Cap18) (hf : l.length < fu) (hl : l.length < 1000000000000) : s14 fu n l = some ((n, (l, ())), ()) := by
  unfold s14
  have := iter_fold (step := t14_0 fu) (fu := fu) l (fun j acc => ((), ((), ((), ((dlen l), ((j : Int), (acc, ((n, ((), ())), ((0, ((), ())), ((n, (l, ())), ()))))))))))
    (fun x acc => acc ++ [x]) (fun i acc => acc.length = i) (fun acc => .inl ((), ((), (acc, ((n, ((), ())), ((0, ((), ())), ((n, (l, ())), ()))))))) [] hf rfl
    (fun i x acc hi hI => by
      have h1 := getElem?_lt hi
      simp only [t14_0, dlen_def, dat_nat, hi, ilt_len h1, iadd1 (show i < 9223372036854775807 by omega)]
      rw [dapp_ok (by simp; omega) (by simp; omega)]
      exact ⟨rfl, by simp [hI]⟩)
    (fun acc hI => by simp only [t14_0, dlen_def, ilt_end])
  rw [show ((0 : Nat) : Int) = 0 from rfl] at this
  rw [this, foldl_map_snoc (fun x => x)]
  simp
end Go.G
