import Derived.Test.YtbldiioafmcbmaaP14a
set_option linter.unusedVariables false
set_option linter.unusedSimpArgs false
namespace Go.G
set_option maxRecDepth 100000
theorem eq14 (fu : Nat) (n : Int) (l : List Alarm14) (n' : Int) (m : List Alarm14) (hf : l.length < fu) (hl : l.length < 1000000000000) : s22 fu n l n' m = some (eqS n l n' m, ()) := by
  unfold s22 eqS s34
  cases hn : ieq n n' with
  | false => rfl
  | true =>
    cases hq : ieq (dlen l) (dlen m) with
    | false =>
      rw [ieq_f, dlen_def, dlen_def] at hq
      have : l ≠ m := by rintro rfl; exact hq rfl
      simp [this]
    | true =>
      rw [ieq_iff, dlen_def, dlen_def] at hq
      have hq : l.length = m.length := by omega
      have hz : (l.zip m).length = l.length := by simp [hq]
      have := iter_any (step := t34_0 fu) (fu := fu) (l.zip m) (fun j => (l, (m, (dlen l, ((j : Int), ()))))) (fun x => !decide (x.1 = x.2)) (.inr (.inl (false, ()))) (.inl ()) (by omega)
        (fun i x hi hx => by
          have h1 := getElem?_lt hi
          obtain ⟨k1, k2⟩ := zip_get i x hi
          rw [hz] at h1
          simp only [t34_0, dlen_def, dat_nat, k1, k2, ilt_len h1, iadd1 (show i < 9223372036854775807 by omega)]
          rw [← al_eq] at hx
          cases e1 : ieq x.1.ID x.2.ID <;> cases e2 : ieq x.1.At x.2.At <;> simp_all)
        (fun i x hi hx => by
          have h1 := getElem?_lt hi
          obtain ⟨k1, k2⟩ := zip_get i x hi
          rw [hz] at h1
          simp only [t34_0, dlen_def, dat_nat, k1, k2, ilt_len h1]
          rw [← al_eq] at hx
          cases e1 : ieq x.1.ID x.2.ID <;> cases e2 : ieq x.1.At x.2.At <;> simp_all)
        (by simp only [t34_0, dlen_def, hz, ilt_end])
      rw [show ((0 : Nat) : Int) = 0 from rfl, list_eq_iff_all hq] at this
      simp only [this]
      by_cases h : l = m <;> simp [h]

def okLast (pre : List Alarm14) (x : Alarm14) : Bool := match pre.getLast? with
  | some p => !ile x.ID p.ID
  | none => true
def okAt (n : Int) (pre : List Alarm14) (x : Alarm14) : Bool := !ilt x.ID 0 && (okLast pre x && (!ile x.At n && !ilt 1099511627776 x.At))
def okL (n : Int) (l : List Alarm14) : Bool := allI (fun i x => okAt n (l.take i) x) l 0
def validB (n : Int) (l : List Alarm14) : Bool := okL n l && (ile 0 n && (ile n 1099511627776 && ile (dlen l) 32))

theorem take_last {l : List Alarm14} {i : Nat} {x : Alarm14} (h : l[i]? = some x) : (l.take (i + 1)).getLast? = some x := by
  rw [List.take_add_one, h]; simp
theorem getD_idx {l : List Alarm14} {i : Nat} (h : 0 < i) (hi : i ≤ l.length) : ∃ p, l[i - 1]? = some p ∧ (l.take i).getLast? = some p := by
  have h2 : i - 1 < l.length := by omega
  refine ⟨l[i - 1], List.getElem?_eq_getElem h2, ?_⟩
  have := take_last (List.getElem?_eq_getElem h2)
  rwa [show i - 1 + 1 = i by omega] at this

theorem valid14 (fu : Nat) (n : Int) (l : List Alarm14) (hf : l.length < fu) (hl : l.length < 1000000000000) : s16 fu n l = some (validB n l, ()) := by
  unfold s16
  have := iter_walk (step := t16_0 fu) (fu := fu) (ε := (Unit × ((Int × ((List Alarm14) × Unit)) × Unit)) ⊕ ((Bool × ((Int × ((List Alarm14) × Unit)) × Unit)) ⊕ Empty)) l (fun j (_ : Unit) => ((), (l, (dlen l, ((j : Int), ((n, (l, ())), ()))))))
    (fun i x _ => if okAt n (l.take i) x then .inl () else .inr (.inr (.inl (false, ((n, (l, ())), ()))))) (fun _ _ => True) (fun _ => .inl ((), ((n, (l, ())), ()))) () hf trivial
    (fun i x _ hi _ => by
      have h1 := getElem?_lt hi
      have hid := iadd1 (show i < 9223372036854775807 by omega)
      simp only [t16_0, dlen_def l, dat_nat, hi, ilt_len h1]
      cases i with
      | zero =>
        have hz : ilt 0 ((0 : Nat) : Int) = false := rfl
        have hok : okAt n (l.take 0) x = (!ilt x.ID 0 && (!ile x.At n && !ilt 1099511627776 x.At)) := by simp [okAt, okLast]
        rw [hok]
        simp only [hz, hid]
        cases ilt x.ID 0 <;> cases ile x.At n <;> cases ilt 1099511627776 x.At <;> first | rfl | exact ⟨rfl, trivial⟩
      | succ i =>
        have hz : ilt 0 ((i + 1 : Nat) : Int) = true := ilt_iff.2 (by omega)
        obtain ⟨p, p1, p2⟩ := getD_idx (l := l) (i := i + 1) (by omega) (by omega)
        have hs : isub .i64 ((i + 1 : Nat) : Int) 1 = ((i : Nat) : Int) := by rw [isub64 (by omega)]; omega
        simp only [Nat.add_sub_cancel] at p1
        have hok : okAt n (l.take (i + 1)) x = (!ilt x.ID 0 && (!ile x.ID p.ID && (!ile x.At n && !ilt 1099511627776 x.At))) := by simp [okAt, okLast, p2]
        rw [hok]
        simp only [hz, hs, dat_nat, p1, hid]
        cases ilt x.ID 0 <;> cases ile x.ID p.ID <;> cases ile x.At n <;> cases ilt 1099511627776 x.At <;> first | rfl | exact ⟨rfl, trivial⟩)
    (fun _ _ => by simp only [t16_0, dlen_def, ilt_end])
  rw [show ((0 : Nat) : Int) = 0 from rfl] at this
  rw [this]
  rcases walk_check (ε := (Unit × ((Int × ((List Alarm14) × Unit)) × Unit)) ⊕ ((Bool × ((Int × ((List Alarm14) × Unit)) × Unit)) ⊕ Empty)) (fun i x => okAt n (l.take i) x) (fun _ _ => .inr (.inl (false, ((n, (l, ())), ())))) l 0 with ⟨h1, h2⟩ | ⟨h1, i, x, h2⟩
  · rw [h2]
    have : okL n l = true := h1
    simp only [validB, this, Bool.true_and]
    cases ile 0 n <;> cases ile n 1099511627776 <;> rfl
  · rw [h2]
    have : okL n l = false := h1
    simp only [validB, this, Bool.false_and]

theorem validR (fu : Nat) (n : Int) (l : List Alarm14) (hf : l.length < fu) (hl : l.length < 1000000000000) : s21 fu n l = some (validB n l, ()) := by
  unfold s21
  have := iter_walk (step := t21_0 fu) (fu := fu) (ε := (Unit × ((Int × ((List Alarm14) × Unit)) × Unit)) ⊕ ((Bool × ((Int × ((List Alarm14) × Unit)) × Unit)) ⊕ Empty)) l (fun j (_ : Unit) => ((), ((j : Int), ((n, (l, ())), ()))))
    (fun i x _ => if okAt n (l.take i) x then .inl () else .inr (.inr (.inl (false, ((n, (l, ())), ()))))) (fun _ _ => True) (fun _ => .inl ((), ((n, (l, ())), ()))) () hf trivial
    (fun i x _ hi _ => by
      have h1 := getElem?_lt hi
      have hid := iadd1 (show i < 9223372036854775807 by omega)
      simp only [t21_0, dlen_def l, dat_nat, hi, ilt_len h1]
      cases i with
      | zero =>
        have hz : ilt 0 ((0 : Nat) : Int) = false := rfl
        have hok : okAt n (l.take 0) x = (!ilt x.ID 0 && (!ile x.At n && !ilt 1099511627776 x.At)) := by simp [okAt, okLast]
        rw [hok]
        simp only [hz, hid]
        cases ilt x.ID 0 <;> cases ile x.At n <;> cases ilt 1099511627776 x.At <;> first | rfl | exact ⟨rfl, trivial⟩
      | succ i =>
        have hz : ilt 0 ((i + 1 : Nat) : Int) = true := ilt_iff.2 (by omega)
        obtain ⟨p, p1, p2⟩ := getD_idx (l := l) (i := i + 1) (by omega) (by omega)
        have hs : isub .i64 ((i + 1 : Nat) : Int) 1 = ((i : Nat) : Int) := by rw [isub64 (by omega)]; omega
        simp only [Nat.add_sub_cancel] at p1
        have hok : okAt n (l.take (i + 1)) x = (!ilt x.ID 0 && (!ile x.ID p.ID && (!ile x.At n && !ilt 1099511627776 x.At))) := by simp [okAt, okLast, p2]
        rw [hok]
        simp only [hz, hs, dat_nat, p1, hid]
        cases ilt x.ID 0 <;> cases ile x.ID p.ID <;> cases ile x.At n <;> cases ilt 1099511627776 x.At <;> first | rfl | exact ⟨rfl, trivial⟩)
    (fun _ _ => by simp only [t21_0, dlen_def, ilt_end])
  rw [show ((0 : Nat) : Int) = 0 from rfl] at this
  rw [this]
  rcases walk_check (ε := (Unit × ((Int × ((List Alarm14) × Unit)) × Unit)) ⊕ ((Bool × ((Int × ((List Alarm14) × Unit)) × Unit)) ⊕ Empty)) (fun i x => okAt n (l.take i) x) (fun _ _ => .inr (.inl (false, ((n, (l, ())), ())))) l 0 with ⟨h1, h2⟩ | ⟨h1, i, x, h2⟩
  · rw [h2]
    have : okL n l = true := h1
    simp only [validB, this, Bool.true_and]
    cases ile 0 n <;> cases ile n 1099511627776 <;> rfl
  · rw [h2]
    have : okL n l = false := h1
    simp only [validB, this, Bool.false_and]
end Go.G
