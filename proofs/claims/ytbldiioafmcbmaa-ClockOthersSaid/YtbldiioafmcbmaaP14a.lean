import Derived.Test.YtbldiioafmcbmaaOn14a
import Derived.Test.YtbldiioafmcbmaaGPlain2
set_option linter.unusedVariables false
set_option linter.unusedSimpArgs false
namespace Go.G
set_option maxRecDepth 100000

theorem to14 (fu : Nat) (n : Int) (l : List Alarm14) (hf : l.length < fu) (hl : l.length < 1000000000000) : s11 fu n l = some ((n, (l, ())), ()) := by
  unfold s11
  have := iter_fold (step := t11_0 fu) (fu := fu) l (fun j acc => ((), ((), ((), (dlen l, ((j : Int), (acc, ((n, ((), ())), ((0, ((), ())), ((n, (l, ())), ()))))))))))
    (fun x acc => acc ++ [x]) (fun i acc => acc.length = i) (fun acc => .inl ((), ((), (acc, ((n, ((), ())), ((0, ((), ())), ((n, (l, ())), ()))))))) [] hf rfl
    (fun i x acc hi hI => by
      have h1 := getElem?_lt hi
      simp only [t11_0, dlen_def, dat_nat, hi, ilt_len h1, iadd1 (show i < 9223372036854775807 by omega)]
      rw [dapp_ok (by simp; omega) (by simp; omega)]
      exact ⟨rfl, by simp [hI]⟩)
    (fun acc hI => by simp only [t11_0, dlen_def, ilt_end])
  rw [show ((0 : Nat) : Int) = 0 from rfl] at this
  rw [this, foldl_map_snoc (fun x => x)]
  simp

theorem from14 (fu : Nat) (n : Int) (l : List Alarm14) (hf : l.length < fu) (hl : l.length < 1000000000000) : s14 fu n l = some ((n, (l, ())), ()) := by
  unfold s14
  have := iter_fold (step := t14_0 fu) (fu := fu) l (fun j acc => ((), ((), ((), (dlen l, ((j : Int), (acc, ((n, ((), ())), ((0, ((), ())), ((n, (l, ())), ()))))))))))
    (fun x acc => acc ++ [x]) (fun i acc => acc.length = i) (fun acc => .inl ((), ((), (acc, ((n, ((), ())), ((0, ((), ())), ((n, (l, ())), ()))))))) [] hf rfl
    (fun i x acc hi hI => by
      have h1 := getElem?_lt hi
      simp only [t14_0, dlen_def, dat_nat, hi, ilt_len h1, iadd1 (show i < 9223372036854775807 by omega)]
      rw [dapp_ok (by simp; omega) (by simp; omega)]
      exact ⟨rfl, by simp [hI]⟩)
    (fun acc hI => by simp only [t14_0, dlen_def, ilt_end])
  rw [show ((0 : Nat) : Int) = 0 from rfl] at this
  rw [this, foldl_map_snoc (fun x => x)]
  simp

theorem al_eq (x y : Alarm14) : (ieq x.ID y.ID && ieq x.At y.At) = decide (x = y) := by
  obtain ⟨a, b⟩ := x
  obtain ⟨a', b'⟩ := y
  simp [ieq, Alarm14.mk.injEq, Bool.decide_and]

theorem list_eq_iff_all {α : Type} [DecidableEq α] {l m : List α} (h : l.length = m.length) : (l.zip m).any (fun x => !decide (x.1 = x.2)) = !decide (l = m) := by
  induction l generalizing m with
  | nil => cases m with
    | nil => rfl
    | cons _ _ => simp at h
  | cons a l ih => cases m with
    | nil => simp at h
    | cons b m =>
      simp only [List.zip_cons_cons, List.any_cons, ih (by simpa using h), List.cons.injEq]
      by_cases h1 : a = b <;> by_cases h2 : l = m <;> simp [h1, h2]
theorem zip_get {α : Type} {l m : List α} (i : Nat) (x : α × α) (h : (l.zip m)[i]? = some x) : l[i]? = some x.1 ∧ m[i]? = some x.2 := by
  rw [List.getElem?_zip_eq_some] at h
  exact h

def eqS (n : Int) (l : List Alarm14) (n' : Int) (l' : List Alarm14) : Bool := ieq n n' && decide (l = l')

theorem eqR14 (fu : Nat) (n : Int) (l : List Alarm14) (n' : Int) (m : List Alarm14) (hf : l.length < fu) (hl : l.length < 1000000000000) : s13 fu n l n' m = some (eqS n l n' m, ()) := by
  unfold s13 eqS
  cases hn : ieq n n' with
  | false => rfl
  | true =>
    cases hq : ieq (dlen l) (dlen m) with
    | false =>
      rw [ieq_f, dlen_def, dlen_def] at hq
      have : l ≠ m := by rintro rfl; exact hq rfl
      simp [this]
    | true =>
      rw [ieq_iff, dlen_def, dlen_def] at hq
      have hq : l.length = m.length := by omega
      have hz : (l.zip m).length = l.length := by simp [hq]
      have := iter_any (step := t13_0 fu) (fu := fu) (l.zip m) (fun j => ((), ((), ((j : Int), ((n', (m, ())), ((n, (l, ())), ())))))) (fun x => !decide (x.1 = x.2)) (.inr (.inl (false, ((n', (m, ())), ((n, (l, ())), ()))))) (.inl ((n', (m, ())), ((n, (l, ())), ()))) (by omega)
        (fun i x hi hx => by
          have h1 := getElem?_lt hi
          obtain ⟨k1, k2⟩ := zip_get i x hi
          rw [hz] at h1
          simp only [t13_0, dlen_def, dat_nat, k1, k2, ilt_len h1, iadd1 (show i < 9223372036854775807 by omega)]
          rw [← al_eq] at hx
          cases e1 : ieq x.1.ID x.2.ID <;> cases e2 : ieq x.1.At x.2.At <;> simp_all)
        (fun i x hi hx => by
          have h1 := getElem?_lt hi
          obtain ⟨k1, k2⟩ := zip_get i x hi
          rw [hz] at h1
          simp only [t13_0, dlen_def, dat_nat, k1, k2, ilt_len h1]
          rw [← al_eq] at hx
          cases e1 : ieq x.1.ID x.2.ID <;> cases e2 : ieq x.1.At x.2.At <;> simp_all)
        (by simp only [t13_0, dlen_def, hz, ilt_end])
      rw [show ((0 : Nat) : Int) = 0 from rfl, list_eq_iff_all hq] at this
      simp only [this]
      by_cases h : l = m <;> simp [h]

theorem ints14 (fu : Nat) (l m : List Int) (hf : l.length < fu) (hl : l.length < 1000000000000) : s15 fu l m = some (decide (l = m), ()) := by
  unfold s15
  cases hq : ieq (dlen l) (dlen m) with
  | false =>
    rw [ieq_f, dlen_def, dlen_def] at hq
    have : l ≠ m := by rintro rfl; exact hq rfl
    simp [this]
  | true =>
    rw [ieq_iff, dlen_def, dlen_def] at hq
    have hq : l.length = m.length := by omega
    have hz : (l.zip m).length = l.length := by simp [hq]
    have := iter_any (step := t15_0 fu) (fu := fu) (l.zip m) (fun j => (l, (m, ((j : Int), ())))) (fun x => !decide (x.1 = x.2)) (.inr (.inl (false, ()))) (.inl ()) (by omega)
      (fun i x hi hx => by
        have h1 := getElem?_lt hi
        obtain ⟨k1, k2⟩ := zip_get i x hi
        rw [hz] at h1
        have hx : ieq x.1 x.2 = true := by simpa [ieq] using hx
        simp only [t15_0, dlen_def, dat_nat, k1, k2, ilt_len h1, iadd1 (show i < 9223372036854775807 by omega), hx])
      (fun i x hi hx => by
        have h1 := getElem?_lt hi
        obtain ⟨k1, k2⟩ := zip_get i x hi
        rw [hz] at h1
        have hx : ieq x.1 x.2 = false := by simpa [ieq] using hx
        simp only [t15_0, dlen_def, dat_nat, k1, k2, ilt_len h1, hx])
      (by simp only [t15_0, dlen_def, hz, ilt_end])
    rw [show ((0 : Nat) : Int) = 0 from rfl, list_eq_iff_all hq] at this
    simp only [this]
    by_cases h : l = m <;> simp [h]
end Go.G
