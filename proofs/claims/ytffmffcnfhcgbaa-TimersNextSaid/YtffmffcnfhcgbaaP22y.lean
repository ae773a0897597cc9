import Derived.Test.YtffmffcnfhcgbaaP22x
set_option linter.unusedVariables false
set_option linter.unusedSimpArgs false
namespace Go.G
set_option maxRecDepth 100000
theorem t48_same : t48_22 = t48_0 := rfl
section
variable {fu : Nat} (hfu : 200000 < fu)
include hfu
theorem w_ok {rec : List Timer22 → Int → Int → Int → Option (List Timer22)} {N : Nat} (hrec : MergeOK rec N) : MergeOK (w48 fu rec) (N + 1) := by
  intro A L R B hL hR hN aL aR hl0
  have pL := List.length_pos_iff.2 hL
  have pR := List.length_pos_iff.2 hR
  have hl := hl0
  simp only [List.length_append] at hl
  have e1 : isub .i64 ((A.length + L.length : Nat) : Int) (A.length : Int) = (L.length : Int) := by rw [isub64 (by omega)]; omega
  have e2 : isub .i64 ((A.length + L.length + R.length : Nat) : Int) ((A.length + L.length : Nat) : Int) = (R.length : Int) := by rw [isub64 (by omega)]; omega
  simp only [w48_eq, e1, e2]
  by_cases h1 : L.length = 1
  · obtain ⟨x, rfl⟩ := List.length_eq_one_iff.1 h1
    obtain ⟨X, x1, x2, x3⟩ := one_left hfu (A := A) (x := x) (R := R) (B := B) aR hl0
    refine ⟨X, x1, x2, ?_⟩
    simp only [show ieq (([x] : List Timer22).length : Int) 1 = true from rfl]
    exact x3
  · have n1 : ieq (L.length : Int) 1 = false := ieq_f.2 (by omega)
    simp only [n1]
    by_cases h2 : R.length = 1
    · obtain ⟨x, rfl⟩ := List.length_eq_one_iff.1 h2
      obtain ⟨X, x1, x2, x3⟩ := one_right hfu (A := A) (x := x) (L := L) (B := B) aL hl0
      refine ⟨X, x1, x2, ?_⟩
      simp only [show ieq (([x] : List Timer22).length : Int) 1 = true from rfl]
      exact x3
    · have n2 : ieq (R.length : Int) 1 = false := ieq_f.2 (by omega)
      simp only [n2]
      have em : mid48 (A.length : Int) ((A.length + L.length + R.length : Nat) : Int) = (((A.length + (A.length + L.length + R.length)) / 2 : Nat) : Int) := mid22 (by omega) (by omega)
      rw [em]
      obtain ⟨M, hM⟩ : ∃ M, M = (A.length + (A.length + L.length + R.length)) / 2 := ⟨_, rfl⟩
      rw [← hM]
      have e3 : iadd .i64 (M : Int) ((A.length + L.length : Nat) : Int) = ((M + (A.length + L.length) : Nat) : Int) := by rw [iadd64 (by omega)]; omega
      have e4 : isub .i64 ((M + (A.length + L.length) : Nat) : Int) 1 = ((M + (A.length + L.length) - 1 : Nat) : Int) := by rw [isub64 (by omega)]; omega
      simp only [e3, e4, t48_same]
      have fin : ∀ L1 L2 R1 R2 : List Timer22, L = L1 ++ L2 → R = R1 ++ R2 → A.length + L1.length + R1.length = M → (∀ a ∈ L1, ∀ b ∈ R2, ltD b a = false) → (∀ a ∈ R1, ∀ b ∈ L2, ltD b a = false) →
          ∃ X, Asc ltD X ∧ X.Perm (L ++ R) ∧ tl1 rec fu (A.length : Int) ((A.length + L.length : Nat) : Int) ((A.length + L.length + R.length : Nat) : Int) (M : Int) ((A.length + L1.length : Nat) : Int) (isub .i64 ((M + (A.length + L.length) : Nat) : Int) ((A.length + L1.length : Nat) : Int)) (A ++ L ++ R ++ B) = some (A ++ X ++ B) := by
        clear e1 e2 em e3 e4 n1 n2
        rintro L1 L2 R1 R2 rfl rfl k1 k2 k3
        simp only [List.length_append] at *
        have q1 : L1.length + R1.length < N := by omega
        have q2 : L2.length + R2.length < N := by omega
        have e6 : isub .i64 ((M + (A.length + (L1.length + L2.length)) : Nat) : Int) ((A.length + L1.length : Nat) : Int) = ((A.length + L1.length + L2.length + R1.length : Nat) : Int) := by rw [isub64 (by omega)]; omega
        obtain ⟨X, x1, x2, x3⟩ := tl1_ok hrec hfu (A := A) (L1 := L1) (L2 := L2) (R1 := R1) (R2 := R2) (B := B) (m := ((A.length + (L1.length + L2.length) : Nat) : Int)) (mid := (M : Int)) (b := ((A.length + (L1.length + L2.length) + (R1.length + R2.length) : Nat) : Int)) (start := ((A.length + L1.length : Nat) : Int)) (en := ((A.length + L1.length + L2.length + R1.length : Nat) : Int))
          (by simp only [List.length_append]; omega) aL aR q1 q2 k2 k3 rfl (by omega) (by omega) rfl (by omega)
        refine ⟨X, x1, x2, ?_⟩
        have er : A ++ (L1 ++ L2) ++ (R1 ++ R2) ++ B = A ++ L1 ++ L2 ++ R1 ++ R2 ++ B := by simp only [List.append_assoc]
        rw [e6, er, x3]
      by_cases h3 : M < A.length + L.length
      · have e5 : isub .i64 ((M + (A.length + L.length) : Nat) : Int) ((A.length + L.length + R.length : Nat) : Int) = ((M + (A.length + L.length) - (A.length + L.length + R.length) : Nat) : Int) := by rw [isub64 (by omega)]; omega
        simp only [ilt_iff.2 (show (M : Int) < ((A.length + L.length : Nat) : Int) by omega), e5]
        obtain ⟨L1, L2, R1, R2, k1, k2, k3, k4, k5, k6⟩ := cut_point hfu (A := A) (L := L) (R := R) (B := B) (lo := M + (A.length + L.length) - (A.length + L.length + R.length)) (up := M) (M := M) (t48_0 fu) rfl aL aR hl0 hM (by omega) (by omega) (by omega) (by omega) (by omega) (.inr (by omega)) (.inr rfl)
          (A.length : Int) ((A.length + L.length : Nat) : Int) ((A.length + L.length + R.length : Nat) : Int)
        obtain ⟨X, x1, x2, x3⟩ := fin L1 L2 R1 R2 k1 k2 k3 k4 k5
        refine ⟨X, x1, x2, ?_⟩
        simp only [k6]
        exact x3
      · simp only [ilt_f.2 (show ((A.length + L.length : Nat) : Int) ≤ (M : Int) by omega)]
        obtain ⟨L1, L2, R1, R2, k1, k2, k3, k4, k5, k6⟩ := cut_point hfu (A := A) (L := L) (R := R) (B := B) (lo := A.length) (up := A.length + L.length) (M := M) (t48_0 fu) rfl aL aR hl0 hM (by omega) (by omega) (by omega) (by omega) (by omega) (.inl rfl) (.inl rfl)
          (A.length : Int) ((A.length + L.length : Nat) : Int) ((A.length + L.length + R.length : Nat) : Int)
        obtain ⟨X, x1, x2, x3⟩ := fin L1 L2 R1 R2 k1 k2 k3 k4 k5
        refine ⟨X, x1, x2, ?_⟩
        simp only [k6]
        exact x3
theorem r_ok : ∀ d, MergeOK (fun l a m b => r48 fu d l (a, (m, (b, ())))) d
  | 0 => fun _ _ _ _ _ _ h => by omega
  | d + 1 => w_ok hfu (r_ok d)
theorem s48_ok : MergeOK (s48 fu) 400 := r_ok hfu 400
end
end Go.G
