import Derived.Test.YtjmhaeegcaapeaaP12g
set_option linter.unusedVariables false
set_option linter.unusedSimpArgs false
namespace Go.G
set_option maxRecDepth 100000
set_option maxHeartbeats 4000000
theorem ieq_refl (a : Int) : ieq a a = true := ieq_iff.2 rfl
theorem first_bad {fr : List (List Int)} (h : ¬ ∀ b ∈ fr, Fr b) : ∃ (q : Nat) (b : List Int), fr[q]? = some b ∧ ¬ Fr b ∧ ∀ x ∈ fr.take q, Fr x := by
  induction fr with
  | nil => exact absurd (by simp) h
  | cons c r ih =>
    by_cases hc : Fr c
    · obtain ⟨q, b, h1, h2, h3⟩ := ih (fun hr => h fun b hb => by rcases List.mem_cons.1 hb with rfl | hb; exact hc; exact hr b hb)
      exact ⟨q + 1, b, by simpa using h1, h2, fun x hx => by
        rw [List.take_succ_cons] at hx
        rcases List.mem_cons.1 hx with rfl | hx
        · exact hc
        · exact h3 x hx⟩
    · exact ⟨0, c, rfl, hc, by simp⟩
theorem tagv {j : Nat} (h : j ≤ 1000) : iadd .i64 (imul .i64 2 (j : Int)) 2 = 2 * (j : Int) + 2 := by
  have h1 : imul .i64 2 (j : Int) = 2 * (j : Int) := wrap64 (by omega)
  rw [h1]
  exact iadd64 (by omega)
theorem tagw {j : Nat} (h : j ≤ 1000) : iadd .i64 (imul .i64 2 (j : Int)) 1 = 2 * (j : Int) + 1 := by
  have h1 : imul .i64 2 (j : Int) = 2 * (j : Int) := wrap64 (by omega)
  rw [h1]
  exact iadd64 (by omega)
theorem fr_len {b : List Int} (h : Fr b) : ilt (dlen b) 1 = false ∧ ilt 128 (dlen b) = false := ⟨ilt_f.2 (by rw [dlen_def]; have := h.1; omega), ilt_f.2 (by rw [dlen_def]; have := h.2; omega)⟩
theorem stS_0 (P : List Int) (D : Nat) (fr : List (List Int)) : stS P D fr 0 = tup P 0 0 0 [] [] false 0 0 0 [] 0 0 [] false 0 0 0 [] 0 0 [] := by simp [stS, tup, fls]
theorem stS_I (P : List Int) (D : Nat) (fr : List (List Int)) : stS P D fr fr.length = stI P D fr 0 := by simp [stS, stI, tup]
theorem stI_R (P : List Int) {D : Nat} (fr : List (List Int)) {q : Nat} (h : D ≤ q) : stI P D fr q = stR P (fr.length + q) fr 0 := by
  simp only [stI, stR, tup, lTag, lDat]
  rw [List.drop_eq_nil_of_le (by rw [fls_len]; omega), List.take_of_length_le (by omega)]
  rfl
theorem new12 (fu : Nat) {l : List Int} (h : l.length ≤ 200) : s12 fu l = some (tup l 0 0 0 [] [] false 0 0 0 [] 0 0 [] false 0 0 0 [] 0 0 [], (0, ())) := by
  have e1 : ilt 200 (dlen l) = false := ilt_f.2 (by rw [dlen_def]; omega)
  simp only [s12, e1, clone12 (bytes := 1) (by omega) (l := l) (by omega)]
def chk12 (n : Nat) : Bool := match s17 0 (n : Int) with
  | some ([d], ()) => decide (1 ≤ d) && decide (d ≤ 8)
  | _ => ieq (irem .u8 (n : Int) 4) 1 || ieq (irem .u8 (n : Int) 4) 2
theorem chk12_all : (List.range 256).all chk12 = true := by decide +kernel
theorem arr_one {fu : Nat} {p : Int} (h0 : 0 ≤ p) (h1 : p ≤ 255) (h2 : ieq (irem .u8 p 4) 1 = false) (h3 : ieq (irem .u8 p 4) 2 = false) : ∃ D : Nat, 1 ≤ D ∧ D ≤ 8 ∧ s17 fu p = some ([(D : Int)], ()) := by
  obtain ⟨n, rfl⟩ := Int.eq_ofNat_of_zero_le h0
  have := List.all_eq_true.1 chk12_all n (List.mem_range.2 (by omega))
  unfold chk12 at this
  have hs : s17 fu (n : Int) = s17 0 (n : Int) := rfl
  rw [hs]
  split at this
  · rename_i d hd
    simp only [Bool.and_eq_true, decide_eq_true_eq] at this
    obtain ⟨D, rfl⟩ := Int.eq_ofNat_of_zero_le (show 0 ≤ d by omega)
    exact ⟨D, by omega, by omega, hd⟩
  · rw [h2, h3] at this
    cases this
end Go.G
