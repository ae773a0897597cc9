import Derived.Test.YtjmhaeegcaapeaaP12i
set_option linter.unusedVariables false
set_option linter.unusedSimpArgs false
namespace Go.G
set_option maxRecDepth 100000
set_option maxHeartbeats 4000000
theorem law8_at (k : Nat) (hf : 5000 < k) (ha : s11 k = some (true, ())) (fr : List (List Int)) (p : Int) (h0 : 0 ≤ p) (h1 : p ≤ 255) : s8 k fr p = some (true, ()) := by
  unfold s8
  rw [ha]
  simp only
  cases h : ilt 40 (dlen fr) with
  | true => rfl
  | false =>
    rw [ilt_f, dlen_def] at h
    cases h2 : ieq (irem .u8 p 4) 1 with
    | true => rfl
    | false =>
      cases h3 : ieq (irem .u8 p 4) 2 with
      | true => rfl
      | false =>
        obtain ⟨D, d1, d2, d3⟩ := arr_one (fu := k) h0 h1 h2 h3
        have hn := new12 k (l := [p]) (by simp)
        have hP : ([p] = [] ∧ s17 k 0 = some ([(D : Int)], ())) ∨ ([p] = [p] ∧ s17 k p = some ([(D : Int)], ())) := .inr ⟨rfl, d3⟩
        simp only [show ieq 4 0 = false from rfl, hn, show ieq 0 0 = true from rfl]
        rcases loop8s (fu := k) (by omega) (P := [p]) (p := p) (by simp) hP d1 d2 (fr := fr) (by omega) with ⟨y, hl⟩ | ⟨hall, hl⟩
        · rw [stS_0] at hl
          simp only [hl]
        · have hi := loop8i (fu := k) (by omega) (P := [p]) (by simp) d1 d2 (fr := fr) (by omega) hall
          obtain ⟨y, hr⟩ := loop8r (fu := k) (by omega) (P := [p]) (by simp) d1 d2 (fr := fr) (by omega) hall (T := fr.length + 8) (by omega)
          rw [stS_0] at hl
          simp only [hl, hi, hr]
/-- LinkSteady is true. -/
theorem law8 (a0 : List (List Int)) (a1 : Int) (h : WfA A8 (a0, a1, ())) : s8 FU a0 a1 = some (true, ()) := by
  obtain ⟨b0, b1⟩ := wfd_u8 (wfa_mem h (c := .d (.int .u8 a1)) (by simp [embPs, embP, embC]))
  exact law8_at FU (by decide) aw12 a0 a1 b0 b1
end Go.G
