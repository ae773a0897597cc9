import Derived.Test.YtjmhaeegcaapeaaP12j
set_option linter.unusedVariables false
set_option linter.unusedSimpArgs false
namespace Go.G
set_option maxRecDepth 100000
set_option maxHeartbeats 4000000
theorem law5_at (k : Nat) (hf : 5000 < k) (ha : s11 k = some (true, ())) (fr : List (List Int)) : s5 k fr = some (true, ()) := by
  unfold s5
  rw [ha]
  simp only
  cases h : ilt 20 (dlen fr) with
  | true => rfl
  | false =>
    rw [ilt_f, dlen_def] at h
    have hn := new12 k (l := []) (by simp)
    have hP : (([] : List Int) = [] ∧ s17 k 0 = some ([((1 : Nat) : Int)], ())) ∨ (([] : List Int) = [0] ∧ s17 k 0 = some ([((1 : Nat) : Int)], ())) := .inl ⟨rfl, rfl⟩
    simp only [hn]
    rcases loop5s (fu := k) (by omega) (P := []) (p := 0) (by simp) hP (by omega) (by omega) (fr := fr) (by omega) with ⟨y, hl⟩ | ⟨hall, hl⟩
    · rw [stS_0] at hl
      simp only [hl]
    · have hi := m_idle (fu := k) (by omega) (P := []) (D := 1) (by simp) (by omega) (by omega) (fr := fr) (by omega) (q := 0) (by omega) hall
      rw [stI_R [] fr (D := 1) (q := 0 + 1) (by omega)] at hi
      obtain ⟨y, hr⟩ := loop5r (fu := k) (by omega) (P := []) (D := 1) (by simp) (by omega) (by omega) (fr := fr) (by omega) hall (T := fr.length + (0 + 1)) (by omega)
      rw [stS_0] at hl
      simp only [hl, hi, hr]
/-- LinkArrives is true. -/
theorem law5 (a0 : List (List Int)) (_ : WfA A5 (a0, ())) : s5 FU a0 = some (true, ()) := law5_at FU (by decide) aw12 a0
end Go.G
