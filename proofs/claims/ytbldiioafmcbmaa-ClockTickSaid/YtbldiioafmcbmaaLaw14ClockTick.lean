import Derived.Test.YtbldiioafmcbmaaP14j
set_option linter.unusedVariables false
set_option linter.unusedSimpArgs false
namespace Go.G
theorem law3_at (fu : Nat) (hf : 1000 < fu) (ha : s9 fu = some (true, ())) (n : Int) (l : List Alarm14) : s3 fu n l = some (true, ()) := by
  unfold s3
  rw [ha]
  simp only
  cases h : ilt 50 (dlen l) with
  | true => rfl
  | false =>
    rw [ilt_f, dlen_def] at h
    have hlen := tickF_len n l
    simp only
    rw [to14 fu n l (by omega) (by omega)]
    simp only
    rw [tick14 fu n l (by omega) (by omega), tickR fu n l (by omega) (by omega)]
    simp only
    rw [from14 fu _ _ (by omega) (by omega)]
    simp only
    rw [eqR14 fu _ _ _ _ (by omega) (by omega), eqS_self]
    simp only
    rw [ints14 fu _ _ (by omega) (by omega), valid14 fu _ _ (by omega) (by omega), tickF_valid]
    simp
/-- ClockTick is true. -/
theorem law3 (a0_Now : Int) (a0_Alarms : List Alarm14) (_ : WfA A3 ((a0_Now, a0_Alarms, ()), ())) : s3 FU a0_Now a0_Alarms = some (true, ()) := law3_at FU (by decide) aw14 _ _
end Go.G
