import Derived.Test.YtbldiioafmcbmaaP14f
set_option linter.unusedVariables false
set_option linter.unusedSimpArgs false
namespace Go.G
theorem law8_at (fu : Nat) (hf : 1000 < fu) (ha : s9 fu = some (true, ())) (n : Int) (l : List Alarm14) (id : Int) : s8 fu n l id = some (true, ()) := by
  unfold s8
  rw [ha]
  simp only
  cases h : ilt 50 (dlen l) with
  | true => rfl
  | false =>
    rw [ilt_f, dlen_def] at h
    have hlen := cancelF_len n l id
    simp only
    rw [to14 fu n l (by omega) (by omega)]
    simp only
    rw [cancel14 fu n l id (by omega) (by omega), cancelR fu n l id (by omega) (by omega)]
    simp only
    rw [next14 fu n l (by omega) (by omega), nextR fu n l (by omega) (by omega)]
    simp only [ieq_iff.2 rfl]
    rw [from14 fu _ _ (by omega) (by omega)]
    simp only
    rw [eqR14 fu _ _ _ _ (by omega) (by omega), eqS_self]
    simp only
    rw [valid14 fu _ _ (by omega) (by omega), cancelF_valid]
    simp [beqb]
/-- ClockCancel is true. -/
theorem law8 (a0_Now : Int) (a0_Alarms : List Alarm14) (a1 : Int) (_ : WfA A8 ((a0_Now, a0_Alarms, ()), a1, ())) : s8 FU a0_Now a0_Alarms a1 = some (true, ()) := law8_at FU (by decide) aw14 _ _ _
end Go.G
