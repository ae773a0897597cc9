import Derived.Test.YtbldiioafmcbmaaP14aw
set_option linter.unusedVariables false
set_option linter.unusedSimpArgs false
namespace Go.G
theorem law5_at (fu : Nat) (hf : 1000 < fu) (ha : s9 fu = some (true, ())) (n : Int) (l : List Alarm14) (id at_ : Int) : s5 fu n l id at_ = some (true, ()) := by
  unfold s5
  rw [ha]
  simp only
  cases h : ilt 50 (dlen l) with
  | true => rfl
  | false =>
    rw [ilt_f, dlen_def] at h
    have hlen := setF_len n l id at_
    have hn := newF_len at_
    simp only [new14, newR]
    rw [to14 fu n l (by omega) (by omega)]
    simp only
    rw [set14 fu n l id at_ (by omega) (by omega), setR fu n l id at_ (by omega) (by omega)]
    simp only [ieq_iff.2 rfl]
    rw [from14 fu _ _ (by omega) (by omega)]
    simp only
    rw [eqR14 fu _ _ _ _ (by omega) (by omega), eqS_self]
    simp only
    rw [from14 fu _ _ (by omega) (by omega)]
    simp only
    rw [eqR14 fu _ _ _ _ (by omega) (by omega), eqS_self]
    simp only
    rw [valid14 fu n l (by omega) (by omega), validR fu n l (by omega) (by omega), valid14 fu _ _ (by omega) (by omega), setF_valid, eq14 fu n l _ _ (by omega) (by omega), eqR14 fu n l _ _ (by omega) (by omega)]
    simp [beqb]
/-- ClockSet is true. -/
theorem law5 (a0_Now : Int) (a0_Alarms : List Alarm14) (a1 : Int) (a2 : Int) (_ : WfA A5 ((a0_Now, a0_Alarms, ()), a1, a2, ())) : s5 FU a0_Now a0_Alarms a1 a2 = some (true, ()) := law5_at FU (by decide) aw14 _ _ _ _
end Go.G
