import Derived.Test.YtmbblacaodapcaaP10aw
set_option linter.unusedVariables false
set_option linter.unusedSimpArgs false
namespace Go.G
theorem law4_at (fu : Nat) (hf : 1000 < fu) (ha : s9 fu = some (true, ())) (l : List Window10) (d f : Int) : s4 fu l d f = some (true, ()) := by
  unfold s4
  rw [ha]
  simp only
  cases h : ilt 40 (dlen l) with
  | true => rfl
  | false =>
    rw [ilt_f, dlen_def] at h
    simp only
    rw [to10 fu l (by omega) (by omega)]
    simp only
    rw [check10 fu l _ _ _ (by omega) (by omega), checkR fu l _ _ _ (by omega) (by omega), check10 fu l _ _ _ (by omega) (by omega), checkR fu l _ _ _ (by omega) (by omega), busy10 fu l _ (by omega) (by omega), busyR fu l _ (by omega) (by omega)]
    simp [beqb]
/-- IommuCheck is true. -/
theorem law4 (a0 : List Window10) (a1 : Int) (a2 : Int) (_ : WfA A4 (a0, a1, a2, ())) : s4 FU a0 a1 a2 = some (true, ()) := law4_at FU (by decide) aw10 _ _ _
end Go.G
