import Derived.Test.YtmbblacaodapcaaP10h
set_option linter.unusedVariables false
set_option linter.unusedSimpArgs false
namespace Go.G
theorem law8_at (fu : Nat) (hf : 1000 < fu) (ha : s9 fu = some (true, ())) (l : List Window10) (d t : Int) : s8 fu l d t = some (true, ()) := by
  unfold s8
  rw [ha]
  simp only
  cases h : ilt 40 (dlen l) with
  | true => rfl
  | false =>
    rw [ilt_f, dlen_def] at h
    have hlen := closeF_len l d t
    simp only
    rw [to10 fu l (by omega) (by omega)]
    simp only
    rw [close10 fu hf l d t (by omega) (by omega), closeR fu l d t (by omega) (by omega)]
    simp only
    rw [find10 fu l d t (by omega) (by omega), findR fu l d t (by omega) (by omega)]
    simp only [ieq_iff.2 rfl]
    rw [from10 fu _ (by omega) (by omega)]
    simp only
    rw [same10 fu _ _ (by omega) (by omega)]
    simp [beqb]
/-- IommuClose is true. -/
theorem law8 (a0 : List Window10) (a1 : Int) (a2 : Int) (_ : WfA A8 (a0, a1, a2, ())) : s8 FU a0 a1 a2 = some (true, ()) := law8_at FU (by decide) aw10 _ _ _
end Go.G
