import Derived.Test.YtmbblacaodapcaaP10f
set_option linter.unusedVariables false
set_option linter.unusedSimpArgs false
namespace Go.G
theorem law3_at (fu : Nat) (hf : 1000 < fu) (ha : s9 fu = some (true, ())) (l : List Window10) (w : Window10) : s3 fu l w.Device w.Tag w.Frame w.Write = some (true, ()) := by
  unfold s3
  rw [ha]
  simp only
  cases h : ilt 40 (dlen l) with
  | true => rfl
  | false =>
    rw [ilt_f, dlen_def] at h
    have hlen := openF_len l w
    simp only
    rw [to10 fu l (by omega) (by omega)]
    simp only
    rw [open10 fu hf l w (by omega) (by omega), openR fu l w (by omega) (by omega)]
    simp only [ieq_iff.2 rfl]
    rw [from10 fu _ (by omega) (by omega)]
    simp only
    rw [same10 fu _ _ (by omega) (by omega), valid10 fu hf l (by omega) (by omega), validR fu l (by omega) (by omega)]
    simp [beqb]
/-- IommuOpen is true. -/
theorem law3 (a0 : List Window10) (a1_Device : Int) (a1_Tag : Int) (a1_Frame : Int) (a1_Write : Bool) (_ : WfA A3 (a0, (a1_Device, a1_Tag, a1_Frame, a1_Write, ()), ())) : s3 FU a0 a1_Device a1_Tag a1_Frame a1_Write = some (true, ()) :=
  law3_at FU (by decide) aw10 a0 ⟨a1_Device, a1_Tag, a1_Frame, a1_Write⟩
end Go.G
