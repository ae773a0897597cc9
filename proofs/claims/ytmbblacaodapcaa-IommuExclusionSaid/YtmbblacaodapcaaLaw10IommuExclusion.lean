import Derived.Test.YtmbblacaodapcaaP10g
set_option linter.unusedVariables false
set_option linter.unusedSimpArgs false
namespace Go.G
theorem law5_at (fu : Nat) (hf : 1000 < fu) (ha : s9 fu = some (true, ())) (l : List Window10) (w : Window10) : s5 fu l w.Device w.Tag w.Frame w.Write = some (true, ()) := by
  unfold s5
  rw [ha]
  simp only
  cases h : ilt 40 (dlen l) with
  | true => rfl
  | false =>
    rw [ilt_f, dlen_def] at h
    have hlen := openF_len l w
    simp only
    rw [to10 fu l (by omega) (by omega)]
    simp only
    rw [open10 fu hf l w (by omega) (by omega)]
    have e21 : t5_21 fu = t5_4 fu := rfl
    rcases openF_cases l w with ⟨q1, q2⟩ | ⟨hV, hp, hk, hc, hq⟩
    · simp only [ieq_f.2 q1]
      rw [valid10 fu hf l (by omega) (by omega), e21]
      simp only
      cases hv : validB l with
      | false => rfl
      | true =>
        simp only
        rw [excl_out fu l ((valid_iff l).1 hv) (by omega) (by omega)]
    · rw [hq]
      have hV' := val_insert hV hp hk hc
      rw [hq] at hlen
      simp only at hlen
      simp only [ieq_iff.2 rfl]
      rw [valid10 fu hf _ (by omega) (by omega), (valid_iff _).2 hV']
      simp only
      rw [excl_out fu _ hV' (by omega) (by omega)]
/-- IommuExclusion is true. -/
theorem law5 (a0 : List Window10) (a1_Device : Int) (a1_Tag : Int) (a1_Frame : Int) (a1_Write : Bool) (_ : WfA A5 (a0, (a1_Device, a1_Tag, a1_Frame, a1_Write, ()), ())) : s5 FU a0 a1_Device a1_Tag a1_Frame a1_Write = some (true, ()) :=
  law5_at FU (by decide) aw10 a0 ⟨a1_Device, a1_Tag, a1_Frame, a1_Write⟩
end Go.G
