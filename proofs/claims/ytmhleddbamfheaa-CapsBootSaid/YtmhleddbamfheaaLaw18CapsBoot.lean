import Derived.Test.YtmhleddbamfheaaP18boot
set_option linter.unusedVariables false
set_option linter.unusedSimpArgs false
namespace Go.G
theorem law3_at (fu : Nat) (hf : 1000 < fu) (n : Int) (h1 : s11 fu = some ((n, (bootL, ())), ())) (h2 : s15 fu = some ((n, (bootL, ())), ())) (hv : validB n bootL = true) (ha : s12 fu = some (true, ())) (a0 t p c : Int) : s3 fu a0 t p c = some (true, ()) := by
  have := boot_len
  unfold s3
  rw [h1, ha, h2]
  simp only
  rw [from_caps fu n bootL (by omega) (by omega)]
  simp only
  rw [equal_ref fu n bootL n bootL (by omega) (by omega), has_caps fu n bootL _ _ _ _ (by omega) (by omega), has_ref fu n bootL _ _ _ _ (by omega) (by omega), valid_caps fu n bootL (by omega) (by omega), hv]
  simp [beqb]
/-- CapsBoot is true, whatever the owner and the right. -/
theorem law3 (a0 a1_Type_ a1_Peer a1_Code : Int) (_ : WfA A3 (a0, (a1_Type_, a1_Peer, a1_Code, ()), ())) : s3 FU a0 a1_Type_ a1_Peer a1_Code = some (true, ()) :=
  law3_at FU (by decide) _ boot_caps boot_ref boot_validB aw18 _ _ _ _
end Go.G
