import Derived.Test.YtmhleddbamfheaaP18i
import Derived.Test.YtmhleddbamfheaaP18boot
set_option linter.unusedVariables false
set_option linter.unusedSimpArgs false
namespace Go.G
set_option maxRecDepth 100000
theorem law6_at (fu : Nat) (hf : 1000 < fu) (ha : s12 fu = some (true, ())) (n : Int) (l : List Cap18) (k o : Int) : s6 fu n l k o = some (true, ()) := by
  unfold s6
  rw [ha]
  simp only [dlen_def]
  by_cases h : 300 < l.length
  · rw [show ilt 300 (l.length : Int) = true from ilt_iff.2 (by omega)]
  · rw [show ilt 300 (l.length : Int) = false from ilt_f.2 (by omega)]
    have hl := revokeS_len n l k
    have hv := revokeS_valid n l k
    have hl2 := enterS_len n l o
    have hv2 := enterS_valid n l o
    have hl3 := leaveS_len n l o
    have hv3 := leaveS_valid n l o
    simp only [to_caps fu n l (by omega) (by omega), revoke_caps fu n l k (by omega) (by omega), revoke_ref fu n l k (by omega) (by omega), enter_caps fu n l o (by omega) (by omega), enter_ref fu n l o (by omega) (by omega), leave_caps fu n l o (by omega) (by omega), leave_ref fu n l o (by omega) (by omega)]
    generalize revokeS n l k = D at hl hv ⊢
    obtain ⟨⟨dn, dl, ⟨⟩⟩, de, ⟨⟩⟩ := D
    generalize enterS n l o = E at hl2 hv2 ⊢
    obtain ⟨⟨en, el, ⟨⟩⟩, ee, ⟨⟩⟩ := E
    generalize leaveS n l o = G at hl3 hv3 ⊢
    obtain ⟨⟨gn, gl, ⟨⟩⟩, ge, ⟨⟩⟩ := G
    simp only at hl hv hl2 hv2 hl3 hv3 ⊢
    simp only [show ∀ a, ieq a a = true from fun a => ieq_iff.2 rfl, from_caps fu dn dl (by omega) (by omega), equal_ref fu dn dl dn dl (by omega) (by omega), valid_caps fu dn dl (by omega) (by omega), from_caps fu en el (by omega) (by omega), equal_ref fu en el en el (by omega) (by omega), valid_caps fu en el (by omega) (by omega), from_caps fu gn gl (by omega) (by omega), equal_ref fu gn gl gn gl (by omega) (by omega), valid_caps fu gn gl (by omega) (by omega)]
    simp only [decide_true, Bool.and_self]
    cases he : ieq de 0 <;> cases he2 : ieq ee 0 <;> cases he3 : ieq ge 0 <;> simp_all [ieq_iff]
theorem law6 (a0_Next : Int) (a0_Caps : List Cap18) (a1 : Int) (a2 : Int) (_ : WfA A6 ((a0_Next, a0_Caps, ()), a1, a2, ())) : s6 FU a0_Next a0_Caps a1 a2 = some (true, ()) := law6_at FU (by decide) aw18 _ _ _ _
end Go.G
