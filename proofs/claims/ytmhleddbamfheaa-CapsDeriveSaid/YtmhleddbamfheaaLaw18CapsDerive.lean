import Derived.Test.YtmhleddbamfheaaP18i
import Derived.Test.YtmhleddbamfheaaP18boot
set_option linter.unusedVariables false
set_option linter.unusedSimpArgs false
namespace Go.G
set_option maxRecDepth 100000
theorem law7_at (fu : Nat) (hf : 1000 < fu) (ha : s12 fu = some (true, ())) (n : Int) (l : List Cap18) (k o : Int) : s7 fu n l k o = some (true, ()) := by
  unfold s7
  rw [ha]
  simp only [dlen_def]
  by_cases h : 300 < l.length
  · rw [show ilt 300 (l.length : Int) = true from ilt_iff.2 (by omega)]
  · rw [show ilt 300 (l.length : Int) = false from ilt_f.2 (by omega)]
    have hl := deriveS_len n l k o
    have hv := deriveS_valid n l k o
    simp only [to_caps fu n l (by omega) (by omega), derive_caps fu n l k o (by omega) (by omega), derive_ref fu n l k o (by omega) (by omega)]
    generalize deriveS n l k o = D at hl hv ⊢
    obtain ⟨⟨dn, dl, ⟨⟩⟩, di, de, ⟨⟩⟩ := D
    simp only at hl hv ⊢
    simp only [show ieq de de = true from ieq_iff.2 rfl, show ieq di di = true from ieq_iff.2 rfl, from_caps fu dn dl (by omega) (by omega), equal_ref fu dn dl dn dl (by omega) (by omega), valid_caps fu n l (by omega) (by omega), valid_ref fu n l (by omega) (by omega), equal_caps fu n l dn dl (by omega) (by omega), equal_ref fu n l dn dl (by omega) (by omega), valid_caps fu dn dl (by omega) (by omega)]
    simp only [decide_true, Bool.and_self, beqb, BEq.rfl]
    cases he : ieq de 0 with
    | false => simp
    | true => simp [hv (ieq_iff.1 he)]
theorem law7 (a0_Next : Int) (a0_Caps : List Cap18) (a1 : Int) (a2 : Int) (_ : WfA A7 ((a0_Next, a0_Caps, ()), a1, a2, ())) : s7 FU a0_Next a0_Caps a1 a2 = some (true, ()) := law7_at FU (by decide) aw18 _ _ _ _
end Go.G
