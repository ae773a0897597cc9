/- Proved: If up to 10 tasks pass a right on from one to the next, revoking what comes from the capability of one of them takes the right from all behind it, and from nobody else. The statement Rows.CapsChainSaid holds of the given program for every input that can be read as data; no further condition. -/
import Derived.Test.YtmhleddbamfheaaLaw18CapsChain
set_option linter.unusedVariables false
set_option linter.unusedSimpArgs false
namespace Go.Proofs.Ytmhleddbamfheaa.capsChain
open Go.G
theorem lifted (os : Os) (started : os.Started) (H : Type) (enc : TypeId × Value → H) :
    ReturnsInHanded {} Try.checked os 10 .any (Rows.capsChainSpec.pre6 enc Try.prog Try.f10 Rows.capsChainRow.domain false) (Rows.capsChainSpec.post enc Try.prog Try.f10 false true false false) := by
  refine returnsInHanded_of_change (C := Try.checked) own18 started (by kernel_rfl) Try.func10
    (ChangeSpec.witness6 (enc := enc) (C := Try.checked) false ⟨#[], #[.int .u8 0, .int .u8 0], []⟩ 8 (by kernel_rfl) (by kernel_rfl) (by kernel_rfl) (by kernel_rfl)) ?_
  intro W base args ds gs before hval hW _ _
  exact law_calls (T := C18) base18 (fuel := 20) (As := A10) (d10 FU) (fun x h => law10 x.1 x.2.1 h) (by kernel_rfl) (by kernel_rfl) rfl (by kernel_rfl) Try.underlying4
    (fun ds h => by
      match ds, h with
      | [d0, d1], _ => rfl) W base args ds gs before hval hW

theorem over : Rows.capsChainRow.holds Try.pinned (OpenSpec.ofChange Rows.capsChainSpec) :=
  OpenClaim.holds_of_wide 10 Try.f10 rfl rfl rfl rfl rfl rfl rfl ⟨rfl, rfl, rfl, rfl, rfl⟩ rfl rfl rfl rfl rfl (by kernel_rfl) Try.func10 (by kernel_rfl)
    (of_decide_eq_true (by kernel_rfl)) (by unfold Func.isWrapper; first | (rw [if_pos (by decide +kernel)]; kernel_rfl) | (rw [if_neg (by decide +kernel)]; exact ⟨rfl, rfl⟩))
    (fun os started H enc _ => lifted os started H enc)

/-- The statement. -/
theorem proved : Rows.CapsChainSaid :=
  over
end Go.Proofs.Ytmhleddbamfheaa.capsChain
