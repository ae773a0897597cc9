/- Proved: With a pattern of one byte that loses and doubles nothing, up to 40 frames that are sent one after the other arrive in order, each once, whatever the delay. The statement Rows.LinkSteadySaid holds of the given program for every input that can be read as data; no further condition. -/
import Derived.Test.YtjmhaeegcaapeaaLaw12LinkSteady
set_option linter.unusedVariables false
set_option linter.unusedSimpArgs false
set_option maxRecDepth 100000
namespace Go.Proofs.Ytjmhaeegcaapeaa.linkSteady
open Go.G
theorem lifted (os : Os) (started : os.Started) (H : Type) (enc : TypeId × Value → H) :
    ReturnsInHanded {} Try.checked os 8 .any (Rows.linkSteadySpec.pre6 enc Try.prog Try.f8 Rows.linkSteadyRow.domain false) (Rows.linkSteadySpec.post enc Try.prog Try.f8 false true false false) := by
  refine returnsInHanded_of_change (C := Try.checked) own12 started (by kernel_rfl) Try.func8
    (ChangeSpec.witness6 (enc := enc) (C := Try.checked) false ⟨#[], #[.slice none 0 0, .int .u8 0], []⟩ 8 (by kernel_rfl) (by kernel_rfl) (by kernel_rfl) (by kernel_rfl)) ?_
  intro W base args ds gs before hval hW _ _
  exact law_calls (T := C12) base12 (fuel := 20) (As := A8) (d8 FU) (fun x h => law8 x.1 x.2.1 h) (by kernel_rfl) (by kernel_rfl) rfl (by kernel_rfl) Try.underlying4
    (fun ds h => by
      match ds, h with
      | [d0, d1], _ => rfl) W base args ds gs before hval hW

theorem over : Rows.linkSteadyRow.holds Try.pinned (OpenSpec.ofChange Rows.linkSteadySpec) :=
  OpenClaim.holds_of_wide 8 Try.f8 rfl rfl rfl rfl rfl rfl rfl ⟨rfl, rfl, rfl, rfl, rfl⟩ rfl rfl rfl rfl rfl (by kernel_rfl) Try.func8 (by kernel_rfl)
    (of_decide_eq_true (by kernel_rfl)) (by unfold Func.isWrapper; first | (rw [if_pos (by decide +kernel)]; kernel_rfl) | (rw [if_neg (by decide +kernel)]; exact ⟨rfl, rfl⟩))
    (fun os started H enc _ => lifted os started H enc)

/-- The statement. -/
theorem proved : Rows.LinkSteadySaid :=
  over
end Go.Proofs.Ytjmhaeegcaapeaa.linkSteady
