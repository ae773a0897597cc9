/- Proved: A frame arrives as often as its byte of the pattern has arrivals, within 8 ticks. The statement Rows.LinkFateSaid holds of the given program for every input that can be read as data; no further condition. -/
import Derived.Test.YtjmhaeegcaapeaaLaw12LinkFate
set_option linter.unusedVariables false
set_option linter.unusedSimpArgs false
set_option maxRecDepth 100000
namespace Go.Proofs.Ytjmhaeegcaapeaa.linkFate
open Go.G
theorem lifted (os : Os) (started : os.Started) (H : Type) (enc : TypeId × Value → H) :
    ReturnsInHanded {} Try.checked os 7 .any (Rows.linkFateSpec.pre6 enc Try.prog Try.f7 Rows.linkFateRow.domain false) (Rows.linkFateSpec.post enc Try.prog Try.f7 false true false false) := by
  refine returnsInHanded_of_change (C := Try.checked) own12 started (by kernel_rfl) Try.func7
    (ChangeSpec.witness6 (enc := enc) (C := Try.checked) false ⟨#[], #[.int .u8 0, .slice none 0 0], []⟩ 8 (by kernel_rfl) (by kernel_rfl) (by kernel_rfl) (by kernel_rfl)) ?_
  intro W base args ds gs before hval hW _ _
  exact law_calls (T := C12) base12 (fuel := 20) (As := A7) (d7 FU) (fun x h => law7 x.1 x.2.1 h) (by kernel_rfl) (by kernel_rfl) rfl (by kernel_rfl) Try.underlying4
    (fun ds h => by
      match ds, h with
      | [d0, d1], _ => rfl) W base args ds gs before hval hW

theorem over : Rows.linkFateRow.holds Try.pinned (OpenSpec.ofChange Rows.linkFateSpec) :=
  OpenClaim.holds_of_wide 7 Try.f7 rfl rfl rfl rfl rfl rfl rfl ⟨rfl, rfl, rfl, rfl, rfl⟩ rfl rfl rfl rfl rfl (by kernel_rfl) Try.func7 (by kernel_rfl)
    (of_decide_eq_true (by kernel_rfl)) (by unfold Func.isWrapper; first | (rw [if_pos (by decide +kernel)]; kernel_rfl) | (rw [if_neg (by decide +kernel)]; exact ⟨rfl, rfl⟩))
    (fun os started H enc _ => lifted os started H enc)

/-- The statement. -/
theorem proved : Rows.LinkFateSaid :=
  over
end Go.Proofs.Ytjmhaeegcaapeaa.linkFate
