/- Proved: Without a pattern, up to 20 frames that are sent one after the other are received in this order. The statement Rows.LinkArrivesSaid holds of the given program for every input that can be read as data; no further condition. -/
import Derived.Test.YtjmhaeegcaapeaaLaw12LinkArrives
set_option linter.unusedVariables false
set_option linter.unusedSimpArgs false
set_option maxRecDepth 100000
namespace Go.Proofs.Ytjmhaeegcaapeaa.linkArrives
open Go.G
theorem lifted (os : Os) (started : os.Started) (H : Type) (enc : TypeId × Value → H) :
    ReturnsInHanded {} Try.checked os 5 .any (Rows.linkArrivesSpec.pre6 enc Try.prog Try.f5 Rows.linkArrivesRow.domain false) (Rows.linkArrivesSpec.post enc Try.prog Try.f5 false true false false) := by
  refine returnsInHanded_of_change (C := Try.checked) own12 started (by kernel_rfl) Try.func5
    (ChangeSpec.witness6 (enc := enc) (C := Try.checked) false ⟨#[], #[.slice none 0 0], []⟩ 8 (by kernel_rfl) (by kernel_rfl) (by kernel_rfl) (by kernel_rfl)) ?_
  intro W base args ds gs before hval hW _ _
  exact law_calls (T := C12) base12 (fuel := 20) (As := A5) (d5 FU) (fun x h => law5 x.1 h) (by kernel_rfl) (by kernel_rfl) rfl (by kernel_rfl) Try.underlying4
    (fun ds h => by
      match ds, h with
      | [d0], _ => rfl) W base args ds gs before hval hW

theorem over : Rows.linkArrivesRow.holds Try.pinned (OpenSpec.ofChange Rows.linkArrivesSpec) :=
  OpenClaim.holds_of_wide 5 Try.f5 rfl rfl rfl rfl rfl rfl rfl ⟨rfl, rfl, rfl, rfl, rfl⟩ rfl rfl rfl rfl rfl (by kernel_rfl) Try.func5 (by kernel_rfl)
    (of_decide_eq_true (by kernel_rfl)) (by unfold Func.isWrapper; first | (rw [if_pos (by decide +kernel)]; kernel_rfl) | (rw [if_neg (by decide +kernel)]; exact ⟨rfl, rfl⟩))
    (fun os started H enc _ => lifted os started H enc)

/-- The statement. -/
theorem proved : Rows.LinkArrivesSaid :=
  over
end Go.Proofs.Ytjmhaeegcaapeaa.linkArrives
