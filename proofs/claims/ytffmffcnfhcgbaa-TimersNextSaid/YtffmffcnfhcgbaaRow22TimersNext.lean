/- Proved: Ahead of Next no timer of a valid table expires, and at it one does; expiring at each Next, one after the other, returns all timers in the order in which they are due. The statement Rows.TimersNextSaid holds of the given program for every input that can be read as data; no further condition. -/
import Derived.Test.YtffmffcnfhcgbaaLaw22TimersNext
set_option linter.unusedVariables false
set_option linter.unusedSimpArgs false
set_option maxRecDepth 100000
namespace Go.Proofs.Ytffmffcnfhcgbaa.timersNext
open Go.G
theorem lifted (os : Os) (started : os.Started) (H : Type) (enc : TypeId × Value → H) :
    ReturnsInHanded {} Try.checked os 9 .any (Rows.timersNextSpec.pre6 enc Try.prog Try.f9 Rows.timersNextRow.domain false) (Rows.timersNextSpec.post enc Try.prog Try.f9 false true false false) := by
  refine returnsInHanded_of_change_sized (C := Try.checked) own22 started (by kernel_rfl) Try.func9
    (ChangeSpec.witness6 (enc := enc) (C := Try.checked) false ⟨#[], #[.slice none 0 0], []⟩ 8 (by kernel_rfl) (by kernel_rfl) (by kernel_rfl) (by kernel_rfl)) ?_
  intro W base args ds gs before hval hW _ hsz _
  exact law_calls (T := C22) base22 (fuel := 20) (As := A9) (d9 FU) W (fun _ _ _ h => by cases h) (fun x h => law9 x.1 h) (by kernel_rfl) (by kernel_rfl) rfl (by kernel_rfl) Try.underlying4
    (fun ds h => by
      match ds, h with
      | [d0], _ => rfl) base args ds gs before hval hW hsz

theorem over : Rows.timersNextRow.holds Try.pinned (OpenSpec.ofChange Rows.timersNextSpec) :=
  OpenClaim.holds_of_wide 9 Try.f9 rfl rfl rfl rfl rfl rfl rfl ⟨rfl, rfl, rfl, rfl, rfl⟩ rfl rfl rfl rfl rfl (by kernel_rfl) Try.func9 (by kernel_rfl)
    (of_decide_eq_true (by kernel_rfl)) (by unfold Func.isWrapper; first | (rw [if_pos (by decide +kernel)]; kernel_rfl) | (rw [if_neg (by decide +kernel)]; exact ⟨rfl, rfl⟩))
    (fun os started H enc _ => lifted os started H enc)

/-- The statement. -/
theorem proved : Rows.TimersNextSaid :=
  over
end Go.Proofs.Ytffmffcnfhcgbaa.timersNext
