/- Proved: Setting a timer changes no other one. The statement Rows.TimersOthersSaid holds of the given program for every input that can be read as data; no further condition. -/
import Derived.Test.YtffmffcnfhcgbaaLaw22TimersOthers
set_option linter.unusedVariables false
set_option linter.unusedSimpArgs false
namespace Go.Proofs.Ytffmffcnfhcgbaa.timersOthers
open Go.G
theorem lifted (os : Os) (started : os.Started) (H : Type) (enc : TypeId × Value → H) :
    ReturnsInHanded {} Try.checked os 7 .any (Rows.timersOthersSpec.pre6 enc Try.prog Try.f7 Rows.timersOthersRow.domain false) (Rows.timersOthersSpec.post enc Try.prog Try.f7 false true false false) := by
  refine returnsInHanded_of_change (C := Try.checked) own22 started (by kernel_rfl) Try.func7
    (ChangeSpec.witness6 (enc := enc) (C := Try.checked) false ⟨#[], #[.slice none 0 0, .agg #[.int .i64 0, .int .i64 0, .int .i64 0, .int .i64 0]], []⟩ 8 (by kernel_rfl) (by kernel_rfl) (by kernel_rfl) (by kernel_rfl)) ?_
  intro W base args ds gs before hval hW _ _
  exact law_calls (T := C22) base22 (fuel := 20) (As := A7) (d7 FU) (fun x h => law7 x.1 x.2.1.1 x.2.1.2.1 x.2.1.2.2.1 x.2.1.2.2.2.1 h) (by kernel_rfl) (by kernel_rfl) rfl (by kernel_rfl) Try.underlying4
    (fun ds h => by
      match ds, h with
      | [d0, d1], _ => rfl) W base args ds gs before hval hW

theorem over : Rows.timersOthersRow.holds Try.pinned (OpenSpec.ofChange Rows.timersOthersSpec) :=
  OpenClaim.holds_of_wide 7 Try.f7 rfl rfl rfl rfl rfl rfl rfl ⟨rfl, rfl, rfl, rfl, rfl⟩ rfl rfl rfl rfl rfl (by kernel_rfl) Try.func7 (by kernel_rfl)
    (of_decide_eq_true (by kernel_rfl)) (by unfold Func.isWrapper; first | (rw [if_pos (by decide +kernel)]; kernel_rfl) | (rw [if_neg (by decide +kernel)]; exact ⟨rfl, rfl⟩))
    (fun os started H enc _ => lifted os started H enc)

/-- The statement. -/
theorem proved : Rows.TimersOthersSaid :=
  over
end Go.Proofs.Ytffmffcnfhcgbaa.timersOthers
