/- Proved: Without the timers of one owner, those of all others expire in the same order, for any table of up to 150 timers. The statement Rows.TimersDropSaid holds of the given program for every input that can be read as data; no further condition. -/
import Derived.Test.YtffmffcnfhcgbaaLaw22TimersDrop
set_option linter.unusedVariables false
set_option linter.unusedSimpArgs false
set_option maxRecDepth 100000
namespace Go.Proofs.Ytffmffcnfhcgbaa.timersDrop
open Go.G
theorem lifted (os : Os) (started : os.Started) (H : Type) (enc : TypeId × Value → H) :
    ReturnsInHanded {} Try.checked os 3 .any (Rows.timersDropSpec.pre6 enc Try.prog Try.f3 Rows.timersDropRow.domain false) (Rows.timersDropSpec.post enc Try.prog Try.f3 false true false false) := by
  refine returnsInHanded_of_change_sized (C := Try.checked) own22 started (by kernel_rfl) Try.func3
    (ChangeSpec.witness6 (enc := enc) (C := Try.checked) false ⟨#[], #[.slice none 0 0, .int .i64 0, .int .i64 0], []⟩ 8 (by kernel_rfl) (by kernel_rfl) (by kernel_rfl) (by kernel_rfl)) ?_
  intro W base args ds gs before hval hW _ hsz _
  exact law_calls (T := C22) base22 (fuel := 20) (As := A3) (d3 FU) W (fun _ _ _ h => by cases h) (fun x h => law3 x.1 x.2.1 x.2.2.1 h) (by kernel_rfl) (by kernel_rfl) rfl (by kernel_rfl) Try.underlying4
    (fun ds h => by
      match ds, h with
      | [d0, d1, d2], _ => rfl) base args ds gs before hval hW hsz

theorem over : Rows.timersDropRow.holds Try.pinned (OpenSpec.ofChange Rows.timersDropSpec) :=
  OpenClaim.holds_of_wide 3 Try.f3 rfl rfl rfl rfl rfl rfl rfl ⟨rfl, rfl, rfl, rfl, rfl⟩ rfl rfl rfl rfl rfl (by kernel_rfl) Try.func3 (by kernel_rfl)
    (of_decide_eq_true (by kernel_rfl)) (by unfold Func.isWrapper; first | (rw [if_pos (by decide +kernel)]; kernel_rfl) | (rw [if_neg (by decide +kernel)]; exact ⟨rfl, rfl⟩))
    (fun os started H enc _ => lifted os started H enc)

/-- The statement. -/
theorem proved : Rows.TimersDropSaid :=
  over
end Go.Proofs.Ytffmffcnfhcgbaa.timersDrop
