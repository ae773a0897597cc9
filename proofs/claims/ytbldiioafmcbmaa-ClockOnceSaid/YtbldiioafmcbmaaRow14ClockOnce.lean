/- Proved: An alarm that is set goes off at its time, and at no other one; alarms of up to 60 ticks ahead. The statement Rows.ClockOnceSaid holds of the given program for every input that can be read as data; no further condition. -/
import Derived.Test.YtbldiioafmcbmaaLaw14ClockOnce
set_option linter.unusedVariables false
set_option linter.unusedSimpArgs false
namespace Go.Proofs.Ytbldiioafmcbmaa.clockOnce
open Go.G
theorem lifted (os : Os) (started : os.Started) (H : Type) (enc : TypeId × Value → H) :
    ReturnsInHanded {} Try.checked os 4 .any (Rows.clockOnceSpec.pre6 enc Try.prog Try.f4 Rows.clockOnceRow.domain false) (Rows.clockOnceSpec.post enc Try.prog Try.f4 false true false false) := by
  refine returnsInHanded_of_change (C := Try.checked) own14 started (by kernel_rfl) Try.func4
    (ChangeSpec.witness6 (enc := enc) (C := Try.checked) false ⟨#[], #[.agg #[.int .i64 0, .slice none 0 0], .int .i64 0, .int .u8 0], []⟩ 8 (by kernel_rfl) (by kernel_rfl) (by kernel_rfl) (by kernel_rfl)) ?_
  intro W base args ds gs before hval hW _ _
  exact law_calls (T := C14) base14 (fuel := 20) (As := A4) (d4 FU) (fun x h => law4 x.1.1 x.1.2.1 x.2.1 x.2.2.1 h) (by kernel_rfl) (by kernel_rfl) rfl (by kernel_rfl) Try.underlying4
    (fun ds h => by
      match ds, h with
      | [d0, d1, d2], _ => rfl) W base args ds gs before hval hW

theorem over : Rows.clockOnceRow.holds Try.pinned (OpenSpec.ofChange Rows.clockOnceSpec) :=
  OpenClaim.holds_of_wide 4 Try.f4 rfl rfl rfl rfl rfl rfl rfl ⟨rfl, rfl, rfl, rfl, rfl⟩ rfl rfl rfl rfl rfl (by kernel_rfl) Try.func4 (by kernel_rfl)
    (of_decide_eq_true (by kernel_rfl)) (by unfold Func.isWrapper; first | (rw [if_pos (by decide +kernel)]; kernel_rfl) | (rw [if_neg (by decide +kernel)]; exact ⟨rfl, rfl⟩))
    (fun os started H enc _ => lifted os started H enc)

/-- The statement. -/
theorem proved : Rows.ClockOnceSaid :=
  over
end Go.Proofs.Ytbldiioafmcbmaa.clockOnce
