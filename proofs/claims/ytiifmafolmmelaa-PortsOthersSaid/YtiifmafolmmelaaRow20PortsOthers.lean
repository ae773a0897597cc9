/- Proved: Sending to a task and taking its messages change neither the messages to another task nor the number of another pair. The statement Rows.PortsOthersSaid holds of the given program for every input that can be read as data; no further condition. -/
import Derived.Test.YtiifmafolmmelaaLaw20PortsOthers
set_option linter.unusedVariables false
set_option linter.unusedSimpArgs false
namespace Go.Proofs.Ytiifmafolmmelaa.portsOthers
open Go.G
theorem lifted (os : Os) (started : os.Started) (H : Type) (enc : TypeId × Value → H) :
    ReturnsInHanded {} Try.checked os 6 .any (Rows.portsOthersSpec.pre6 enc Try.prog Try.f6 Rows.portsOthersRow.domain false) (Rows.portsOthersSpec.post enc Try.prog Try.f6 false true false false) := by
  refine returnsInHanded_of_change (C := Try.checked) own20 started (by kernel_rfl) Try.func6
    (ChangeSpec.witness6 (enc := enc) (C := Try.checked) false ⟨#[], #[.agg #[.slice none 0 0, .slice none 0 0], .agg #[.int .i64 0, .int .i64 0, .int .i64 0, .int .i64 0, .int .i64 0, .int .i64 0, .int .i64 0, .int .i64 0, .slice none 0 0], .agg #[.int .i64 0, .int .i64 0, .int .i64 0]], []⟩ 8 (by kernel_rfl) (by kernel_rfl) (by kernel_rfl) (by kernel_rfl)) ?_
  intro W base args ds gs before hval hW _ _
  exact law_calls (T := C20) base20 (fuel := 20) (As := A6) (d6 FU) (fun x h => law6 x.1.1 x.1.2.1 x.2.1.1 x.2.1.2.1 x.2.1.2.2.1 x.2.1.2.2.2.1 x.2.1.2.2.2.2.1 x.2.1.2.2.2.2.2.1 x.2.1.2.2.2.2.2.2.1 x.2.1.2.2.2.2.2.2.2.1 x.2.1.2.2.2.2.2.2.2.2.1 x.2.2.1.1 x.2.2.1.2.1 x.2.2.1.2.2.1 h) (by kernel_rfl) (by kernel_rfl) rfl (by kernel_rfl) Try.underlying4
    (fun ds h => by
      match ds, h with
      | [d0, d1, d2], _ => rfl) W base args ds gs before hval hW

theorem over : Rows.portsOthersRow.holds Try.pinned (OpenSpec.ofChange Rows.portsOthersSpec) :=
  OpenClaim.holds_of_wide 6 Try.f6 rfl rfl rfl rfl rfl rfl rfl ⟨rfl, rfl, rfl, rfl, rfl⟩ rfl rfl rfl rfl rfl (by kernel_rfl) Try.func6 (by kernel_rfl)
    (of_decide_eq_true (by kernel_rfl)) (by unfold Func.isWrapper; first | (rw [if_pos (by decide +kernel)]; kernel_rfl) | (rw [if_neg (by decide +kernel)]; exact ⟨rfl, rfl⟩))
    (fun os started H enc _ => lifted os started H enc)

/-- The statement. -/
theorem proved : Rows.PortsOthersSaid :=
  over
end Go.Proofs.Ytiifmafolmmelaa.portsOthers
