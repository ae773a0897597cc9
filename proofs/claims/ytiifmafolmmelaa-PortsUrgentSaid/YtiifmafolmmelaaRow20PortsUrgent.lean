/- Proved: Urgent returns the specified state or error for any state and message; the message is taken next, and behind it the same messages as before, apart from the numbers of its pair, which are consecutive if they were. The statement Rows.PortsUrgentSaid holds of the given program for every input that can be read as data; no further condition. -/
import Derived.Test.YtiifmafolmmelaaLaw20PortsUrgent
set_option linter.unusedVariables false
set_option linter.unusedSimpArgs false
set_option maxRecDepth 100000
namespace Go.Proofs.Ytiifmafolmmelaa.portsUrgent
open Go.G
theorem lifted (os : Os) (started : os.Started) (H : Type) (enc : TypeId × Value → H) :
    ReturnsInHanded {} Try.checked os 7 .any (Rows.portsUrgentSpec.pre6 enc Try.prog Try.f7 Rows.portsUrgentRow.domain false) (Rows.portsUrgentSpec.post enc Try.prog Try.f7 false true false false) := by
  refine returnsInHanded_of_change_sized (C := Try.checked) own20 started (by kernel_rfl) Try.func7
    (ChangeSpec.witness6 (enc := enc) (C := Try.checked) false ⟨#[], #[.agg #[.slice none 0 0, .slice none 0 0], .agg #[.int .i64 0, .int .i64 0, .int .i64 0, .int .i64 0, .int .i64 0, .int .i64 0, .int .i64 0, .int .i64 0, .slice none 0 0]], []⟩ 8 (by kernel_rfl) (by kernel_rfl) (by kernel_rfl) (by kernel_rfl)) ?_
  intro W base args ds gs before hval hW _ hsz _
  exact law_calls (T := C20) base20 (fuel := 20) (As := A7) (d7 FU) W (fun _ _ _ h => by cases h) (fun x h => law7 x.1.1 x.1.2.1 x.2.1.1 x.2.1.2.1 x.2.1.2.2.1 x.2.1.2.2.2.1 x.2.1.2.2.2.2.1 x.2.1.2.2.2.2.2.1 x.2.1.2.2.2.2.2.2.1 x.2.1.2.2.2.2.2.2.2.1 x.2.1.2.2.2.2.2.2.2.2.1 h) (by kernel_rfl) (by kernel_rfl) rfl (by kernel_rfl) Try.underlying4
    (fun ds h => by
      match ds, h with
      | [d0, d1], _ => rfl) base args ds gs before hval hW hsz

theorem over : Rows.portsUrgentRow.holds Try.pinned (OpenSpec.ofChange Rows.portsUrgentSpec) :=
  OpenClaim.holds_of_wide 7 Try.f7 rfl rfl rfl rfl rfl rfl rfl ⟨rfl, rfl, rfl, rfl, rfl⟩ rfl rfl rfl rfl rfl (by kernel_rfl) Try.func7 (by kernel_rfl)
    (of_decide_eq_true (by kernel_rfl)) (by unfold Func.isWrapper; first | (rw [if_pos (by decide +kernel)]; kernel_rfl) | (rw [if_neg (by decide +kernel)]; exact ⟨rfl, rfl⟩))
    (fun os started H enc _ => lifted os started H enc)

/-- The statement. -/
theorem proved : Rows.PortsUrgentSaid :=
  over
end Go.Proofs.Ytiifmafolmmelaa.portsUrgent
