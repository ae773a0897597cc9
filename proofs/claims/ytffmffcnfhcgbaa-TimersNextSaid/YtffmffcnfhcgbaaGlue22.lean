import Derived.Test.YtffmffcnfhcgbaaGE5
import Derived.Test.YtffmffcnfhcgbaaUni22
import Derived.KernelRfl
import Derived.Test.YtffmffcnfhcgbaaRows
set_option linter.unusedVariables false
set_option linter.unusedSimpArgs false
set_option maxRecDepth 100000
namespace Go.G
open Go.Proofs Go.Proofs.Ytffmffcnfhcgbaa
def ks22 : U22 → List (Pt C22)
  | .timer => [.int .i64, .int .i64, .int .i64]
  | .i64 => [.int .i64]
theorem ksdec22 : ∀ (u : U22) (ds : List (DV C22.toSig)), ksOK (ks22 u) ds → ∃ a, C22.dec u ds = some a := by
  intro u ds h
  cases u
  case timer =>
    match ds, h with
    | [d0, d1, d2], h =>
      obtain ⟨h0, h1, h2, _⟩ := h
      cases d0 <;> first | exact h0.elim | skip
      cases d1 <;> first | exact h1.elim | skip
      cases d2 <;> first | exact h2.elim | skip
      cases h0
      cases h1
      cases h2
      exact ⟨_, rfl⟩
  case i64 =>
    match ds, h with
    | [d0], h =>
      obtain ⟨h0, _⟩ := h
      cases d0 <;> first | exact h0.elim | skip
      cases h0
      exact ⟨_, rfl⟩
theorem kflat22 : ∀ e u, cu22 e = some u → flat Try.prog cu22 20 e = some (ks22 u) := by
  intro e u h
  unfold cu22 at h
  split at h <;> first | (cases h; kernel_rfl) | cases h
theorem kb22 : ∀ e u, cu22 e = some u → C22.bys u ≤ Try.prog.bytesOf e := by
  intro e u h
  unfold cu22 at h
  split at h <;> first | (cases h; exact Nat.le_of_ble_eq_true (by kernel_rfl)) | cases h
def kd22 : Kinds (T := C22) Try.prog cu22 := ⟨ks22, ksdec22, 20, kflat22, kb22⟩
def base22 : Base (T := C22) Try.prog cu22 := ⟨by kernel_rfl, by kernel_rfl, by kernel_rfl, kd22⟩
theorem own22 : ownKnob Try.prog.godebug = none := by kernel_rfl
abbrev FU : Nat := 18446744073709551616
end Go.G
