import Derived.Test.YtjmhaeegcaapeaaGE5
import Derived.Test.YtjmhaeegcaapeaaUni12
import Derived.KernelRfl
import Derived.Test.YtjmhaeegcaapeaaRows
set_option linter.unusedVariables false
set_option linter.unusedSimpArgs false
set_option maxRecDepth 100000
namespace Go.G
open Go.Proofs Go.Proofs.Ytjmhaeegcaapeaa
def ks12 : U12 → List (Pt C12)
  | .u8 => [.int .u8]
  | .flight => [.int .i64, .sl U12.u8]
  | .sl_u8 => [.sl U12.u8]
  | .i64 => [.int .i64]
  | .answer => [.int .i64, .int .i64, .sl U12.u8]
theorem ksdec12 : ∀ (u : U12) (ds : List (DV C12.toSig)), ksOK (ks12 u) ds → ∃ a, C12.dec u ds = some a := by
  intro u ds h
  cases u
  case u8 =>
    match ds, h with
    | [d0], h =>
      obtain ⟨h0, _⟩ := h
      cases d0 <;> first | exact h0.elim | skip
      cases h0
      exact ⟨_, rfl⟩
  case flight =>
    match ds, h with
    | [d0, d1], h =>
      obtain ⟨h0, h1, _⟩ := h
      cases d0 <;> first | exact h0.elim | skip
      cases d1 <;> first | exact h1.elim | skip
      cases h0
      cases h1
      exact ⟨_, rfl⟩
  case sl_u8 =>
    match ds, h with
    | [d0], h =>
      obtain ⟨h0, _⟩ := h
      cases d0 <;> first | exact h0.elim | skip
      cases h0
      exact ⟨_, rfl⟩
  case i64 =>
    match ds, h with
    | [d0], h =>
      obtain ⟨h0, _⟩ := h
      cases d0 <;> first | exact h0.elim | skip
      cases h0
      exact ⟨_, rfl⟩
  case answer =>
    match ds, h with
    | [d0, d1, d2], h =>
      obtain ⟨h0, h1, h2, _⟩ := h
      cases d0 <;> first | exact h0.elim | skip
      cases d1 <;> first | exact h1.elim | skip
      cases d2 <;> first | exact h2.elim | skip
      cases h0
      cases h1
      cases h2
      exact ⟨_, rfl⟩
theorem kflat12 : ∀ e u, cu12 e = some u → flat Try.prog cu12 20 e = some (ks12 u) := by
  intro e u h
  unfold cu12 at h
  split at h <;> first | (cases h; kernel_rfl) | cases h
theorem kb12 : ∀ e u, cu12 e = some u → C12.bys u ≤ Try.prog.bytesOf e := by
  intro e u h
  unfold cu12 at h
  split at h <;> first | (cases h; exact Nat.le_of_ble_eq_true (by kernel_rfl)) | cases h
def kd12 : Kinds (T := C12) Try.prog cu12 := ⟨ks12, ksdec12, 20, kflat12, kb12⟩
def base12 : Base (T := C12) Try.prog cu12 := ⟨by kernel_rfl, by kernel_rfl, by kernel_rfl, kd12⟩
theorem own12 : ownKnob Try.prog.godebug = none := by kernel_rfl
abbrev FU : Nat := 18446744073709551616
end Go.G
