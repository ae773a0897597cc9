import Derived.Test.YtiifmafolmmelaaGE5
import Derived.Test.YtiifmafolmmelaaUni20
import Derived.KernelRfl
import Derived.Test.YtiifmafolmmelaaRows
set_option linter.unusedVariables false
set_option linter.unusedSimpArgs false
set_option maxRecDepth 100000
namespace Go.G
open Go.Proofs Go.Proofs.Ytiifmafolmmelaa
def ks20 : U20 → List (Pt C20)
  | .u8 => [.int .u8]
  | .msg => [.int .i64, .int .i64, .int .i64, .int .i64, .int .i64, .int .i64, .int .i64, .int .i64, .sl U20.u8]
  | .pair => [.int .i64, .int .i64, .int .i64]
  | .state => [.sl U20.msg, .sl U20.pair]
  | .i64 => [.int .i64]
theorem ksdec20 : ∀ (u : U20) (ds : List (DV C20.toSig)), ksOK (ks20 u) ds → ∃ a, C20.dec u ds = some a := by
  intro u ds h
  cases u
  case u8 =>
    match ds, h with
    | [d0], h =>
      obtain ⟨h0, _⟩ := h
      cases d0 <;> first | exact h0.elim | skip
      cases h0
      exact ⟨_, rfl⟩
  case msg =>
    match ds, h with
    | [d0, d1, d2, d3, d4, d5, d6, d7, d8], h =>
      obtain ⟨h0, h1, h2, h3, h4, h5, h6, h7, h8, _⟩ := h
      cases d0 <;> first | exact h0.elim | skip
      cases d1 <;> first | exact h1.elim | skip
      cases d2 <;> first | exact h2.elim | skip
      cases d3 <;> first | exact h3.elim | skip
      cases d4 <;> first | exact h4.elim | skip
      cases d5 <;> first | exact h5.elim | skip
      cases d6 <;> first | exact h6.elim | skip
      cases d7 <;> first | exact h7.elim | skip
      cases d8 <;> first | exact h8.elim | skip
      cases h0
      cases h1
      cases h2
      cases h3
      cases h4
      cases h5
      cases h6
      cases h7
      cases h8
      exact ⟨_, rfl⟩
  case pair =>
    match ds, h with
    | [d0, d1, d2], h =>
      obtain ⟨h0, h1, h2, _⟩ := h
      cases d0 <;> first | exact h0.elim | skip
      cases d1 <;> first | exact h1.elim | skip
      cases d2 <;> first | exact h2.elim | skip
      cases h0
      cases h1
      cases h2
      exact ⟨_, rfl⟩
  case state =>
    match ds, h with
    | [d0, d1], h =>
      obtain ⟨h0, h1, _⟩ := h
      cases d0 <;> first | exact h0.elim | skip
      cases d1 <;> first | exact h1.elim | skip
      cases h0
      cases h1
      exact ⟨_, rfl⟩
  case i64 =>
    match ds, h with
    | [d0], h =>
      obtain ⟨h0, _⟩ := h
      cases d0 <;> first | exact h0.elim | skip
      cases h0
      exact ⟨_, rfl⟩
theorem kflat20 : ∀ e u, cu20 e = some u → flat Try.prog cu20 20 e = some (ks20 u) := by
  intro e u h
  unfold cu20 at h
  split at h <;> first | (cases h; kernel_rfl) | cases h
theorem kb20 : ∀ e u, cu20 e = some u → C20.bys u ≤ Try.prog.bytesOf e := by
  intro e u h
  unfold cu20 at h
  split at h <;> first | (cases h; exact Nat.le_of_ble_eq_true (by kernel_rfl)) | cases h
def kd20 : Kinds (T := C20) Try.prog cu20 := ⟨ks20, ksdec20, 20, kflat20, kb20⟩
def base20 : Base (T := C20) Try.prog cu20 := ⟨by kernel_rfl, by kernel_rfl, by kernel_rfl, kd20⟩
theorem own20 : ownKnob Try.prog.godebug = none := by kernel_rfl
abbrev FU : Nat := 18446744073709551616
end Go.G
