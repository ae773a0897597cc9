import Derived.Test.YtgnkomiicpahcaaDoorGE5
import Derived.Test.YtgnkomiicpahcaaDoorUni19
import Derived.KernelRfl
import Derived.Test.YtgnkomiicpahcaaDoorRows
set_option linter.unusedVariables false
set_option linter.unusedSimpArgs false
set_option maxRecDepth 100000
namespace Go.G
open Go.Proofs Go.Proofs.YtgnkomiicpahcaaDoor
def ks19 : U19 → List (Pt C19)
  | .u8 => [.int .u8]
  | .effect => [.int .i64, .int .i64, .int .i64, .int .i64, .int .i64, .int .i64, .int .i64, .int .i64, .int .i64, .int .i64, .int .i64, .int .i64, .int .i64, .sl U19.u8, .sl U19.u8]
  | .right => [.int .i64, .int .i64, .int .i64]
  | .cap => [.int .i64, .int .i64, .int .i64, .int .i64, .int .i64, .int .i64]
  | .i64 => [.int .i64]
  | .line => [.int .i64, .int .i64, .int .i64, .sl U19.i64]
  | .held => [.int .i64, .int .i64, .int .i64, .int .i64]
  | .bool => [.bool]
  | .form => [.int .i64, .int .i64, .str, .int .i64]
theorem ksdec19 : ∀ (u : U19) (ds : List (DV C19.toSig)), ksOK (ks19 u) ds → ∃ a, C19.dec u ds = some a := by
  intro u ds h
  cases u
  case u8 =>
    match ds, h with
    | [d0], h =>
      obtain ⟨h0, _⟩ := h
      cases d0 <;> first | exact h0.elim | skip
      cases h0
      exact ⟨_, rfl⟩
  case effect =>
    match ds, h with
    | [d0, d1, d2, d3, d4, d5, d6, d7, d8, d9, d10, d11, d12, d13, d14], h =>
      obtain ⟨h0, h1, h2, h3, h4, h5, h6, h7, h8, h9, h10, h11, h12, h13, h14, _⟩ := h
      cases d0 <;> first | exact h0.elim | skip
      cases d1 <;> first | exact h1.elim | skip
      cases d2 <;> first | exact h2.elim | skip
      cases d3 <;> first | exact h3.elim | skip
      cases d4 <;> first | exact h4.elim | skip
      cases d5 <;> first | exact h5.elim | skip
      cases d6 <;> first | exact h6.elim | skip
      cases d7 <;> first | exact h7.elim | skip
      cases d8 <;> first | exact h8.elim | skip
      cases d9 <;> first | exact h9.elim | skip
      cases d10 <;> first | exact h10.elim | skip
      cases d11 <;> first | exact h11.elim | skip
      cases d12 <;> first | exact h12.elim | skip
      cases d13 <;> first | exact h13.elim | skip
      cases d14 <;> first | exact h14.elim | skip
      cases h0
      cases h1
      cases h2
      cases h3
      cases h4
      cases h5
      cases h6
      cases h7
      cases h8
      cases h9
      cases h10
      cases h11
      cases h12
      cases h13
      cases h14
      exact ⟨_, rfl⟩
  case right =>
    match ds, h with
    | [d0, d1, d2], h =>
      obtain ⟨h0, h1, h2, _⟩ := h
      cases d0 <;> first | exact h0.elim | skip
      cases d1 <;> first | exact h1.elim | skip
      cases d2 <;> first | exact h2.elim | skip
      cases h0
      cases h1
      cases h2
      exact ⟨_, rfl⟩
  case cap =>
    match ds, h with
    | [d0, d1, d2, d3, d4, d5], h =>
      obtain ⟨h0, h1, h2, h3, h4, h5, _⟩ := h
      cases d0 <;> first | exact h0.elim | skip
      cases d1 <;> first | exact h1.elim | skip
      cases d2 <;> first | exact h2.elim | skip
      cases d3 <;> first | exact h3.elim | skip
      cases d4 <;> first | exact h4.elim | skip
      cases d5 <;> first | exact h5.elim | skip
      cases h0
      cases h1
      cases h2
      cases h3
      cases h4
      cases h5
      exact ⟨_, rfl⟩
  case i64 =>
    match ds, h with
    | [d0], h =>
      obtain ⟨h0, _⟩ := h
      cases d0 <;> first | exact h0.elim | skip
      cases h0
      exact ⟨_, rfl⟩
  case line =>
    match ds, h with
    | [d0, d1, d2, d3], h =>
      obtain ⟨h0, h1, h2, h3, _⟩ := h
      cases d0 <;> first | exact h0.elim | skip
      cases d1 <;> first | exact h1.elim | skip
      cases d2 <;> first | exact h2.elim | skip
      cases d3 <;> first | exact h3.elim | skip
      cases h0
      cases h1
      cases h2
      cases h3
      exact ⟨_, rfl⟩
  case held =>
    match ds, h with
    | [d0, d1, d2, d3], h =>
      obtain ⟨h0, h1, h2, h3, _⟩ := h
      cases d0 <;> first | exact h0.elim | skip
      cases d1 <;> first | exact h1.elim | skip
      cases d2 <;> first | exact h2.elim | skip
      cases d3 <;> first | exact h3.elim | skip
      cases h0
      cases h1
      cases h2
      cases h3
      exact ⟨_, rfl⟩
  case bool =>
    match ds, h with
    | [d0], h =>
      obtain ⟨h0, _⟩ := h
      cases d0 <;> first | exact h0.elim | skip
      exact ⟨_, rfl⟩
  case form =>
    match ds, h with
    | [d0, d1, d2, d3], h =>
      obtain ⟨h0, h1, h2, h3, _⟩ := h
      cases d0 <;> first | exact h0.elim | skip
      cases d1 <;> first | exact h1.elim | skip
      cases d2 <;> first | exact h2.elim | skip
      cases d3 <;> first | exact h3.elim | skip
      cases h0
      cases h1
      cases h3
      exact ⟨_, rfl⟩
theorem kflat19 : ∀ e u, cu19 e = some u → flat Tryd.prog cu19 20 e = some (ks19 u) := by
  intro e u h
  unfold cu19 at h
  split at h <;> first | (cases h; kernel_rfl) | cases h
theorem kb19 : ∀ e u, cu19 e = some u → C19.bys u ≤ Tryd.prog.bytesOf e := by
  intro e u h
  unfold cu19 at h
  split at h <;> first | (cases h; exact Nat.le_of_ble_eq_true (by kernel_rfl)) | cases h
def kd19 : Kinds (T := C19) Tryd.prog cu19 := ⟨ks19, ksdec19, 20, kflat19, kb19⟩
def base19 : Base (T := C19) Tryd.prog cu19 := ⟨by kernel_rfl, by kernel_rfl, by kernel_rfl, kd19⟩
theorem own19 : ownKnob Tryd.prog.godebug = none := by kernel_rfl
abbrev FU : Nat := 18446744073709551616
end Go.G
