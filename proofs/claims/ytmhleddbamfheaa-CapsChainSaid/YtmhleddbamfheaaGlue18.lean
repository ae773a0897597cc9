import Derived.Test.YtmhleddbamfheaaGGlue2
import Derived.Test.YtmhleddbamfheaaUni18
import Derived.KernelRfl
import Derived.Test.YtmhleddbamfheaaRows
set_option linter.unusedVariables false
set_option linter.unusedSimpArgs false
set_option maxRecDepth 100000
namespace Go.G
open Go.Proofs Go.Proofs.Ytmhleddbamfheaa
def ks18 : U18 → List (Pt C18)
  | .cap => [.int .i64, .int .i64, .int .i64, .int .i64, .int .i64, .int .i64]
  | .i64 => [.int .i64]
  | .line => [.int .i64, .int .i64, .int .i64, .sl U18.i64]
  | .right => [.int .i64, .int .i64, .int .i64]
  | .held => [.int .i64, .int .i64, .int .i64, .int .i64]
  | .bool => [.bool]
theorem ksdec18 : ∀ (u : U18) (ds : List (DV C18.toSig)), ksOK (ks18 u) ds → ∃ a, C18.dec u ds = some a := by
  intro u ds h
  cases u
  case cap =>
    match ds, h with
    | [d0, d1, d2, d3, d4, d5], h =>
      obtain ⟨h0, h1, h2, h3, h4, h5, _⟩ := h
      cases d0 <;> first | exact h0.elim | skip
      cases d1 <;> first | exact h1.elim | skip
      cases d2 <;> first | exact h2.elim | skip
      cases d3 <;> first | exact h3.elim | skip
      cases d4 <;> first | exact h4.elim | skip
      cases d5 <;> first | exact h5.elim | skip
      cases h0
      cases h1
      cases h2
      cases h3
      cases h4
      cases h5
      exact ⟨_, rfl⟩
  case i64 =>
    match ds, h with
    | [d0], h =>
      obtain ⟨h0, _⟩ := h
      cases d0 <;> first | exact h0.elim | skip
      cases h0
      exact ⟨_, rfl⟩
  case line =>
    match ds, h with
    | [d0, d1, d2, d3], h =>
      obtain ⟨h0, h1, h2, h3, _⟩ := h
      cases d0 <;> first | exact h0.elim | skip
      cases d1 <;> first | exact h1.elim | skip
      cases d2 <;> first | exact h2.elim | skip
      cases d3 <;> first | exact h3.elim | skip
      cases h0
      cases h1
      cases h2
      cases h3
      exact ⟨_, rfl⟩
  case right =>
    match ds, h with
    | [d0, d1, d2], h =>
      obtain ⟨h0, h1, h2, _⟩ := h
      cases d0 <;> first | exact h0.elim | skip
      cases d1 <;> first | exact h1.elim | skip
      cases d2 <;> first | exact h2.elim | skip
      cases h0
      cases h1
      cases h2
      exact ⟨_, rfl⟩
  case held =>
    match ds, h with
    | [d0, d1, d2, d3], h =>
      obtain ⟨h0, h1, h2, h3, _⟩ := h
      cases d0 <;> first | exact h0.elim | skip
      cases d1 <;> first | exact h1.elim | skip
      cases d2 <;> first | exact h2.elim | skip
      cases d3 <;> first | exact h3.elim | skip
      cases h0
      cases h1
      cases h2
      cases h3
      exact ⟨_, rfl⟩
  case bool =>
    match ds, h with
    | [d0], h =>
      obtain ⟨h0, _⟩ := h
      cases d0 <;> first | exact h0.elim | skip
      exact ⟨_, rfl⟩
theorem kflat18 : ∀ e u, cu18 e = some u → flat Try.prog cu18 20 e = some (ks18 u) := by
  intro e u h
  unfold cu18 at h
  split at h <;> first | (cases h; kernel_rfl) | cases h
def kd18 : Kinds (T := C18) Try.prog cu18 := ⟨ks18, ksdec18, 20, kflat18⟩
def base18 : Base (T := C18) Try.prog cu18 := ⟨by kernel_rfl, by kernel_rfl, by kernel_rfl, kd18⟩
theorem own18 : ownKnob Try.prog.godebug = none := by kernel_rfl
abbrev FU : Nat := 18446744073709551616
end Go.G
