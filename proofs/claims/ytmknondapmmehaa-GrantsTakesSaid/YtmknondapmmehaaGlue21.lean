import Derived.Test.YtmknondapmmehaaGE5
import Derived.Test.YtmknondapmmehaaUni21
import Derived.KernelRfl
import Derived.Test.YtmknondapmmehaaRows
set_option linter.unusedVariables false
set_option linter.unusedSimpArgs false
set_option maxRecDepth 100000
namespace Go.G
open Go.Proofs Go.Proofs.Ytmknondapmmehaa
def ks21 : U21 → List (Pt C21)
  | .grant => [.int .i64, .int .i64, .int .i64, .int .i64]
  | .i64 => [.int .i64]
  | .bool => [.bool]
theorem ksdec21 : ∀ (u : U21) (ds : List (DV C21.toSig)), ksOK (ks21 u) ds → ∃ a, C21.dec u ds = some a := by
  intro u ds h
  cases u
  case grant =>
    match ds, h with
    | [d0, d1, d2, d3], h =>
      obtain ⟨h0, h1, h2, h3, _⟩ := h
      cases d0 <;> first | exact h0.elim | skip
      cases d1 <;> first | exact h1.elim | skip
      cases d2 <;> first | exact h2.elim | skip
      cases d3 <;> first | exact h3.elim | skip
      cases h0
      cases h1
      cases h2
      cases h3
      exact ⟨_, rfl⟩
  case i64 =>
    match ds, h with
    | [d0], h =>
      obtain ⟨h0, _⟩ := h
      cases d0 <;> first | exact h0.elim | skip
      cases h0
      exact ⟨_, rfl⟩
  case bool =>
    match ds, h with
    | [d0], h =>
      obtain ⟨h0, _⟩ := h
      cases d0 <;> first | exact h0.elim | skip
      exact ⟨_, rfl⟩
theorem kflat21 : ∀ e u, cu21 e = some u → flat Try.prog cu21 20 e = some (ks21 u) := by
  intro e u h
  unfold cu21 at h
  split at h <;> first | (cases h; kernel_rfl) | cases h
def kd21 : Kinds (T := C21) Try.prog cu21 := ⟨ks21, ksdec21, 20, kflat21⟩
def base21 : Base (T := C21) Try.prog cu21 := ⟨by kernel_rfl, by kernel_rfl, by kernel_rfl, kd21⟩
theorem own21 : ownKnob Try.prog.godebug = none := by kernel_rfl
abbrev FU : Nat := 18446744073709551616
end Go.G
