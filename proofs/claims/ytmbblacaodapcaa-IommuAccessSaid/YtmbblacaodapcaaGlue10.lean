import Derived.Test.YtmbblacaodapcaaGGlue2
import Derived.Test.YtmbblacaodapcaaUni10
import Derived.KernelRfl
import Derived.Test.YtmbblacaodapcaaRows
set_option linter.unusedVariables false
set_option linter.unusedSimpArgs false
set_option maxRecDepth 100000
namespace Go.G
open Go.Proofs Go.Proofs.Ytmbblacaodapcaa
def ks10 : U10 → List (Pt C10)
  | .window => [.int .i64, .int .i64, .int .i64, .bool]
  | .i64 => [.int .i64]
theorem ksdec10 : ∀ (u : U10) (ds : List (DV C10.toSig)), ksOK (ks10 u) ds → ∃ a, C10.dec u ds = some a := by
  intro u ds h
  cases u
  case window =>
    match ds, h with
    | [d0, d1, d2, d3], h =>
      obtain ⟨h0, h1, h2, h3, _⟩ := h
      cases d0 <;> first | exact h0.elim | skip
      cases d1 <;> first | exact h1.elim | skip
      cases d2 <;> first | exact h2.elim | skip
      cases d3 <;> first | exact h3.elim | skip
      cases h0
      cases h1
      cases h2
      exact ⟨_, rfl⟩
  case i64 =>
    match ds, h with
    | [d0], h =>
      obtain ⟨h0, _⟩ := h
      cases d0 <;> first | exact h0.elim | skip
      cases h0
      exact ⟨_, rfl⟩
theorem kflat10 : ∀ e u, cu10 e = some u → flat Try.prog cu10 20 e = some (ks10 u) := by
  intro e u h
  unfold cu10 at h
  split at h <;> first | (cases h; kernel_rfl) | cases h
def kd10 : Kinds (T := C10) Try.prog cu10 := ⟨ks10, ksdec10, 20, kflat10⟩
def base10 : Base (T := C10) Try.prog cu10 := ⟨by kernel_rfl, by kernel_rfl, by kernel_rfl, kd10⟩
theorem own10 : ownKnob Try.prog.godebug = none := by kernel_rfl
abbrev FU : Nat := 18446744073709551616
end Go.G
