import Derived.Test.YtbldiioafmcbmaaGGlue2
import Derived.Test.YtbldiioafmcbmaaUni14
import Derived.KernelRfl
import Derived.Test.YtbldiioafmcbmaaRows
set_option linter.unusedVariables false
set_option linter.unusedSimpArgs false
set_option maxRecDepth 100000
namespace Go.G
open Go.Proofs Go.Proofs.Ytbldiioafmcbmaa
def ks14 : U14 → List (Pt C14)
  | .alarm => [.int .i64, .int .i64]
  | .i64 => [.int .i64]
theorem ksdec14 : ∀ (u : U14) (ds : List (DV C14.toSig)), ksOK (ks14 u) ds → ∃ a, C14.dec u ds = some a := by
  intro u ds h
  cases u
  case alarm =>
    match ds, h with
    | [d0, d1], h =>
      obtain ⟨h0, h1, _⟩ := h
      cases d0 <;> first | exact h0.elim | skip
      cases d1 <;> first | exact h1.elim | skip
      cases h0
      cases h1
      exact ⟨_, rfl⟩
  case i64 =>
    match ds, h with
    | [d0], h =>
      obtain ⟨h0, _⟩ := h
      cases d0 <;> first | exact h0.elim | skip
      cases h0
      exact ⟨_, rfl⟩
theorem kflat14 : ∀ e u, cu14 e = some u → flat Try.prog cu14 20 e = some (ks14 u) := by
  intro e u h
  unfold cu14 at h
  split at h <;> first | (cases h; kernel_rfl) | cases h
def kd14 : Kinds (T := C14) Try.prog cu14 := ⟨ks14, ksdec14, 20, kflat14⟩
def base14 : Base (T := C14) Try.prog cu14 := ⟨by kernel_rfl, by kernel_rfl, by kernel_rfl, kd14⟩
theorem own14 : ownKnob Try.prog.godebug = none := by kernel_rfl
abbrev FU : Nat := 18446744073709551616
end Go.G
