import Derived.Test.YtjmhaeegcaapeaaP12b0
set_option linter.unusedVariables false
set_option linter.unusedSimpArgs false
namespace Go.G
set_option maxRecDepth 100000
abbrev Fr (b : List Int) : Prop := 1 ≤ b.length ∧ b.length ≤ 128
theorem clone12 {α : Type} {bytes : Nat} (hb : bytes ≤ 1000) {l : List α} (h : l.length ≤ 1000) : dapp bytes [] l = some l := by
  refine dapp_nil ?_ (by omega)
  calc l.length * bytes ≤ 1000 * 1000 := Nat.mul_le_mul h hb
    _ ≤ _ := by omega
theorem s67_ok {fu : Nat} {o : Bool} {t op pl : Int} {d : List Int} {lt la : Int} {ld : List Int} (h1 : d.length ≤ 1000) (h2 : ld.length ≤ 1000) : s67 fu o t op pl d lt la ld = some ((o, (t, (op, (pl, (d, (lt, (la, (ld, ())))))))), ()) := by
  simp only [s67, clone12 (bytes := 1) (by omega) h1, clone12 (bytes := 1) (by omega) h2]
end Go.G
