import Derived.Test.YtjmhaeegcaapeaaP12b
set_option linter.unusedVariables false
set_option linter.unusedSimpArgs false
namespace Go.G
set_option maxRecDepth 100000
abbrev TT := Unit × Int × Int × Int × Unit × Unit × Bool × Int × Int × Int × Unit × Int × Int × Unit × Bool × Int × Int × Int × Unit × Int × Int × Unit × Unit
abbrev BB := List Int × Int × Int × Int × Unit × Unit × Bool × Int × Int × Int × List Int × Int × Int × List Int × Bool × Int × Int × Int × List Int × Int × Int × List Int × Unit
theorem cutk {α : Type} (l : List α) {k : Nat} (h : k ≤ l.length) : dcut l (k : Int) (oadd (k : Int) (osub (dlen l) (k : Int))) = l.drop k := by
  simp only [dcut, oadd, osub, dlen_def]
  rw [show ((k : Int) + ((l.length : Int) - (k : Int))).toNat = l.length by omega, List.take_length, Int.toNat_natCast]
theorem cut1 {α : Type} (l : List α) (h : 1 ≤ l.length) : dcut l 1 (oadd 1 (osub (dlen l) 1)) = l.drop 1 := cutk l (k := 1) h
end Go.G
