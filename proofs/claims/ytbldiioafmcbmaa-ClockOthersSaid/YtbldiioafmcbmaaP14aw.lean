import Derived.Test.YtbldiioafmcbmaaP14e
import Derived.Test.YtbldiioafmcbmaaGlue14
set_option linter.unusedVariables false
set_option linter.unusedSimpArgs false
namespace Go.G
set_option maxRecDepth 100000
theorem aw14 : s9 FU = some (true, ()) := by kernel_rfl
def newF (a : Int) : (Int × List Alarm14 × Unit) × Int × Unit := bif ilt a 0 || ilt 1099511627776 a then (stT 0 [], 2, ()) else (stT a [], 0, ())
theorem new14 (fu : Nat) (a : Int) : s18 fu a = some (newF a) := by
  unfold s18 newF
  cases ilt a 0 <;> cases ilt 1099511627776 a <;> rfl
theorem newR (fu : Nat) (a : Int) : s19 fu a = some (newF a) := by
  unfold s19 newF
  cases ilt a 0 <;> cases ilt 1099511627776 a <;> rfl
theorem newF_len (a : Int) : (newF a).1.2.1.length = 0 := by
  unfold newF
  cases ilt a 0 <;> cases ilt 1099511627776 a <;> rfl
theorem eqS_self (n : Int) (l : List Alarm14) : eqS n l n l = true := by simp [eqS, ieq]
end Go.G
