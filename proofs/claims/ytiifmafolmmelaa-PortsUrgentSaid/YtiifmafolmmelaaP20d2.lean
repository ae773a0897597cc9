import Derived.Test.YtiifmafolmmelaaP20d
set_option linter.unusedVariables false
set_option linter.unusedSimpArgs false
namespace Go.G
set_option maxRecDepth 100000
theorem aw20 : s9 FU = some (true, ()) := by kernel_rfl
theorem fewB_pairs {q : List Msg20} {p : List Pair20} (h : fewB q p = true) : p.length ≤ 300 := by
  unfold fewB at h
  rw [Bool.and_eq_true, ile_iff, ile_iff, dlen_def] at h
  omega
end Go.G
