import Derived.Test.YtmbblacaodapcaaP10e
import Derived.Test.YtmbblacaodapcaaP10aw
set_option linter.unusedVariables false
set_option linter.unusedSimpArgs false
namespace Go.G
theorem openF_len (l : List Window10) (w : Window10) : (openF l w).1.length ≤ l.length + 1 := by
  unfold openF
  cases validB l <;> cases prpW w <;> cases l.any (keyB w.Device w.Tag) <;> cases l.any (cfl w) <;> simp
  omega
end Go.G
