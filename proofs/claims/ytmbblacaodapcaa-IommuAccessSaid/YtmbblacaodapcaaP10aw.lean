import Derived.Test.YtmbblacaodapcaaP10a
import Derived.Test.YtmbblacaodapcaaGlue10
set_option linter.unusedVariables false
set_option linter.unusedSimpArgs false
namespace Go.G
set_option maxRecDepth 100000
theorem aw10 : s9 FU = some (true, ()) := by kernel_rfl
end Go.G
