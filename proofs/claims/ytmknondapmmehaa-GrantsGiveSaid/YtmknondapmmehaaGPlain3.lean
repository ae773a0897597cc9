import Derived.Test.YtmknondapmmehaaGPlain2
import Derived.Test.YtmknondapmmehaaGGlue2
set_option linter.unusedVariables false
set_option linter.unusedSimpArgs false
namespace Go.G
theorem wfd_u8 {T : Uni} {n : Int} (h : WfD T (.int .u8 n)) : 0 ≤ n ∧ n ≤ 255 := by
  cases h with
  | int _ _ h => simp [Lit.wf, IntKind.min, IntKind.max, IntKind.bits, IntKind.signed] at h; omega
theorem wfd_i64 {T : Uni} {n : Int} (h : WfD T (.int .i64 n)) : -9223372036854775808 ≤ n ∧ n ≤ 9223372036854775807 := by
  cases h with
  | int _ _ h => simp [Lit.wf, IntKind.min, IntKind.max, IntKind.bits, IntKind.signed] at h; omega
theorem wfa_mem {T : Uni} {As : List (Lp T)} {x : tyL As} (h : WfA As x) {c : CV T} (hq : (.one c) ∈ embPs As x) : WfC c := h _ hq
end Go.G
