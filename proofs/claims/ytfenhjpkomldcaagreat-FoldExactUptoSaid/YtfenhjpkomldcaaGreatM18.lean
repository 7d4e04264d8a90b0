/- ZO: the loops of SimplifyContract, the program. Conditions: the theorems' own. -/
import Derived.Test.YtfenhjpkomldcaaGreatM17
import Derived.KernelRfl
set_option maxRecDepth 100000
set_option linter.unusedSimpArgs false
set_option linter.unusedVariables false
set_option maxHeartbeats 16000000
namespace Go.Proofs.YtfenhjpkomldcaaGreat
open Go Go.Ev
section
variable(c:Ct)(a7 a8 a9 oJ oK oL:T)(hT:BZ c a7 a8 a9 oJ oK oL)(hS:su c)
include hT hS
end
end Go.Proofs.YtfenhjpkomldcaaGreat
