/- totals.Limits and totals.DaysOff at the built contracts. Conditions: none beyond the theorems' own. -/
import Derived.Test.YtfenhjpkomldcaaGreatTM
import Derived.Test.YtfenhjpkomldcaaGreatTV
set_option maxRecDepth 100000
set_option linter.unusedSimpArgs false
set_option linter.unusedVariables false
namespace Go.Proofs.YtfenhjpkomldcaaGreat
open Go Go.Ev
end Go.Proofs.YtfenhjpkomldcaaGreat
