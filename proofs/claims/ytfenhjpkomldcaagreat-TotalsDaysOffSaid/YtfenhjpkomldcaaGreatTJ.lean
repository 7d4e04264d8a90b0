/- The breaches of limits, whole. Conditions: none beyond the theorems' own. -/
import Derived.Test.YtfenhjpkomldcaaGreatTI
set_option maxRecDepth 100000
set_option linter.unusedSimpArgs false
set_option linter.unusedVariables false
namespace Go.Proofs.YtfenhjpkomldcaaGreat
open Go Go.Ev
/-- A breach of a limit, as cells. -/
def brC (i : Int) (d : Int) : List T := [.b false, .i .i64 i, .i .i64 d]
/-- The keys in order. -/
def keysOf (D : Int) (l : List (Int × Int)) : List Int := sortI ((psOf D l).map (·.1))
end Go.Proofs.YtfenhjpkomldcaaGreat
