/- A call with closed arguments, evaluated. Conditions: none. -/
import Derived.Test.YtfenhjpkomldcaaGreatPEnv
set_option maxRecDepth 1000000
namespace Go.Proofs.YtfenhjpkomldcaaGreat
open Go Go.Ev
theorem ev32 : callF pE 1000 32 [] [] = some ((.b true), []) := by_callK (by kernel_rfl)
end Go.Proofs.YtfenhjpkomldcaaGreat
