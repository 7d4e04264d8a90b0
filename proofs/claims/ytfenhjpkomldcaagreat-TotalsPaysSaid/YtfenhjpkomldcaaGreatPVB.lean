/- A call with closed arguments, evaluated. Conditions: none. -/
import Derived.Test.YtfenhjpkomldcaaGreatPEnv
set_option maxRecDepth 1000000
namespace Go.Proofs.YtfenhjpkomldcaaGreat
open Go Go.Ev
theorem ev40 : callF pE 1000 40 [K0] [] = some ((.i .i64 0), []) := by_callK (by kernel_rfl)
end Go.Proofs.YtfenhjpkomldcaaGreat
