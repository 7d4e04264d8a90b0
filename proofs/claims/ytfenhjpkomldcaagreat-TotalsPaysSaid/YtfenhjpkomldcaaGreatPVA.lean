/- A call with closed arguments, evaluated. Conditions: none. -/
import Derived.Test.YtfenhjpkomldcaaGreatPEnv
set_option maxRecDepth 1000000
namespace Go.Proofs.YtfenhjpkomldcaaGreat
open Go Go.Ev
theorem ev38 : callF pE 1000 38 [.i .i64 0] [] = some (K0, []) := by_callK (by kernel_rfl)
end Go.Proofs.YtfenhjpkomldcaaGreat
