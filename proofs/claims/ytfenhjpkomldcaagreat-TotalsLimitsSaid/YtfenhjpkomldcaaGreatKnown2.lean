/- A call with closed arguments, evaluated by the kernel. Conditions: none. -/
import Derived.Test.YtfenhjpkomldcaaGreatTC

set_option maxRecDepth 1000000
namespace Go.Proofs.YtfenhjpkomldcaaGreat
open Go Go.Ev
set_option maxHeartbeats 0 in
theorem known_ev : ∃ s, DCall pE 32 [] [] = some (.b true, s) := dval_of (m := 1000) (by rw [← callK_eq]; kernel_rfl)
end Go.Proofs.YtfenhjpkomldcaaGreat
