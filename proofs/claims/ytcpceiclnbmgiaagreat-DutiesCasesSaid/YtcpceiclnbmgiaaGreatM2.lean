/- Walks of functions of the program and of the reference, and their plain laws, part 2. Conditions: the theorems' own. -/
import Derived.Test.YtcpceiclnbmgiaaGreatGS
import Derived.Test.YtcpceiclnbmgiaaGreatM1
import Derived.KernelRfl
set_option maxRecDepth 1000000
set_option linter.unusedVariables false
set_option maxHeartbeats 16000000
namespace Go.Proofs.YtcpceiclnbmgiaaGreat
open Go Go.Ev
theorem pvB: ∀x∈exB,∃s,ae pE 141 [.agg (kz x)] []=some (.i .i64 (bW x),s):=dK _ _ _ _ (by kernel_rfl)
end Go.Proofs.YtcpceiclnbmgiaaGreat
