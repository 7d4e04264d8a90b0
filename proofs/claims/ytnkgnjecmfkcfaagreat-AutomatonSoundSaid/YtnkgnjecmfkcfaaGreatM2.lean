/- Walks, plain laws (2). Conditions: the theorems' own. -/
import Derived.Test.YtnkgnjecmfkcfaaGreatM1
set_option maxRecDepth 1000000
set_option linter.all false
set_option maxHeartbeats 16000000
namespace Go.Proofs.YtnkgnjecmfkcfaaGreat
open Go Go.Ev
def pvB: ∀x∈exB,∃s,ae pE 215 [.agg (fN x)] []=some (qi (bM x),s):=dK _ _ _ _
def rvB: ∀x∈exB,ae pE 175 [.agg (fN x)] []=some (qi (bM x),[]):=NG _ _ _ _
end Go.Proofs.YtnkgnjecmfkcfaaGreat
