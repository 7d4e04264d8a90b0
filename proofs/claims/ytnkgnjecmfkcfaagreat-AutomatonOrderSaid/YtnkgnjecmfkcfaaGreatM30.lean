/- Walks of functions of the program and of the reference, and their plain laws, part 30. Conditions: the theorems' own. -/
import Derived.Test.YtnkgnjecmfkcfaaGreatGS
import Derived.Test.YtnkgnjecmfkcfaaGreatM28
import Derived.KernelRfl
set_option maxRecDepth 1000000
set_option linter.unusedVariables false
set_option maxHeartbeats 16000000
namespace Go.Proofs.YtnkgnjecmfkcfaaGreat
open Go Go.Ev
def exV:List Ex:=prC.map (fun p=>kb 0 p.2)++((nw.drop 27).take 1).flatMap fun p=> [kb 0 p.2,kb 1 p.2,kb 2 p.2]
theorem vlK: ∀x∈exV,∃s,ae pE 215 [.agg (mR x)] []=some (.i .i64 0,s):=dK _ _ _ _ (by kernel_rfl)
end Go.Proofs.YtnkgnjecmfkcfaaGreat
