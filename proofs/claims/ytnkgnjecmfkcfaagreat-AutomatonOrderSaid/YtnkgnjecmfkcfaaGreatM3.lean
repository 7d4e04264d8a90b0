/- Walks of functions of the program and of the reference, and their plain laws, part 3. Conditions: the theorems' own. -/
import Derived.Test.YtnkgnjecmfkcfaaGreatGS
import Derived.Test.YtnkgnjecmfkcfaaGreatM1
import Derived.KernelRfl
set_option maxRecDepth 1000000
set_option linter.unusedVariables false
set_option maxHeartbeats 16000000
namespace Go.Proofs.YtnkgnjecmfkcfaaGreat
open Go Go.Ev
theorem rvB: ∀x∈exB,ae pE 175 [.agg (fw x)] []=some (.i .i64 (bJ x),[]):=Lq _ _ _ _ (by kernel_rfl)
end Go.Proofs.YtnkgnjecmfkcfaaGreat
