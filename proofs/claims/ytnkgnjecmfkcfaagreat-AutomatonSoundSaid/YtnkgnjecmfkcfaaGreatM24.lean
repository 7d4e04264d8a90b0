/- Walks, plain laws (24). Conditions: the theorems' own. -/
import Derived.Test.YtnkgnjecmfkcfaaGreatM15
set_option maxRecDepth 1000000
set_option linter.all false
set_option maxHeartbeats 16000000
namespace Go.Proofs.YtnkgnjecmfkcfaaGreat
open Go Go.Ev
theorem e3: ∀l∈(ruX.drop 6).drop 6,PaK 4 l:=dK _ _ _ _
theorem e4: ∀l∈koX.take 8,PaK 3 l:=dK _ _ _ _
theorem e5: ∀l∈koX.drop 8,PaK 3 l:=dK _ _ _ _
end Go.Proofs.YtnkgnjecmfkcfaaGreat
