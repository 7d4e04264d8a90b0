/- Walks, plain laws (20). Conditions: the theorems' own. -/
import Derived.Test.YtnkgnjecmfkcfaaGreatM15
set_option maxRecDepth 1000000
set_option linter.all false
set_option maxHeartbeats 16000000
namespace Go.Proofs.YtnkgnjecmfkcfaaGreat
open Go Go.Ev
theorem s6: ∀l∈(nY++tg).take 7,ScK l:=dK _ _ _ _
theorem s7: ∀l∈(nY++tg).drop 7,ScK l:=dK _ _ _ _
theorem e1: ∀l∈ruX.take 6,PaK 4 l:=dK _ _ _ _
theorem e2: ∀l∈(ruX.drop 6).take 6,PaK 4 l:=dK _ _ _ _
end Go.Proofs.YtnkgnjecmfkcfaaGreat
