/- Walks, plain laws (16). Conditions: the theorems' own. -/
import Derived.Test.YtnkgnjecmfkcfaaGreatM15
set_option maxRecDepth 1000000
set_option linter.all false
set_option maxHeartbeats 16000000
namespace Go.Proofs.YtnkgnjecmfkcfaaGreat
open Go Go.Ev
theorem s2: ∀l∈hls,ScK l:=dK _ _ _ _
theorem s3: ∀l∈nW.take 6,ScK l:=dK _ _ _ _
theorem s4: ∀l∈(nW.drop 6).take 6,ScK l:=dK _ _ _ _
theorem s5: ∀l∈(nW.drop 6).drop 6,ScK l:=dK _ _ _ _
end Go.Proofs.YtnkgnjecmfkcfaaGreat
