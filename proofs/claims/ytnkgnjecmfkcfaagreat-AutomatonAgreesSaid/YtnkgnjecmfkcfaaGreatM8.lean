/- Walks of functions of the program and of the reference, and their plain laws, part 8. Conditions: the theorems' own. -/
import Derived.Test.YtnkgnjecmfkcfaaGreatGS
import Derived.Test.YtnkgnjecmfkcfaaGreatM1
import Derived.Test.YtnkgnjecmfkcfaaGreatM5
import Derived.KernelRfl
set_option maxRecDepth 1000000
set_option linter.unusedVariables false
set_option maxHeartbeats 16000000
namespace Go.Proofs.YtnkgnjecmfkcfaaGreat
open Go Go.Ev
theorem aCo(e:Bool): ∀p∈(DX.drop 0).take 8,ae pE 102 [vB e 1,.i .i64 p.1,.agg (jJ p.2)] []=some (.tup [.i .i64 (cP (rO 1) p.1 p.2).1,.i .i64 (cP (rO 1) p.1 p.2).2],[]):=LZ _ _ _ _ (by kernel_rfl)
theorem aCp(e:Bool): ∀p∈(DX.drop 8).take 8,ae pE 102 [vB e 1,.i .i64 p.1,.agg (jJ p.2)] []=some (.tup [.i .i64 (cP (rO 1) p.1 p.2).1,.i .i64 (cP (rO 1) p.1 p.2).2],[]):=LZ _ _ _ _ (by kernel_rfl)
theorem aCq(e:Bool): ∀p∈(DX.drop 16).take 8,ae pE 102 [vB e 1,.i .i64 p.1,.agg (jJ p.2)] []=some (.tup [.i .i64 (cP (rO 1) p.1 p.2).1,.i .i64 (cP (rO 1) p.1 p.2).2],[]):=LZ _ _ _ _ (by kernel_rfl)
theorem aCr(e:Bool): ∀p∈DX.drop 24,ae pE 102 [vB e 1,.i .i64 p.1,.agg (jJ p.2)] []=some (.tup [.i .i64 (cP (rO 1) p.1 p.2).1,.i .i64 (cP (rO 1) p.1 p.2).2],[]):=LZ _ _ _ _ (by kernel_rfl)
end Go.Proofs.YtnkgnjecmfkcfaaGreat
