/- Walks of functions of the program and of the reference, and their plain laws, part 8. Conditions: the theorems' own. -/
import Derived.Test.YtnkgnjecmfkcfaaGreatGS
import Derived.Test.YtnkgnjecmfkcfaaGreatM1
import Derived.Test.YtnkgnjecmfkcfaaGreatM5
import Derived.KernelRfl
set_option maxRecDepth 1000000
set_option linter.unusedVariables false
set_option maxHeartbeats 16000000
namespace Go.Proofs.YtnkgnjecmfkcfaaGreat
open Go Go.Ev
theorem aEJ(e:Bool): ∀p∈(nw.drop 0).take 8,ae pE 102 [vB e 2,.i .i64 p.1,.agg (fw p.2)] []=some (.tup [.i .i64 (cg (jL 2) p.1 p.2).1,.i .i64 (cg (jL 2) p.1 p.2).2],[]):=Lq _ _ _ _ (by kernel_rfl)
theorem aEK(e:Bool): ∀p∈(nw.drop 8).take 8,ae pE 102 [vB e 2,.i .i64 p.1,.agg (fw p.2)] []=some (.tup [.i .i64 (cg (jL 2) p.1 p.2).1,.i .i64 (cg (jL 2) p.1 p.2).2],[]):=Lq _ _ _ _ (by kernel_rfl)
theorem aEL(e:Bool): ∀p∈(nw.drop 16).take 8,ae pE 102 [vB e 2,.i .i64 p.1,.agg (fw p.2)] []=some (.tup [.i .i64 (cg (jL 2) p.1 p.2).1,.i .i64 (cg (jL 2) p.1 p.2).2],[]):=Lq _ _ _ _ (by kernel_rfl)
theorem aEM(e:Bool): ∀p∈nw.drop 24,ae pE 102 [vB e 2,.i .i64 p.1,.agg (fw p.2)] []=some (.tup [.i .i64 (cg (jL 2) p.1 p.2).1,.i .i64 (cg (jL 2) p.1 p.2).2],[]):=Lq _ _ _ _ (by kernel_rfl)
end Go.Proofs.YtnkgnjecmfkcfaaGreat
