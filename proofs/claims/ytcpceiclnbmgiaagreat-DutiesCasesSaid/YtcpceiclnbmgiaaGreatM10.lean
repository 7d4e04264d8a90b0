/- Walks of functions of the program and of the reference, and their plain laws, part 10. Conditions: the theorems' own. -/
import Derived.Test.YtcpceiclnbmgiaaGreatGS
import Derived.Test.YtcpceiclnbmgiaaGreatM1
import Derived.Test.YtcpceiclnbmgiaaGreatM6
import Derived.KernelRfl
set_option maxRecDepth 1000000
set_option linter.unusedVariables false
set_option maxHeartbeats 16000000
namespace Go.Proofs.YtcpceiclnbmgiaaGreat
open Go Go.Ev
theorem aEQ(e:Bool): ∀p∈(Ea.drop 0).take 8,ae pE 156 [vB e 2,.i .i64 p.1,.agg (kz p.2)] []=some (.tup [.i .i64 (dc (sg 2) p.1 p.2).1,.i .i64 (dc (sg 2) p.1 p.2).2],[]):=L3 _ _ _ _ (by kernel_rfl)
theorem aER(e:Bool): ∀p∈(Ea.drop 8).take 8,ae pE 156 [vB e 2,.i .i64 p.1,.agg (kz p.2)] []=some (.tup [.i .i64 (dc (sg 2) p.1 p.2).1,.i .i64 (dc (sg 2) p.1 p.2).2],[]):=L3 _ _ _ _ (by kernel_rfl)
theorem aES(e:Bool): ∀p∈(Ea.drop 16).take 8,ae pE 156 [vB e 2,.i .i64 p.1,.agg (kz p.2)] []=some (.tup [.i .i64 (dc (sg 2) p.1 p.2).1,.i .i64 (dc (sg 2) p.1 p.2).2],[]):=L3 _ _ _ _ (by kernel_rfl)
theorem aET(e:Bool): ∀p∈Ea.drop 24,ae pE 156 [vB e 2,.i .i64 p.1,.agg (kz p.2)] []=some (.tup [.i .i64 (dc (sg 2) p.1 p.2).1,.i .i64 (dc (sg 2) p.1 p.2).2],[]):=L3 _ _ _ _ (by kernel_rfl)
end Go.Proofs.YtcpceiclnbmgiaaGreat
