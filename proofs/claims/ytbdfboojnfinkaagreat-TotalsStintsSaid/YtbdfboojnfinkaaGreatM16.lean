/- Walks of functions of the program and of the reference, and their plain laws, part 16. Conditions: the theorems' own. -/
import Derived.Test.YtbdfboojnfinkaaGreatM14
import Derived.KernelRfl
set_option maxRecDepth 1000000
set_option maxHeartbeats 16000000
namespace Go.Proofs.YtbdfboojnfinkaaGreat
open Go Go.Ev
theorem avU:kJ 1000 agi kSA=some apc:=by kernel_rfl
theorem eS1:kJ 1000 lS1 apc=some kS1:=by kernel_rfl
theorem avV:kJ 1000 agk ZP=some apd:=by kernel_rfl
end Go.Proofs.YtbdfboojnfinkaaGreat
