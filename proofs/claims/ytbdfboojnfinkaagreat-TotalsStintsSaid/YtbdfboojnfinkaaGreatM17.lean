/- Walks of functions of the program and of the reference, and their plain laws, part 17. Conditions: the theorems' own. -/
import Derived.Test.YtbdfboojnfinkaaGreatM14
import Derived.KernelRfl
set_option maxRecDepth 1000000
set_option maxHeartbeats 16000000
namespace Go.Proofs.YtbdfboojnfinkaaGreat
open Go Go.Ev
theorem eS2:kJ 1000 lS2 apd=some kS2:=by kernel_rfl
theorem avW:kJ 1000 agm ZP=some ape:=by kernel_rfl
theorem eS3:kJ 1000 lS3 ape=some kS3:=by kernel_rfl
end Go.Proofs.YtbdfboojnfinkaaGreat
