/- Walks of functions of the program and of the reference, and their plain laws, part 18. Conditions: the theorems' own. -/
import Derived.Test.YtbdfboojnfinkaaGreatM14
import Derived.KernelRfl
set_option maxRecDepth 1000000
set_option maxHeartbeats 16000000
namespace Go.Proofs.YtbdfboojnfinkaaGreat
open Go Go.Ev
theorem avX:kJ 1000 ago kS0=some apf:=by kernel_rfl
theorem eS4:kJ 1000 lS4 apf=some kS4:=by kernel_rfl
end Go.Proofs.YtbdfboojnfinkaaGreat
