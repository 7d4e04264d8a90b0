/- Walks of functions of the program and of the reference, and their plain laws, part 19. Conditions: the theorems' own. -/
import Derived.Test.YtbdfboojnfinkaaGreatM14
import Derived.KernelRfl
set_option maxRecDepth 1000000
set_option maxHeartbeats 16000000
namespace Go.Proofs.YtbdfboojnfinkaaGreat
open Go Go.Ev
theorem avY:kJ 1000 agq kS0=some apg:=by kernel_rfl
theorem avZ:kJ 1000 agr apg=some aph:=by kernel_rfl
theorem eS5:kJ 1000 lS5 aph=some kS5:=by kernel_rfl
end Go.Proofs.YtbdfboojnfinkaaGreat
