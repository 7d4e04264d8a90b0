/- Walks of functions of the program and of the reference, and their plain laws, part 15. Conditions: the theorems' own. -/
import Derived.Test.YtbdfboojnfinkaaGreatM14
import Derived.KernelRfl
set_option maxRecDepth 1000000
set_option maxHeartbeats 16000000
namespace Go.Proofs.YtbdfboojnfinkaaGreat
open Go Go.Ev
theorem eSA:kJ 1000 ZO kS0=some kSA:=by kernel_rfl
theorem eSB:kJ 1000 lSB kSA=some kSB:=by kernel_rfl
theorem eSP:kJ 1000 lSP kSB=some ZP:=by kernel_rfl
end Go.Proofs.YtbdfboojnfinkaaGreat
