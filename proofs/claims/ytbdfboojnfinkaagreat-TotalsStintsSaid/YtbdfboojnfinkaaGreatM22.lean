/- Walks of functions of the program and of the reference, and their plain laws, part 22. Conditions: the theorems' own. -/
import Derived.Test.YtbdfboojnfinkaaGreatM20
import Derived.KernelRfl
set_option maxRecDepth 1000000
set_option linter.unusedSimpArgs false
set_option linter.unusedVariables false
set_option maxHeartbeats 16000000
namespace Go.Proofs.YtbdfboojnfinkaaGreat
open Go Go.Ev
theorem va0: ∃s,hZ pE 53 [.agg (mA ZP)] []=some (.i .i64 0,s):=nD (m:=1000) (by rw[←mc];kernel_rfl)
theorem va1: ∃s,hZ pE 53 [.agg (mA kS1)] []=some (.i .i64 0,s):=nD (m:=1000) (by rw[←mc];kernel_rfl)
theorem va2: ∃s,hZ pE 53 [.agg (mA kS2)] []=some (.i .i64 0,s):=nD (m:=1000) (by rw[←mc];kernel_rfl)
theorem va3: ∃s,hZ pE 53 [.agg (mA kS3)] []=some (.i .i64 0,s):=nD (m:=1000) (by rw[←mc];kernel_rfl)
theorem va4: ∃s,hZ pE 53 [.agg (mA kS4)] []=some (.i .i64 0,s):=nD (m:=1000) (by rw[←mc];kernel_rfl)
theorem va5: ∃s,hZ pE 53 [.agg (mA kS5)] []=some (.i .i64 0,s):=nD (m:=1000) (by rw[←mc];kernel_rfl)
end Go.Proofs.YtbdfboojnfinkaaGreat
