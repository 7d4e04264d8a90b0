/- Walks of functions of the program and of the reference, and their plain laws, part 21. Conditions: the theorems' own. -/
import Derived.Test.YtbdfboojnfinkaaGreatM20
import Derived.KernelRfl
set_option maxRecDepth 1000000
set_option linter.unusedSimpArgs false
set_option linter.unusedVariables false
set_option maxHeartbeats 16000000
namespace Go.Proofs.YtbdfboojnfinkaaGreat
open Go Go.Ev
def al0:List (List Nat):=ZO++lSB++lSP
def al1:List (List Nat):=ZO++agi++lS1
def al2:List (List Nat):=ZO++lSB++lSP++agk++lS2
def al3:List (List Nat):=ZO++lSB++lSP++agm++lS3
def al4:List (List Nat):=ago++lS4
def al5:List (List Nat):=agq++agr++lS5
theorem li0: ∃s,hZ pE 50 [.s (DY al0)] []=some (.tup [.sl (strs al0) 9 false,.i .i64 0],s):=nD (m:=1000) (by rw[←mc];kernel_rfl)
theorem li1: ∃s,hZ pE 50 [.s (DY al1)] []=some (.tup [.sl (strs al1) 8 false,.i .i64 0],s):=nD (m:=1000) (by rw[←mc];kernel_rfl)
theorem li2: ∃s,hZ pE 50 [.s (DY al2)] []=some (.tup [.sl (strs al2) 11 false,.i .i64 0],s):=nD (m:=1000) (by rw[←mc];kernel_rfl)
theorem li3: ∃s,hZ pE 50 [.s (DY al3)] []=some (.tup [.sl (strs al3) 14 false,.i .i64 0],s):=nD (m:=1000) (by rw[←mc];kernel_rfl)
theorem li4: ∃s,hZ pE 50 [.s (DY al4)] []=some (.tup [.sl (strs al4) 6 false,.i .i64 0],s):=nD (m:=1000) (by rw[←mc];kernel_rfl)
theorem li5: ∃s,hZ pE 50 [.s (DY al5)] []=some (.tup [.sl (strs al5) 9 false,.i .i64 0],s):=nD (m:=1000) (by rw[←mc];kernel_rfl)
end Go.Proofs.YtbdfboojnfinkaaGreat
