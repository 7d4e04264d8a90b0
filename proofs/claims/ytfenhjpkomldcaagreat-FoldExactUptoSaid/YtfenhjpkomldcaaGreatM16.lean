/- The reference's check of a contract's form: its loops. The reference's check of a contract's form, as a whole. The program's check of a contract's types. Conditions: the theorems' own. -/
import Derived.Test.YtfenhjpkomldcaaGreatM15
import Derived.KernelRfl
set_option maxRecDepth 100000
set_option linter.unusedSimpArgs false
set_option linter.unusedVariables false
set_option maxHeartbeats 16000000
namespace Go.Proofs.YtfenhjpkomldcaaGreat
open Go Go.Ev
section
variable(c:Ct)(a7 a8 a9 oJ oK oL:T)(hT:BZ c a7 a8 a9 oJ oK oL)(hS:su c)
include hT hS
end
end Go.Proofs.YtfenhjpkomldcaaGreat
namespace Go.Proofs.YtfenhjpkomldcaaGreat
open Go Go.Ev
section
variable(c:Ct)(a7 a8 a9 oJ oK oL:T)(hT:BZ c a7 a8 a9 oJ oK oL)(hS:su c)
include hT hS
end
end Go.Proofs.YtfenhjpkomldcaaGreat
namespace Go.Proofs.YtfenhjpkomldcaaGreat
open Go Go.Ev
def kn3(s:List Nat):Prop:=dE 1 s≠0∨dE 2 s≠0∨dE 3 s≠0
instance (s:List Nat):Decidable (kn3 s):=by unfold kn3;infer_instance
section
variable(l:Cs)(lT:T)(cl:List T)(hl:aN lT l.length cl)(dq:df l cl)(hlen:l.length≤gi)(j7:DQ l)
include hl dq hlen j7
end
section
variable(c:Ct)(a7 a8 a9 oJ oK oL:T)(hT:BZ c a7 a8 a9 oJ oK oL)(hS:su c)
include hT hS
end
end Go.Proofs.YtfenhjpkomldcaaGreat
