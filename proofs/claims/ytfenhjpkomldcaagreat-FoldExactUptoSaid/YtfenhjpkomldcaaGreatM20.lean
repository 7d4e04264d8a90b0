/- Both SimplifyContract. Equal contracts are found equal. Conditions: the theorems' own. -/
import Derived.Test.YtfenhjpkomldcaaGreatM19
import Derived.KernelRfl
set_option maxRecDepth 100000
set_option linter.unusedSimpArgs false
set_option linter.unusedVariables false
set_option maxHeartbeats 16000000
namespace Go.Proofs.YtfenhjpkomldcaaGreat
open Go Go.Ev
section
variable(c:Ct)(a7 a8 a9 oJ oK oL:T)(hT:BZ c a7 a8 a9 oJ oK oL)(hS:su c)
include hT hS
end
end Go.Proofs.YtfenhjpkomldcaaGreat
namespace Go.Proofs.YtfenhjpkomldcaaGreat
open Go Go.Ev
structure CtB (c:Ct):Prop where
 b7:c.cs= []
 b8:(∀u∈c.ru,u.x.nodes≤100000)∧c.ru.length≤gi
 b9:(∀u∈c.co,u.x.nodes≤100000)∧c.co.length≤gi
 b10:(∀x∈c.cr,x.nodes≤100000)∧c.cr.length≤gi
 b11:c.li.length≤gi
 b12:c.fs.length≤gi
section
variable(c:Ct)(a7 a8 a9 oJ oK oL:T)(hT:BZ c a7 a8 a9 oJ oK oL)(d7 d8 d9 d10 d11 d12:T)(hD:BZ c d7 d8 d9 d10 d11 d12)(hB:CtB c)
include hT hD hB
end
end Go.Proofs.YtfenhjpkomldcaaGreat
