/- Walks of functions of the program and of the reference, and their plain laws, part 19. Conditions: the theorems' own. -/
import Derived.Test.YtcpceiclnbmgiaaGreatM18
import Derived.KernelRfl
set_option maxRecDepth 100000
set_option linter.unusedSimpArgs false
set_option linter.unusedVariables false
set_option maxHeartbeats 16000000
namespace Go.Ev
open Go
end Go.Ev
namespace Go.Proofs.YtcpceiclnbmgiaaGreat
open Go Go.Ev
section
variable(t:Tt)(c:Ct)(zT aT fT a7 a8 a9 iq iy iv:T)(hT:uf t zT aT fT)(hC:um c a7 a8 a9 iq iy iv)(hA:M4 c)(hL: ∀f∈t.fl,f.nu.length≤oY)(hK:uq t c=0)
include hT hC hA hL hK
end
section
variable(t:Tt)(c:Ct)(zT aT fT a7 a8 a9 iq iy iv:T)(hT:uf t zT aT fT)(hC:um c a7 a8 a9 iq iy iv)(mT nT:T)(hm:froz mT=true)(hn:froz nT=true)
include hT hC hm hn
end
section
variable(t:Tt)(c:Ct)(zT aT fT a7 a8 a9 iq iy iv:T)(hT:uf t zT aT fT)(hC:um c a7 a8 a9 iq iy iv)(hA:M4 c)(hL: ∀f∈t.fl,f.nu.length≤oY)(hK:uq t c=0)(hN:t.fl.length≤1000)(mT nT:T)(hm:froz mT=true)(hn:froz nT=true)(iC:Nat→Bool)
 (mH: ∀f,f<t.fl.length→ ∃q,∀kk,lR mT (.i kk (f:Int)) 1=some (.vp (.b (iC f)::q))) (ZB:lenI mT=some (.i .i64 (t.fl.length:Int)))
 (qv: ∀f,f<t.fl.length→ ∃q,∀kk,lR nT (.i kk (f:Int)) 1=some (.vp (ZQ (qd t.fl.length (jn c t.fl) f)::q)))
include hT hC hA hL hK hN hm hn
include mH
include ZB qv
end
end Go.Proofs.YtcpceiclnbmgiaaGreat
