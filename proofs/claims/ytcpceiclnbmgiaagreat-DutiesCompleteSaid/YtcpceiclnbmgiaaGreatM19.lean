/- Walks of functions of the program and of the reference, and their plain laws, part 19. Conditions: the theorems' own. -/
import Derived.Test.YtcpceiclnbmgiaaGreatM18
import Derived.KernelRfl
set_option maxRecDepth 100000
set_option linter.unusedSimpArgs false
set_option linter.unusedVariables false
set_option maxHeartbeats 16000000
namespace Go.Ev
open Go
end Go.Ev
namespace Go.Proofs.YtcpceiclnbmgiaaGreat
open Go Go.Ev
section
variable(t:Tt)(c:Ct)(zT aT fT a7 a8 a9 iv iy iw:T)(hT:sZ t zT aT fT)(hC:tp c a7 a8 a9 iv iy iw)(hA:Nv c)(hL: ∀f∈t.fl,f.nu.length≤pe)(hK:uF t c=0)
include hT hC hA hL hK
end
section
variable(t:Tt)(c:Ct)(zT aT fT a7 a8 a9 iv iy iw:T)(hT:sZ t zT aT fT)(hC:tp c a7 a8 a9 iv iy iw)(mT nT:T)(hm:froz mT=true)(hn:froz nT=true)
include hT hC hm hn
end
section
variable(t:Tt)(c:Ct)(zT aT fT a7 a8 a9 iv iy iw:T)(hT:sZ t zT aT fT)(hC:tp c a7 a8 a9 iv iy iw)(hA:Nv c)(hL: ∀f∈t.fl,f.nu.length≤pe)(hK:uF t c=0)(hN:t.fl.length≤1000)(mT nT:T)(hm:froz mT=true)(hn:froz nT=true)(iC:Nat→Bool)
 (my: ∀f,f<t.fl.length→ ∃q,∀kk,lY mT (.i kk (f:Int)) 1=some (.vp (.b (iC f)::q))) (ZR:lenI mT=some (.i .i64 (t.fl.length:Int)))
 (qG: ∀f,f<t.fl.length→ ∃q,∀kk,lY nT (.i kk (f:Int)) 1=some (.vp (Z2 (qy t.fl.length (jn c t.fl) f)::q)))
include hT hC hA hL hK hN hm hn
include my
include ZR qG
end
end Go.Proofs.YtcpceiclnbmgiaaGreat
