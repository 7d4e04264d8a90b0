/- Walks of functions of the program and of the reference, and their plain laws, part 14. Conditions: the theorems' own. -/
import Derived.Test.YtcpceiclnbmgiaaGreatM13
import Derived.KernelRfl
set_option maxRecDepth 100000
set_option linter.unusedSimpArgs false
set_option linter.unusedVariables false
set_option maxHeartbeats 16000000
namespace Go.Proofs.YtcpceiclnbmgiaaGreat
open Go Go.Ev
section
variable(t:Tt)(c:Ct)(zT aT fT a7 a8 a9 iv iy iw:T)(hT:sZ t zT aT fT)(hC:tp c a7 a8 a9 iv iy iw)(ht:uD t=0)(hc:mK c=0)(d:List (Int×Bool))(dT:T)(hd:H4 d dT)(h1:1≤d.length)(hlen:d.length≤100)(jP: ∀k∈d,rS t.fl.length k.1=true)
include hT ht hd h1 hlen jP
include hC hc
end
section
variable(t:Tt)(c:Ct)(zT aT fT a7 a8 a9 iv iy iw:T)(hT:sZ t zT aT fT)(hC:tp c a7 a8 a9 iv iy iw)(hN:Nv c)(hL: ∀f∈t.fl,f.nu.length≤pe)(d:List (Int×Bool))(dT:T)(hd:H4 d dT)(hlen:d.length≤1000)
include hT hC hN hL hd hlen
end
section
variable(l:Cs)(lT vT qx:T)(cl:List T)(A:List Int)(hl:IsSl lT l.length cl)(mJ:mh l cl)(hlen:l.length≤qK)(hv:IsSl vT l.length (ints (Fj l l.length)))(hA:NF A)(kR:IsSl qx 11 (ajF (ajG A)))
include hl hv kR
include mJ hlen hA
end
section
variable(c:Ct)(a7 a8 a9 iv iy iw vT qx:T)(A:List Int)(hC:tp c a7 a8 a9 iv iy iw)(hS:A1 c)(hc:mK c=0)(hv:IsSl vT c.cs.length (ints (Fj c.cs c.cs.length)))(hA:NF A)(kR:IsSl qx 11 (ajF (ajG A)))
include hC hc hv hA kR
end
section
variable(c:Ct)(a7 a8 a9 iv iy iw qx:T)(A:List Int)(hC:tp c a7 a8 a9 iv iy iw)(hS:A1 c)(hc:mK c=0)(hA:NF A)(kR:IsSl qx 11 (ajF (ajG A)))
include hC hS hc
include hA kR
end
section
variable(t:Tt)(c:Ct)(zT aT fT a7 a8 a9 iv iy iw:T)(hT:sZ t zT aT fT)(hC:tp c a7 a8 a9 iv iy iw)(hN:Nv c)(hL: ∀f∈t.fl,f.nu.length≤pe)(d:List (Int×Bool))(dT:T)(hd:H4 d dT)(hlen:d.length≤1000)
include hT hC hN hL hd hlen
end
theorem af7{d:List (Int×Bool)}{v:T}(h:IsSl v d.length (oD d))(j:Nat)(D:j<d.length): ∃r,∀kk,lY v (.i kk (j:Int)) 2=some (.vp (.i .i64 d[j].1:: .b d[j].2::r)):=wU (H4.of h) j D
end Go.Proofs.YtcpceiclnbmgiaaGreat
