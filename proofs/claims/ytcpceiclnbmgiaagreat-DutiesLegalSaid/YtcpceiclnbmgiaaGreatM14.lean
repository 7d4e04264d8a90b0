/- Walks of functions of the program and of the reference, and their plain laws, part 14. Conditions: the theorems' own. -/
import Derived.Test.YtcpceiclnbmgiaaGreatM13
import Derived.KernelRfl
set_option maxRecDepth 100000
set_option linter.unusedSimpArgs false
set_option linter.unusedVariables false
set_option maxHeartbeats 16000000
namespace Go.Proofs.YtcpceiclnbmgiaaGreat
open Go Go.Ev
section
variable(t:Tt)(c:Ct)(zT aT fT a7 a8 a9 iq iy iv:T)(hT:uf t zT aT fT)(hC:um c a7 a8 a9 iq iy iv)(ht:uo t=0)(hc:mI c=0)(d:List (Int×Bool))(dT:T)(hd:GG d dT)(h1:1≤d.length)(hlen:d.length≤100)(jB: ∀k∈d,xq t.fl.length k.1=true)
include hT ht hd h1 hlen jB
include hC hc
end
section
variable(t:Tt)(c:Ct)(zT aT fT a7 a8 a9 iq iy iv:T)(hT:uf t zT aT fT)(hC:um c a7 a8 a9 iq iy iv)(hN:M4 c)(hL: ∀f∈t.fl,f.nu.length≤oY)(d:List (Int×Bool))(dT:T)(hd:GG d dT)(hlen:d.length≤1000)
include hT hC hN hL hd hlen
end
section
variable(l:Cs)(lT vT qn:T)(cl:List T)(A:List Int)(hl:IsSl lT l.length cl)(mG:mf l cl)(hlen:l.length≤qz)(hv:IsSl vT l.length (ints (E7 l l.length)))(hA:Nf A)(kM:IsSl qn 11 (ajc (ajd A)))
include hl hv kM
include mG hlen hA
end
section
variable(c:Ct)(a7 a8 a9 iq iy iv vT qn:T)(A:List Int)(hC:um c a7 a8 a9 iq iy iv)(hS:AP c)(hc:mI c=0)(hv:IsSl vT c.cs.length (ints (E7 c.cs c.cs.length)))(hA:Nf A)(kM:IsSl qn 11 (ajc (ajd A)))
include hC hc hv hA kM
end
section
variable(c:Ct)(a7 a8 a9 iq iy iv qn:T)(A:List Int)(hC:um c a7 a8 a9 iq iy iv)(hS:AP c)(hc:mI c=0)(hA:Nf A)(kM:IsSl qn 11 (ajc (ajd A)))
include hC hS hc
include hA kM
end
section
variable(t:Tt)(c:Ct)(zT aT fT a7 a8 a9 iq iy iv:T)(hT:uf t zT aT fT)(hC:um c a7 a8 a9 iq iy iv)(hN:M4 c)(hL: ∀f∈t.fl,f.nu.length≤oY)(d:List (Int×Bool))(dT:T)(hd:GG d dT)(hlen:d.length≤1000)
include hT hC hN hL hd hlen
end
theorem Pq{d:List (Int×Bool)}{v:T}(h:IsSl v d.length (oE d))(j:Nat)(D:j<d.length): ∃r,∀kk,lR v (.i kk (j:Int)) 2=some (.vp (.i .i64 d[j].1:: .b d[j].2::r)):=wL (GG.of h) j D
end Go.Proofs.YtcpceiclnbmgiaaGreat
