/- Walks of functions of the program and of the reference, and their plain laws, part 17. Conditions: the theorems' own. -/
import Derived.Test.YtcpceiclnbmgiaaGreatM16
import Derived.KernelRfl
set_option maxRecDepth 100000
set_option linter.unusedSimpArgs false
set_option linter.unusedVariables false
set_option maxHeartbeats 16000000
namespace Go.Proofs.YtcpceiclnbmgiaaGreat
open Go Go.Ev
section
variable(t:Tt)(c:Ct)(zT aT fT a7 a8 a9 gX hU gZ:T)(hT:wM t zT aT fT)(hC:uc c a7 a8 a9 gX hU gZ)(hN:t.fl.length≤1000)
include hT hC hN
end
end Go.Proofs.YtcpceiclnbmgiaaGreat
namespace Go.Ev
open Go
end Go.Ev
namespace Go.Proofs.YtcpceiclnbmgiaaGreat
open Go Go.Ev
def stq(b:Bool)(p:Nat→Nat)(h:Nat):Nat:=oc b*p h+sf p h
theorem XA(il:Nat→Bool)(g:Nat)(p:Nat→Nat)(h:Nat):E4 il g p h=stq (il g) p h:=rfl
structure Tb (s:List b8) (kw N H:Nat) (w:Nat→Nat→Int):Prop where
 n:gY s kw=⟨1,.cells ((List.range N).map fun i=> .isl .S (kw+1+i) 1 0 (H+1) 1) 0 true⟩
 r: ∀i,i<N→gY s (kw+1+i)=⟨1,.cells (m8 (H+1) (w i)) 0 false⟩
section
variable(N H:Nat)(hN:N≤1000)(hH:H≤6)(lp nT:T)(il:Nat→Bool)(nx:Nat→List Nat)(mj: ∀f,f<N→ ∃q,∀kk,lH lp (.i kk (f:Int)) 1=some (.vp (.b (il f)::q)))(qc: ∀f,f<N→ ∃q,∀kk,lH nT (.i kk (f:Int)) 1=some (.vp (Zi (nx f)::q)))
include hN hH mj qc
end
def ace(c:Ct)(fl:List Fl)(ops:List Int)(H:Nat):Int:=vL (vM fl.length H (cB fl.length (jn c fl) (pL ops)) 6)
def XB(t:Tt)(c:Ct)(ops:List Int)(H:Int):Int:=if yA t c=0 then(if DU t.fl.length none ops=0 then(if H<0∨6<H then 5 else 0)else DU t.fl.length none ops)else yA t c
section
variable(t:Tt)(c:Ct)(zT aT fT a7 a8 a9 gX hU gZ:T)(hT:wM t zT aT fT)(hC:uc c a7 a8 a9 gX hU gZ)(hA:Rs c)(hL: ∀f∈t.fl,f.nu.length≤oK)(hN:t.fl.length≤1000)
include hT hC hA hL hN
end
end Go.Proofs.YtcpceiclnbmgiaaGreat
