/- Walks of functions of the program and of the reference, and their plain laws, part 17. Conditions: the theorems' own. -/
import Derived.Test.YtcpceiclnbmgiaaGreatM16
import Derived.KernelRfl
set_option maxRecDepth 100000
set_option linter.unusedSimpArgs false
set_option linter.unusedVariables false
set_option maxHeartbeats 16000000
namespace Go.Proofs.YtcpceiclnbmgiaaGreat
open Go Go.Ev
section
variable(t:Tt)(c:Ct)(zT aT fT a7 a8 a9 iv iy iw:T)(hT:sZ t zT aT fT)(hC:tp c a7 a8 a9 iv iy iw)(hN:t.fl.length≤1000)
include hT hC hN
end
end Go.Proofs.YtcpceiclnbmgiaaGreat
namespace Go.Ev
open Go
end Go.Ev
namespace Go.Proofs.YtcpceiclnbmgiaaGreat
open Go Go.Ev
def stq(b:Bool)(p:Nat→Nat)(h:Nat):Nat:=oG b*p h+sf p h
theorem Yo(iC:Nat→Bool)(g:Nat)(p:Nat→Nat)(h:Nat):FU iC g p h=stq (iC g) p h:=rfl
structure Tb (s:List b8) (kw N H:Nat) (w:Nat→Nat→Int):Prop where
 n:iz s kw=⟨1,.cells ((List.range N).map fun i=> .isl .S (kw+1+i) 1 0 (H+1) 1) 0 true⟩
 r: ∀i,i<N→iz s (kw+1+i)=⟨1,.cells (nF (H+1) (w i)) 0 false⟩
section
variable(N H:Nat)(hN:N≤1000)(hH:H≤6)(lM nT:T)(iC:Nat→Bool)(nx:Nat→List Nat)(my: ∀f,f<N→ ∃q,∀kk,lY lM (.i kk (f:Int)) 1=some (.vp (.b (iC f)::q)))(qG: ∀f,f<N→ ∃q,∀kk,lY nT (.i kk (f:Int)) 1=some (.vp (Z2 (nx f)::q)))
include hN hH my qG
end
def ac9(c:Ct)(fl:List Fl)(ops:List Int)(H:Nat):Int:=wE (wF fl.length H (cB fl.length (jn c fl) (nG ops)) 6)
def Yp(t:Tt)(c:Ct)(ops:List Int)(H:Int):Int:=if uF t c=0 then(if EB t.fl.length none ops=0 then(if H<0∨6<H then 5 else 0)else EB t.fl.length none ops)else uF t c
section
variable(t:Tt)(c:Ct)(zT aT fT a7 a8 a9 iv iy iw:T)(hT:sZ t zT aT fT)(hC:tp c a7 a8 a9 iv iy iw)(hA:Nv c)(hL: ∀f∈t.fl,f.nu.length≤pe)(hN:t.fl.length≤1000)
include hT hC hA hL hN
end
end Go.Proofs.YtcpceiclnbmgiaaGreat
