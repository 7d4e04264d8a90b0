/- The reference's reduce. The values of constants, as the reference finds them. Equal expressions are found equal. The program's constants; Simplify. Conditions: the theorems' own. -/
import Derived.Test.YtfenhjpkomldcaaGreatM11
import Derived.KernelRfl
set_option maxRecDepth 100000
set_option linter.unusedSimpArgs false
set_option linter.unusedVariables false
set_option maxHeartbeats 16000000
namespace Go.Proofs.YtfenhjpkomldcaaGreat
open Go Go.Ev
theorem vB{d:Nat}{fr:Fr}{lh:aQ aB}{sh:List aB}(z:Ex)(b:T)(hb:froz1 b=true):ar pE (ai pE) d ⟨fr,lh,sh⟩ 65 [.agg [.i .i64 z.op,.i .i64 z.num,.s z.name,b]]=some (.b (gn z),⟨fr,lh,sh⟩):=by
 rw[ab0 (by simp[ml,m4,oN,hb]),Bm _ z b (.inr rfl)];rfl
theorem EZ{d:Nat}{fr:Fr}{lh:aQ aB}{sh:List aB}(z:Ex)(b:T)(hb:froz1 b=true):ar pE (ai pE) d ⟨fr,lh,sh⟩ 163 [.agg [.i .i64 z.op,.i .i64 z.num,.s z.name,b]]=some (.b (og z),⟨fr,lh,sh⟩):=by
 rw[Wy (by simp[ml,m4,oN,hb]),EP _ z b (.inr rfl)];rfl
theorem Bv(x:Ex)(hw:x.wf=true)(a:T)(cc:List T)(ha:aR a 1 cc)(hx:aK [x] cc):
  ∃cs,ai pE 109 [.agg [.i .i64 19,.i .i64 0,.s [],a]] []=some (.agg cs,[])∧bE (if x.op=19 then x.args.headD (bN 0 0)else .mk 19 0 [] [x]) cs:=by
 obtain⟨b0,r0,bO,⟨cb,cH,nA⟩,m6,nM⟩:=nH (xs:= [x]) ha hx 0 (by simp) 0 rfl
 simp only[List.getElem_cons_zero]at bO nM cH nA
 have hn:=lE 19 [x] a cc ha hx
 rw[aG wN (by simp[eK])]
 by_cases yU:x.op=19
 ·rw[if_pos yU]
  have hlen:0<x.args.length:=by
   obtain⟨_,_,KL,_⟩:=fk hw
   rw[yU]at KL;simp[bm]at KL;omega
  obtain⟨b1,r1,cu,_,fD,jd⟩:=nH cH nA 0 hlen 0 rfl
  have hh:x.args.headD (bN 0 0)=x.args[0]:=by
   generalize x.args=l at hlen
   cases l with
   |nil=>simp at hlen
   |cons y ys=>rfl
  rw[hh]
  simp(maxDischargeDepth:=6) only[qF,ae,ah,aa,aj,ab,an,aF,splice,aH,Nat.reduceAdd,Nat.reduceLT,Nat.reduceLeDiff,Nat.reduceEqDiff,Int.reduceEq,eK,bO,yU,cu,fD]
  exact⟨_,rfl,jd⟩
 ·rw[if_neg yU]
  simp(maxDischargeDepth:=6) only[qF,ae,ah,aa,aj,ab,an,aF,splice,aH,Nat.reduceAdd,Nat.reduceLT,Nat.reduceLeDiff,Nat.reduceEqDiff,Int.reduceEq,eK,ha.froz1,bO,yU]
  exact⟨_,rfl,hn⟩
theorem OV{op:Int}{ys:List Ex}(gK:gT ys=true)(h7:7≤op)(Dj:op≤22)(bo:bm op ys.length=true)(a:T)(cc:List T)(ha:aR a ys.length cc)(hx:aK ys cc):
  ∃cs,ai pE 109 [.agg [.i .i64 op,.i .i64 0,.s [],a]] []=some (.agg cs,[])∧bE (pg op ys) cs:=by
 have nO:=lE op ys a cc ha hx
 have same: ∀yV,op=yV→(yV=7∨yV=12∨yV=13∨yV=15∨yV=16∨yV=17∨yV=18)→pg op ys= .mk op 0 [] ys:=by
  rintro yV rfl ho
  match ys with
  | []=>rfl
  | [x]=>show(if op=19∧x.op=19 then _ else _)=_;rw[if_neg (by omega)]
  | [x,y]=>
    rw[iz];unfold rX
    rw[if_neg (by omega),if_neg (by omega),if_neg (by omega),if_neg (by omega),if_neg (by omega),if_neg (by omega),if_neg (by omega)]
  | [x,y,z]=>show(if op=14 then _ else _)=_;rw[if_neg (by omega)]
  |_::_::_::_::_=>rfl
 have gP:(op=7∨op=12∨op=13∨op=15∨op=16∨op=17∨op=18)→ ∃cs,ai pE 109 [.agg [.i .i64 op,.i .i64 0,.s [],a]] []=some (.agg cs,[])∧bE (pg op ys) cs:=by
  intro ho
  rw[same op rfl ho,aG wN (by simp[eK])]
  rcases ho with rfl|rfl|rfl|rfl|rfl|rfl|rfl <;>
   (simp(maxDischargeDepth:=6) only[qF,ae,ah,aa,aj,ab,an,aF,splice,aH,Nat.reduceAdd,Nat.reduceLT,Nat.reduceLeDiff,Nat.reduceEqDiff,Int.reduceEq,eK,ha.froz1];exact⟨_,rfl,nO⟩)
 have kW:op≠12→op≠13→op≠7→op≠19→op≠14→op≠15→ ∃x y,ys= [x,y]:=fun e1 e2 e3 e4 e5 e6=>Bn (ys:=ys) (by
  unfold bm at bo
  rw[if_neg (by omega),if_neg (by omega),if_neg (by omega),if_neg (by omega)]at bo
  simpa using bo)
 by_cases hs:op=7∨op=12∨op=13∨op=15∨op=16∨op=17∨op=18
 ·exact gP hs
 by_cases yU:op=19
 ·subst yU
  obtain⟨x,rfl⟩:=Ys (ys:=ys) (by simpa[bm]using bo)
  obtain⟨cs,h1,h2⟩:=Bv x (by rw[gT,Bool.and_eq_true]at gK;exact gK.1) a cc ha hx
  refine⟨cs,h1, ?_⟩
  show bE (if(19:Int)=19∧x.op=19 then _ else _) cs
  simpa using h2
 by_cases fj:op=14
 ·subst fj
  obtain⟨x,y,z,rfl⟩:=Yr (ys:=ys) (by simpa[bm]using bo)
  obtain⟨b0,r0,bO,_,m6,nM⟩:=nH ha hx 0 (by simp) 0 rfl
  obtain⟨b1,r1,cu,_,fD,jd⟩:=nH ha hx 1 (by simp) 1 rfl
  obtain⟨b2,r2,vu,_,yT,B2⟩:=nH ha hx 2 (by simp) 2 rfl
  simp only[List.getElem_cons_zero,List.getElem_cons_succ]at bO cu vu nM jd B2
  rw[aG wN (by simp[eK])]
  show∃cs,_∧bE (if x.op=4 then y else if x.op=5 then z else .mk 14 0 [] [x,y,z]) cs
  by_cases a4:x.op=4
  ·simp(maxDischargeDepth:=6) only[qF,ae,ah,aa,aj,ab,an,aF,splice,aH,Nat.reduceAdd,Nat.reduceLT,Nat.reduceLeDiff,Nat.reduceEqDiff,Int.reduceEq,eK,bO,cu,fD,a4]
   exact⟨_,rfl,jd⟩
  by_cases a5:x.op=5
  ·simp(maxDischargeDepth:=6) only[qF,ae,ah,aa,aj,ab,an,aF,splice,aH,Nat.reduceAdd,Nat.reduceLT,Nat.reduceLeDiff,Nat.reduceEqDiff,Int.reduceEq,eK,bO,cu,vu,yT,a5]
   exact⟨_,rfl,B2⟩
  ·simp(maxDischargeDepth:=6) only[qF,ae,ah,aa,aj,ab,an,aF,dq,dw,splice,aH,repl,Nat.reduceAdd,Nat.reduceLT,Nat.reduceLeDiff,Nat.reduceEqDiff,Int.reduceEq,eK,ha.froz1,bO,cu,vu,m6,a4,a5]
   exact⟨_,rfl,nO⟩
 obtain⟨x,y,rfl⟩:=kW (by omega) (by omega) (by omega) yU fj (by omega)
 obtain⟨b0,r0,bO,_,m6,nM⟩:=nH (xs:= [x,y]) ha hx 0 (by simp) 0 rfl
 obtain⟨b1,r1,cu,_,fD,jd⟩:=nH (xs:= [x,y]) ha hx 1 (by simp) 1 rfl
 simp only[List.getElem_cons_zero,List.getElem_cons_succ]at bO cu nM jd
 have LU:=fun d fr lh sh=>vB (d:=d) (fr:=fr) (lh:=lh) (sh:=sh) x b0 m6
 have Ap:=fun d fr lh sh=>vB (d:=d) (fr:=fr) (lh:=lh) (sh:=sh) y b1 fD
 have Z1:=fun d fr lh sh=>EZ (d:=d) (fr:=fr) (lh:=lh) (sh:=sh) x b0 m6
 have OW:=fun d fr lh sh=>EZ (d:=d) (fr:=fr) (lh:=lh) (sh:=sh) y b1 fD
 have hwx:x.wf=true:=by rw[gT,Bool.and_eq_true]at gK;exact gK.1
 obtain⟨c1,TZ,ni⟩:=Bv x hwx (.sl [.i .i64 x.op,.i .i64 x.num,.s x.name,b0] 1 true) _ (Or.inr ⟨true,rfl⟩) (aK.one nM)
 rw[aG wN (by simp[eK]),iz]
 unfold rX
 rcases(show op=20∨op=21∨op=22∨op=8∨op=9∨op=10∨op=11 by omega)with rfl|rfl|rfl|rfl|rfl|rfl|rfl
 ·by_cases a5:x.op=5
  ·simp(maxDischargeDepth:=6) only[qF,ae,ah,aa,aj,ab,an,aF,splice,aH,Nat.reduceAdd,Nat.reduceLT,Nat.reduceLeDiff,Nat.reduceEqDiff,Int.reduceEq,eK,bO,cu,a5,true_or]
   exact⟨_,rfl,cE _ _ _ cp⟩
  by_cases b5:y.op=5
  ·simp(maxDischargeDepth:=6) only[qF,ae,ah,aa,aj,ab,an,aF,dq,dw,splice,aH,repl,Nat.reduceAdd,Nat.reduceLT,Nat.reduceLeDiff,Nat.reduceEqDiff,Int.reduceEq,eK,bO,cu,m6,a5,b5,or_true]
   exact⟨_,rfl,cE _ _ _ cp⟩
  by_cases a4:x.op=4
  ·simp(maxDischargeDepth:=6) only[qF,ae,ah,aa,aj,ab,an,aF,splice,aH,Nat.reduceAdd,Nat.reduceLT,Nat.reduceLeDiff,Nat.reduceEqDiff,Int.reduceEq,eK,bO,cu,fD,b5,a4,or_self]
   exact⟨_,rfl,jd⟩
  by_cases b4:y.op=4
  ·rw[b4]at jd
   simp(maxDischargeDepth:=6) only[qF,ae,ah,aa,aj,ab,an,aF,splice,aH,Nat.reduceAdd,Nat.reduceLT,Nat.reduceLeDiff,Nat.reduceEqDiff,Int.reduceEq,eK,bO,cu,m6,a5,a4,b4,or_self]
   exact⟨_,rfl,nM⟩
  ·simp(maxDischargeDepth:=6) only[qF,ae,ah,aa,aj,ab,an,aF,dq,dw,splice,aH,repl,Nat.reduceAdd,Nat.reduceLT,Nat.reduceLeDiff,Nat.reduceEqDiff,Int.reduceEq,eK,ha.froz1,bO,cu,m6,a5,b5,a4,b4,or_self]
   exact⟨_,rfl,nO⟩
 ·by_cases a4:x.op=4
  ·simp(maxDischargeDepth:=6) only[qF,ae,ah,aa,aj,ab,an,aF,splice,aH,Nat.reduceAdd,Nat.reduceLT,Nat.reduceLeDiff,Nat.reduceEqDiff,Int.reduceEq,eK,bO,cu,a4,true_or]
   exact⟨_,rfl,cE _ _ _ cp⟩
  by_cases b4:y.op=4
  ·simp(maxDischargeDepth:=6) only[qF,ae,ah,aa,aj,ab,an,aF,splice,aH,Nat.reduceAdd,Nat.reduceLT,Nat.reduceLeDiff,Nat.reduceEqDiff,Int.reduceEq,eK,bO,cu,a4,b4,or_true]
   exact⟨_,rfl,cE _ _ _ cp⟩
  by_cases a5:x.op=5
  ·simp(maxDischargeDepth:=6) only[qF,ae,ah,aa,aj,ab,an,aF,splice,aH,Nat.reduceAdd,Nat.reduceLT,Nat.reduceLeDiff,Nat.reduceEqDiff,Int.reduceEq,eK,bO,cu,fD,a5,b4,or_self]
   exact⟨_,rfl,jd⟩
  by_cases b5:y.op=5
  ·rw[b5]at jd
   simp(maxDischargeDepth:=6) only[qF,ae,ah,aa,aj,ab,an,aF,dq,dw,splice,aH,repl,Nat.reduceAdd,Nat.reduceLT,Nat.reduceLeDiff,Nat.reduceEqDiff,Int.reduceEq,eK,bO,cu,m6,a5,b5,a4,or_self]
   exact⟨_,rfl,nM⟩
  ·simp(maxDischargeDepth:=6) only[qF,ae,ah,aa,aj,ab,an,aF,dq,dw,splice,aH,repl,Nat.reduceAdd,Nat.reduceLT,Nat.reduceLeDiff,Nat.reduceEqDiff,Int.reduceEq,eK,ha.froz1,bO,cu,m6,a5,b5,a4,b4,or_self]
   exact⟨_,rfl,nO⟩
 ·by_cases a5:x.op=5
  ·simp(maxDischargeDepth:=6) only[qF,ae,ah,aa,aj,ab,an,aF,splice,aH,Nat.reduceAdd,Nat.reduceLT,Nat.reduceLeDiff,Nat.reduceEqDiff,Int.reduceEq,eK,bO,cu,a5,true_or]
   exact⟨_,rfl,cE _ _ _ cp⟩
  by_cases b4:y.op=4
  ·simp(maxDischargeDepth:=6) only[qF,ae,ah,aa,aj,ab,an,aF,splice,aH,Nat.reduceAdd,Nat.reduceLT,Nat.reduceLeDiff,Nat.reduceEqDiff,Int.reduceEq,eK,bO,cu,a5,b4,or_true]
   exact⟨_,rfl,cE _ _ _ cp⟩
  by_cases a4:x.op=4
  ·simp(maxDischargeDepth:=6) only[qF,ae,ah,aa,aj,ab,an,aF,splice,aH,Nat.reduceAdd,Nat.reduceLT,Nat.reduceLeDiff,Nat.reduceEqDiff,Int.reduceEq,eK,bO,cu,fD,b4,a4,or_self]
   exact⟨_,rfl,jd⟩
  by_cases b5:y.op=5
  ·rw[b5]at jd cu
   obtain⟨la,lc,rfl,qp,zA⟩:=ni.cells
   simp(maxDischargeDepth:=6) only[qF,ae,ah,aa,aj,ab,an,aF,dq,dw,splice,aH,repl,Nat.reduceAdd,Nat.reduceLT,Nat.reduceLeDiff,Nat.reduceEqDiff,Int.reduceEq,eK,bO,cu,m6,a5,b5,a4,or_self,TZ,V9,qp.froz1]
   refine⟨_,rfl, ?_⟩
   exact ni
  ·simp(maxDischargeDepth:=6) only[qF,ae,ah,aa,aj,ab,an,aF,dq,dw,splice,aH,repl,Nat.reduceAdd,Nat.reduceLT,Nat.reduceLeDiff,Nat.reduceEqDiff,Int.reduceEq,eK,ha.froz1,bO,cu,m6,a5,b4,a4,b5,or_self]
   exact⟨_,rfl,nO⟩
 ·cases e1:gn y with
  |true=>
   rw[e1]at Ap
   simp(maxDischargeDepth:=6) only[qF,ae,ah,aa,aj,ab,an,aF,splice,aH,Nat.reduceAdd,Nat.reduceLT,Nat.reduceLeDiff,Nat.reduceEqDiff,Int.reduceEq,eK,bO,cu,m6,Ap]
   exact⟨_,rfl,nM⟩
  |false=>
   rw[e1]at Ap
   cases e0:gn x with
   |true=>
    rw[e0]at LU
    simp(maxDischargeDepth:=6) only[qF,ae,ah,aa,aj,ab,an,aF,splice,aH,Nat.reduceAdd,Nat.reduceLT,Nat.reduceLeDiff,Nat.reduceEqDiff,Int.reduceEq,eK,bO,cu,fD,Ap,LU]
    exact⟨_,rfl,jd⟩
   |false=>
    rw[e0]at LU
    simp(maxDischargeDepth:=6) only[qF,ae,ah,aa,aj,ab,an,aF,splice,aH,Nat.reduceAdd,Nat.reduceLT,Nat.reduceLeDiff,Nat.reduceEqDiff,Int.reduceEq,eK,ha.froz1,bO,cu,Ap,LU]
    exact⟨_,rfl,nO⟩
 ·cases e1:gn y with
  |true=>
   rw[e1]at Ap
   simp(maxDischargeDepth:=6) only[qF,ae,ah,aa,aj,ab,an,aF,splice,aH,Nat.reduceAdd,Nat.reduceLT,Nat.reduceLeDiff,Nat.reduceEqDiff,Int.reduceEq,eK,bO,cu,m6,Ap]
   exact⟨_,rfl,nM⟩
  |false=>
   rw[e1]at Ap
   simp(maxDischargeDepth:=6) only[qF,ae,ah,aa,aj,ab,an,aF,splice,aH,Nat.reduceAdd,Nat.reduceLT,Nat.reduceLeDiff,Nat.reduceEqDiff,Int.reduceEq,eK,ha.froz1,bO,cu,Ap]
   exact⟨_,rfl,nO⟩
 ·cases e1:og y with
  |true=>
   rw[e1]at OW
   simp(maxDischargeDepth:=6) only[qF,ae,ah,aa,aj,ab,an,aF,splice,aH,Nat.reduceAdd,Nat.reduceLT,Nat.reduceLeDiff,Nat.reduceEqDiff,Int.reduceEq,eK,bO,cu,m6,OW]
   exact⟨_,rfl,nM⟩
  |false=>
   rw[e1]at OW
   cases e0:og x with
   |true=>
    rw[e0]at Z1
    simp(maxDischargeDepth:=6) only[qF,ae,ah,aa,aj,ab,an,aF,splice,aH,Nat.reduceAdd,Nat.reduceLT,Nat.reduceLeDiff,Nat.reduceEqDiff,Int.reduceEq,eK,bO,cu,fD,OW,Z1]
    exact⟨_,rfl,jd⟩
   |false=>
    rw[e0]at Z1
    simp(maxDischargeDepth:=6) only[qF,ae,ah,aa,aj,ab,an,aF,splice,aH,Nat.reduceAdd,Nat.reduceLT,Nat.reduceLeDiff,Nat.reduceEqDiff,Int.reduceEq,eK,ha.froz1,bO,cu,OW,Z1]
    exact⟨_,rfl,nO⟩
 ·cases e1:og y with
  |true=>
   rw[e1]at OW
   simp(maxDischargeDepth:=6) only[qF,ae,ah,aa,aj,ab,an,aF,splice,aH,Nat.reduceAdd,Nat.reduceLT,Nat.reduceLeDiff,Nat.reduceEqDiff,Int.reduceEq,eK,bO,cu,m6,OW]
   exact⟨_,rfl,nM⟩
  |false=>
   rw[e1]at OW
   simp(maxDischargeDepth:=6) only[qF,ae,ah,aa,aj,ab,an,aF,splice,aH,Nat.reduceAdd,Nat.reduceLT,Nat.reduceLeDiff,Nat.reduceEqDiff,Int.reduceEq,eK,ha.froz1,bO,cu,OW]
   exact⟨_,rfl,nO⟩
end Go.Proofs.YtfenhjpkomldcaaGreat
namespace Go.Proofs.YtfenhjpkomldcaaGreat
open Go Go.Ev
theorem KW(op num:Int)(h:op=1∨op=2∨op=3∨op=4∨op=5)(a:T):ai pE 108 [.i .i64 op,.i .i64 num,a] []=some (.i .i64 (if op=1∨op=2∨op=3 then num else if op=4 then 1 else 0),[]):=by
 rw[aG It (by simp[jh])]
 rcases h with rfl|rfl|rfl|rfl|rfl <;> simp(maxDischargeDepth:=6) only[qF,ae,ah,aa,aj,ab,an,bn,aP,Nat.reduceAdd,reduceCtorEq,Nat.reduceLT,Nat.reduceEqDiff,Int.reduceEq,jh,true_or,or_true,or_self]
theorem Bw{cl:List Nat→Int×Int}{vx:List Nat→Int}(hc:KP cl vx){scope:Int}(jx: ∀s,dI scope s=0): ∀{xs:List Ex} {ts:List Int},gT xs=true→gS cl scope xs= .ok ts→ra ts (gR vx xs)
 | [],ts,_,h=>by rw[gS]at h;cases h;trivial
 |x::xs,ts,hw,h=>by
  obtain⟨t,us,rfl,e1,e2⟩:=js h
  rw[gT,Bool.and_eq_true]at hw
  exact⟨(ES hc scope jx x t hw.1 e1).2,Bw hc jx hw.2 e2⟩
theorem xD(l:Cs)(k:Nat): ∀n,n≤k→n≤l.length→dv (l.take k) n=dv l n
 |0,_,_=>rfl
 |n+1,h,hl=>by
  rw[oU l (by omega),oU (l.take k) (by rw[List.length_take];omega),xD l k n (by omega) (by omega),List.take_take,Nat.min_eq_left (by omega),List.getElem_take]
theorem pR(l:Cs){k:Nat}(hk:k≤l.length)(x:Ex):cV (l.take k) 0 x=nI (l.take k) (dv l k) x:=by
 unfold cV nI
 rw[List.length_take,Nat.min_eq_left hk,xD l k k (Nat.le_refl _) hk]
section
variable(l:Cs)(n:Nat)(pI:n≤l.length)(lT vT:T)(cl:List T)(hl:aR lT n cl)(eA:dK (l.take n) cl)(hlen:l.length≤eG)(hv:aR vT n (ints (oj l n)))
def Rz(y:Ex):Prop:= ∀k cs,bE y cs→y.nodes≤100000→y.wf=true→y.ty (CL l n) 0=(k,0)→ai pE 110 [vT,lT,.i .i64 0,.nilsl,.agg cs] []=some (.i .i64 (y.val0 (VX l n)),[])
include hl hv
theorem YB(xs:List Ex)(ih: ∀y∈xs,Rz l n lT vT y)(a:T)(cc:List T)(ha:aR a xs.length cc)(hx:aK xs cc)(hn:a6 xs≤100000)(gK:gT xs=true)(ts:List Int)(cN:gS (CL l n) 0 xs= .ok ts)(op num:Int)(s:List Nat)(g:Nat)(fr:Fr)(lh:aQ aB)(sh:List aB)
  (h0:ak fr 0=vT) (h1:ak fr 1=lT) (h2:ak fr 2= .i .i64 0) (h3:ak fr 3= .nilsl) (h9:ak fr 9= .ptr .L 9 g 0) (Bx:ak fr 13= .nilsl) (fj:ak fr 14= .i .i64 0) (o9:aq lh 9=⟨g,.cells [.i .i64 op,.i .i64 num,.s s,a] 0 true⟩):
  DC pE 70 (.loop gr) ⟨fr,lh,sh⟩=some (.ext 0,⟨cz pE 70 gr fr lh sh,bK pE 70 gr fr lh sh,cw pE 70 gr fr lh sh⟩)∧
  (be (bK pE 70 gr fr lh sh) (ak (cz pE 70 gr fr lh sh) 13) 63 1 xs.length (ints (gR (VX l n) xs))∧aq (bK pE 70 gr fr lh sh) 9=aq lh 9∧cw pE 70 gr fr lh sh=sh):=by
 refine aD (P:=fun cO bp br=>be bp (ak cO 13) 63 1 xs.length (ints (gR (VX l n) xs))∧aq bp 9=aq lh 9∧br=sh)
  (aI (fun k st=> ∃(fr:Fr) (aX:aQ aB),st=⟨fr,aX,sh⟩∧ak fr 0=vT∧ak fr 1=lT∧ak fr 2= .i .i64 0∧ak fr 3= .nilsl∧ak fr 9= .ptr .L 9 g 0∧ak fr 14= .i .i64 (k:Int)∧aq aX 9=aq lh 9∧
    be aX (ak fr 13) 63 1 k (ints (gR (VX l n) (xs.take k)))) _ xs.length ?_ ?_ 0 _ (Nat.zero_le _) ⟨fr,lh,rfl,h0,h1,h2,h3,h9,fj,rfl,by rw[Bx];exact be.nil⟩)
 ·rintro k _ nN ⟨fr,aX,rfl,h0,h1,h2,h3,h9,fj,Uc,hO⟩
  left
  rw[o9]at Uc
  have bt:(k:Int)<xs.length:=by omega
  have qK:=bX xs
  have Rw:=cT (List.getElem_mem nN)
  have hw:=aJ (k:=k) (cm (by omega))
  obtain⟨b,cb,rr,bh,cH,nA,hb⟩:=dm ha hx k nN
  obtain⟨t,ht⟩:=tO cN k nN
  have az:=ih xs[k] (List.getElem_mem nN) t _ hb (by omega) (jg.1 gK _ (List.getElem_mem nN)) ht
  have rz:=iB hO (cm (by omega)) (sh:=sh) (T.i .i64 (xs[k].val0 (VX l n))) true
  have rv:gR (VX l n) (xs.take (k+1))=gR (VX l n) (xs.take k)++ [xs[k].val0 (VX l n)]:=by
   rw[List.take_succ_eq_append_getElem nN,oO,List.map_append,←oO];rfl
  generalize xs[k].val0 (VX l n)=q at az rz rv
  generalize Bx:ak fr 13=v13 at hO rz
  simp(maxDischargeDepth:=6) only[qF,ae,ah,aa,aj,ab,an,dq,dw,splice,aH,repl,reduceCtorEq,Nat.reduceLT,Nat.reduceLeDiff,Nat.reduceEqDiff,gr,h0,h1,h2,h3,h9,Bx,fj,Uc,ha.lenI,bt,bh,hw,az,Wb,cH.froz1,hv.froz,hl.froz,hO.notS,rz.1]
  refine⟨_,rfl,_,_,rfl, ?_, ?_, ?_, ?_, ?_, ?_, ?_, ?_⟩
  all_goals first|(simp(maxDischargeDepth:=6) only[aa,ab,reduceCtorEq,Nat.reduceEqDiff,h0,h1,h2,h3,h9];done)|skip
  ·rw[rz.2.2 9 (by decide),Uc,o9]
  ·simp(maxDischargeDepth:=6) only[aa,ab,Nat.reduceEqDiff]
   rw[rv,my]
   exact rz.2.1
 ·rintro _ ⟨fr,aX,rfl,h0,h1,h2,h3,h9,fj,Uc,hO⟩
  rw[o9]at Uc
  rw[List.take_length]at hO
  simp(maxDischargeDepth:=6) only[ae,ah,aa,aj,ab,an,Nat.reduceLT,Nat.reduceEqDiff,gr,h9,fj,Uc,ha.lenI,Int.lt_irrefl]
  refine⟨_,_,(by simp:Out.ext 0≠ .nrm),rfl,rfl, ?_,by rw[Uc,o9],rfl⟩
  simp(maxDischargeDepth:=6) only[aa,ab,Nat.reduceEqDiff]
  exact hO
include pI eA hlen
theorem OX(x:Ex):Rz l n lT vT x:=by
 induction x using Ex.ind with
 |h x ih=>
  intro k cs hx hn gK ht
  obtain⟨a,cc,rfl,ha,mH⟩:=hx.cells
  obtain⟨h1,h2,bo,gJ,jT,lD⟩:=fk gK
  have nO:=x.nodes_eq
  rw[aG DU (by simp[Ca]),Ex.val0_eq]
  by_cases h6:x.op=6
  ·rw[if_pos h6]
   have ga:=qX 0 x.name
   unfold lC at ga
   rw[Ex.ty_eq,if_pos h6,if_neg (by simp[lF])]at ht
   rw[if_pos (lF _),lF]at ga
   obtain⟨i,nG,j1,wC,_⟩:=rb pI ht
   have By:de (l.take n) x.name=some i:=by rw[oQ,wC];simp[j1]
   have L0:=yY (l.take n) x.name lT cl (by rw[List.length_take,Nat.min_eq_left pI];exact hl) eA (by rw[List.length_take];omega)
   rw[kg By]at L0
   have e1:=fun kk=>iU (ts:=oj l n) (by rw[gE];exact hv) (k:=i) (by rw[gE];exact j1) kk
   have e2:VX l n x.name=(oj l n)[i]'(by rw[gE];exact j1):=by
    unfold VX LY;rw[By];simp[List.getD_eq_getElem?_getD,List.getElem?_eq_getElem (show i<(oj l n).length by rw[gE];exact j1)]
   rw[e2]
   simp(maxDischargeDepth:=6) only[qF,ae,ah,aa,aj,ab,an,Nat.reduceAdd,reduceCtorEq,Nat.reduceLT,Nat.reduceEqDiff,Int.reduceEq,Ca,h6,ga,uj,L0,DT,hl.froz,e1]
  ·rw[if_neg h6]
   obtain⟨ts,je,hr,hk⟩:=ng ht h6
   have hL:=fun fr lh sh h0 h1 h2 h3 h9 Bx fj o9=>YB l n lT vT cl hl hv x.args (fun y hy=>ih y hy) a cc ha mH (by omega) lD ts je x.op x.num x.name 1 fr lh sh h0 h1 h2 h3 h9 Bx fj o9
   have hO:=fun fr lh sh h0 h1 h2 h3 h9 Bx fj o9=>be.fzV (sh:=sh) (keep:=false) (hL fr lh sh h0 h1 h2 h3 h9 Bx fj o9).2.1
   have zB:=bX x.args
   have j1:=Bw (KR l n pI) (scope:=0) (fun s=>lF s) lD je
   have htl:=oP je
   have Bz:(gR (VX l n) x.args).length=x.args.length:=by rw[oO,List.length_map]
   by_cases h5:x.op≤5
   ·have OY:x.op=1∨x.op=2∨x.op=3∨x.op=4∨x.op=5:=by omega
    have Dq:=KW x.op x.num OY (kY x.args.length (ints (gR (VX l n) x.args)))
    have dD:(if x.op=1∨x.op=2∨x.op=3 then x.num else if x.op=4 then 1 else if x.op=5 then 0 else ry x.op (gR (VX l n) x.args))=(if x.op=1∨x.op=2∨x.op=3 then x.num else if x.op=4 then 1 else 0):=by
     rcases OY with h|h|h|h|h <;> simp[h]
    rw[dD]
    generalize (if x.op=1∨x.op=2∨x.op=3 then x.num else if x.op=4 then 1 else 0)=q at Dq ⊢
    simp(maxDischargeDepth:=6) only[qF,ae,ah,aa,aj,ab,an,Nat.reduceShiftRight,Nat.reduceMod,Nat.reduceAdd,reduceCtorEq,Nat.reduceLT,Nat.reduceEqDiff,Ca,wH,h6,hL,hO,Dq,Iu]
   ·have h7:7≤x.op:=by omega
    have rz:=Bl j1 h7 h2 (by rw[htl];exact bo) hr hk
    have Dq:=xE x.op x.num (gR (VX l n) x.args) (kY x.args.length (ints (gR (VX l n) x.args))) (by rw[Bz];exact jr (fun h0=>by rw[h0]at Bz;rw[List.length_eq_zero_iff.1 Bz];rfl)) (by rw[Bz];exact cm (by omega)) h7 h2 (by rw[Bz];exact bo) rz.1
    rw[if_neg (by omega),if_neg (by omega),if_neg (by omega)]
    generalize ry x.op (gR (VX l n) x.args)=q at Dq ⊢
    simp(maxDischargeDepth:=6) only[qF,ae,ah,aa,aj,ab,an,Nat.reduceShiftRight,Nat.reduceMod,Nat.reduceAdd,reduceCtorEq,Nat.reduceLT,Nat.reduceEqDiff,Ca,wH,h6,hL,hO,Dq,Iu]
end
section
variable(l:Cs)(lT:T)(cl:List T)(hl:aR lT l.length cl)(eA:dK l cl)(hlen:l.length≤eG)(gb:E0 l)
theorem yZ{k:Nat}(hk:k<l.length)(hl:aR lT l.length cl)(eA:dK l cl): ∃ex,lT= .sl cl l.length ex∧aR (.sl (List.take (k*5) cl) k (ex&&decide (k=l.length))) k (cl.take (k*5))∧dK (l.take k) (cl.take (k*5))∧cl.length=l.length*5:=by
 rcases hl with⟨_,hz,_⟩|⟨ex,rfl⟩
 ·omega
 ·exact⟨ex,rfl,Or.inr ⟨_,rfl⟩,eA.take k,eA.len⟩
theorem vC(gb:E0 l)(k:Nat):E0 (l.take k):=fun c hc=>gb c (List.mem_of_mem_take hc)
include hl eA hlen gb
theorem adp(fr:Fr)(lh:aQ aB)(sh:List aB)(h0:ak fr 0=lT)(h3:ak fr 3= .nilsl)(h4:ak fr 4= .i .i64 0):
  DC pE 43 (.loop kl) ⟨fr,lh,sh⟩=some (.ext 0,⟨cz pE 43 kl fr lh sh,bK pE 43 kl fr lh sh,cw pE 43 kl fr lh sh⟩)∧
  (be (bK pE 43 kl fr lh sh) (ak (cz pE 43 kl fr lh sh) 3) 41 1 l.length (ints (oj l l.length))∧cw pE 43 kl fr lh sh=sh):=by
 refine aD (P:=fun cO bp br=>be bp (ak cO 3) 41 1 l.length (ints (oj l l.length))∧br=sh)
  (aI (fun k st=> ∃(fr:Fr) (aX:aQ aB),st=⟨fr,aX,sh⟩∧ak fr 0=lT∧ak fr 4= .i .i64 (k:Int)∧be aX (ak fr 3) 41 1 k (ints (oj l k))) _ l.length ?_ ?_ 0 _ (Nat.zero_le _) ⟨fr,lh,rfl,h0,h4,by rw[h3];exact be.nil⟩)
 ·rintro k _ hk ⟨fr,aX,rfl,h0,h4,hO⟩
  left
  have bt:(k:Int)<l.length:=by omega
  have hw:=aJ (k:=k) (by omega)
  obtain⟨b,cb,r,bh,cH,nA,hb⟩:=dL hl eA k hk
  obtain⟨xF,sd⟩:=gb l[k] (List.getElem_mem hk)
  obtain⟨ex,rfl,wV,B1,y6⟩:=yZ l lT cl hk hl eA
  have lU:k≤l.length:=by omega
  have eo:(l.take k).length=k:=by rw[List.length_take,Nat.min_eq_left lU]
  have cN:=mz (l.take k) (.sl (List.take (k*5) cl) k (ex&&decide (k=l.length))) (cl.take (k*5)) (by rw[eo];exact wV) B1 (by rw[eo];omega) (vC l gb k) 0 l[k].2 _ hb xF sd
  rw[pR l lU]at cN
  have dD:=fun(hz:l[k].2.nodes≤100000) (hv:l[k].2.wf=true) (ht:l[k].2.ty (CL l k) 0=((nI (l.take k) (dv l k) l[k].2).1,0))=>OX l k lU (.sl (List.take (k*5) cl) k (ex&&decide (k=l.length))) (kY k (ints (oj l k))) (cl.take (k*5)) wV B1 hlen hO.isl l[k].2 (nI (l.take k) (dv l k) l[k].2).1 _ hb hz hv ht
  have rv:=Bq l hk
  by_cases he:(nI (l.take k) (dv l k) l[k].2).2=0
  ·rw[if_pos he]at rv
   have YC:aW l[k].2=0:=by
    unfold nI at he
    by_cases hv:aW l[k].2≠0
    ·rw[if_pos hv]at he;exact absurd he hv
    ·simpa using hv
   have dD:=dD (by have:=oo YC;omega) (jt YC) (by
    have:nI (l.take k) (dv l k) l[k].2=l[k].2.ty (CL l k) 0:=by unfold nI CL;rw[if_neg (by simp[YC])]
    rw[←this];exact Prod.ext rfl he)
   change ai pE 110 _ []=some (.i .i64 (l[k].2.val0 (LY (l.take k) (oj l k))),[])at dD
   generalize l[k].2.val0 (LY (l.take k) (oj l k))=q at dD rv
   generalize nI (l.take k) (dv l k) l[k].2=p at cN he
   obtain⟨p1,p2⟩:=p
   simp only at cN he
   subst he
   have rz:=iB hO (by omega) (sh:=sh) (T.i .i64 q) true
   generalize h3:ak fr 3=v3 at hO rz
   simp(maxDischargeDepth:=6) only[qF,ae,ah,aa,aj,ab,an,wv,uZ,dq,dw,splice,aH,repl,bH,reduceCtorEq,Nat.reduceLT,Nat.reduceLeDiff,Nat.reduceEqDiff,cq,kl,h0,h3,h4,bt,bh,hw,cN,rF,Il,cH.froz1,lU,y6,Nat.sub_zero,hO.fzV,dD,Wc,Wd,hO.notS,rz.1]
   refine⟨_,rfl,_,_,rfl, ?_, ?_, ?_⟩
   all_goals first|(simp(maxDischargeDepth:=6) only[aa,ab,reduceCtorEq,Nat.reduceEqDiff,h0];done)|skip
   simp(maxDischargeDepth:=6) only[aa,ab,Nat.reduceEqDiff]
   rw[rv,my]
   exact rz.2.1
  ·rw[if_neg he]at rv
   generalize nI (l.take k) (dv l k) l[k].2=p at cN he
   obtain⟨p1,p2⟩:=p
   simp only at cN he
   have rz:=iB hO (by omega) (sh:=sh) (T.i .i64 0) true
   generalize h3:ak fr 3=v3 at hO rz
   simp(maxDischargeDepth:=6) only[qF,ae,ah,aa,aj,ab,an,wv,uZ,dq,dw,splice,aH,repl,bH,reduceCtorEq,Nat.reduceLT,Nat.reduceLeDiff,Nat.reduceEqDiff,cq,kl,h0,h3,h4,bt,bh,hw,cN,rF,Il,cH.froz1,lU,y6,Nat.sub_zero,he,hO.notS,rz.1]
   refine⟨_,rfl,_,_,rfl, ?_, ?_, ?_⟩
   all_goals first|(simp(maxDischargeDepth:=6) only[aa,ab,reduceCtorEq,Nat.reduceEqDiff,h0];done)|skip
   simp(maxDischargeDepth:=6) only[aa,ab,Nat.reduceEqDiff]
   rw[rv,my]
   exact rz.2.1
 ·rintro _ ⟨fr,aX,rfl,h0,h4,hO⟩
  simp(maxDischargeDepth:=6) only[ae,ah,aa,ab,an,reduceCtorEq,Nat.reduceLT,Nat.reduceEqDiff,kl,h0,h4,hl.lenI,Int.lt_irrefl]
  refine⟨_,_,(by simp:Out.ext 0≠ .nrm),rfl,rfl, ?_,rfl⟩
  simp(maxDischargeDepth:=6) only[aa,ab,Nat.reduceEqDiff]
  exact hO
theorem G0:ai pE 58 [lT] []=some (kY l.length (ints (oj l l.length)),[]):=by
 have hL:=fun fr lh sh h0 h3 h4=>adp l lT cl hl eA hlen gb fr lh sh h0 h3 h4
 have hO:=fun m keep fr lh sh h0 h3 h4=>be.fzW (m:=m) (keep:=keep) (sh:=sh) (hL fr lh sh h0 h3 h4).2.1
 have zE:=fun keep fr lh sh h0 h3 h4=>be.fzV (keep:=keep) (sh:=sh) (hL fr lh sh h0 h3 h4).2.1
 rw[aG Sk (by simp[Vs])]
 simp(maxDischargeDepth:=6) only[qF,ae,ah,aa,ab,reduceCtorEq,Nat.reduceLT,Nat.reduceEqDiff,Vs,hL,zE,GK]
end
end Go.Proofs.YtfenhjpkomldcaaGreat
namespace Go.Proofs.YtfenhjpkomldcaaGreat
open Go Go.Ev
def RA(y:Ex):Prop:= ∀cs qB:List T,bE y cs→bE y qB→y.nodes≤100000→ai pE 60 [.agg cs,.agg qB] []=some (.b true,[])
theorem YD(xs:List Ex)(ih: ∀y∈xs,RA y)(a a':T)(cc Z2:List T)(ha:aR a xs.length cc)(hx:aK xs cc)(U2:aR a' xs.length Z2)(wy:aK xs Z2)(hn:a6 xs≤100000)(op num:Int)(s:List Nat)(g2 g3:Nat)(fr:Fr)(lh:aQ aB)(sh:List aB)
  (h2:ak fr 2= .ptr .L 2 g2 0) (h3:ak fr 3= .ptr .L 3 g3 0) (h5:ak fr 5= .i .i64 0) (o2:aq lh 2=⟨g2,.cells [.i .i64 op,.i .i64 num,.s s,a] 0 true⟩) (o3:aq lh 3=⟨g3,.cells [.i .i64 op,.i .i64 num,.s s,a'] 0 true⟩):
  DC pE 53 (.loop nP) ⟨fr,lh,sh⟩=some (.ext 0,⟨cz pE 53 nP fr lh sh,bK pE 53 nP fr lh sh,cw pE 53 nP fr lh sh⟩)∧cw pE 53 nP fr lh sh=sh:=by
 refine aD (P:=fun cO bp br=>br=sh)
  (aI (fun k st=> ∃(fr:Fr),st=⟨fr,lh,sh⟩∧ak fr 2= .ptr .L 2 g2 0∧ak fr 3= .ptr .L 3 g3 0∧ak fr 5= .i .i64 (k:Int)) _ xs.length ?_ ?_ 0 _ (Nat.zero_le _) ⟨fr,rfl,h2,h3,h5⟩)
 ·rintro k _ nN ⟨fr,rfl,h2,h3,h5⟩
  left
  have bt:(k:Int)<xs.length:=by omega
  have qK:=bX xs
  have Rw:=cT (List.getElem_mem nN)
  have hw:=aJ (k:=k) (cm (by omega))
  obtain⟨b,cb,rr,bh,cH,nA,hb⟩:=dm ha hx k nN
  obtain⟨b',RB,Vb,pj,Dr,adq,xf⟩:=dm U2 wy k nN
  have az:=ih xs[k] (List.getElem_mem nN) _ _ hb xf (by omega)
  simp(maxDischargeDepth:=6) only[qF,ae,ah,aa,aj,ab,Nat.reduceLT,Nat.reduceLeDiff,Nat.reduceEqDiff,cq,aZ,nP,h2,h3,h5,o2,o3,ha.lenI,bt,bh,pj,hw,az,L9,Ma,cH.froz1,Dr.froz1]
  refine⟨_,rfl,_,rfl, ?_, ?_, ?_⟩
  all_goals (simp(maxDischargeDepth:=6) only[aa,ab,Nat.reduceEqDiff,h2,h3])
 ·rintro _ ⟨fr,rfl,h2,h3,h5⟩
  simp(maxDischargeDepth:=6) only[ae,ah,aa,aj,ab,an,Nat.reduceLT,Nat.reduceEqDiff,nP,h2,h5,o2,ha.lenI,Int.lt_irrefl]
  exact⟨_,_,(by simp:Out.ext 0≠ .nrm),rfl,rfl,rfl⟩
theorem y7(x:Ex):RA x:=by
 induction x using Ex.ind with
 |h x ih=>
  intro cs qB hx wy hn
  obtain⟨a,cc,rfl,ha,mH⟩:=hx.cells
  obtain⟨a',Z2,rfl,U2,adr⟩:=wy.cells
  have nO:=x.nodes_eq
  have hL:=fun fr lh sh h2 h3 h5 o2 o3=>YD x.args (fun y hy=>ih y hy) a a' cc Z2 ha mH U2 adr (by omega) x.op x.num x.name 1 1 fr lh sh h2 h3 h5 o2 o3
  rw[aG Sl (by simp[Vt])]
  simp(maxDischargeDepth:=6) only[qF,ae,ah,aa,aj,ab,an,reduceCtorEq,Nat.reduceLT,Nat.reduceEqDiff,Vt,ha.lenI,U2.lenI,hL]
end Go.Proofs.YtfenhjpkomldcaaGreat
namespace Go.Proofs.YtfenhjpkomldcaaGreat
open Go Go.Ev
theorem kO{x:Ex}(hv:aW x=0):x.nodes≤200∧x.depth≤16:=by
 unfold aW at hv
 by_cases h:vD x
 ·rw[if_pos h]at hv;cases hv
 ·unfold vD at h;omega
theorem G2{x:Ex}(hw:x.wf=true)(hn:x.nodes≤200)(hd:x.depth≤16):aW x=0:=by
 unfold aW
 rw[if_neg (by unfold vD;omega),if_pos hw]
section
variable(l:Cs)(lT kT:T)(cl:List T)(hl:aR lT l.length cl)(eA:dK l cl)(hlen:l.length≤eG)(gb:E0 l)(EM:froz kT=true)
include hl eA hlen gb EM
theorem OZ: ∀i,i<l.length→Yy l lT kT i:=by
 have _:=gb
 intro i
 induction i using Nat.strongRecOn with
 |ind i ih=>
  intro hi s t m wC GZ hm
  have iE:lN (.one .str) (m.map fun p=>sK p.1) (m.map fun p=>T.agg p.2) (.s s) (.agg [.i .i64 0,.i .i64 0,.s [],.nilsl]) true=_:=TQ (kT:=sK) (vT:=T.agg) G3 (fun _=>rfl) m s (.agg [.i .i64 0,.i .i64 0,.s [],.nilsl])
  rw[aG V2 (by simp[UX])]
  cases hq:bU m s with
  |some cs=>
   obtain⟨t',RC,jo,hT⟩:=hm s cs hq
   rw[GZ]at RC
   injection RC with e1 e2
   subst e1
   rw[hq]at iE
   simp only at iE
   generalize fo t (vV l s)=y at*
   obtain⟨ca,cb,rfl,kF,nz⟩:=jo.cells
   simp(maxDischargeDepth:=6) only[qF,ae,ah,aa,aj,ab,an,pX,splice,Nat.reduceAdd,reduceCtorEq,Nat.reduceLT,Nat.reduceEqDiff,cq,iw,aZ,UX,sm1,sm0,dU,iE,kF.froz1]
   exact⟨_,m,rfl,jo,hT,hm,fun _ _ _ _=>rfl⟩
  |none=>
   rw[hq]at iE
   simp only at iE
   obtain⟨i',wh,By,hv,ht,_,RD,j1,_,_⟩:=sV GZ
   rw[wC]at By
   cases By
   obtain⟨b,cb,r,bh,cH,nA,hb⟩:=dL hl eA i hi
   obtain⟨cs,m',az,jo,Mo,zC,hT⟩:=EY l lT kT EM i (Nat.le_of_lt hi) (fun j hj=>ih j hj (by omega)) 0 l[i].2 t m _ hm hb (kO hv).1 (jt hv) ht
   rw[RD]at jo
   have hT:=hT rfl
   have Va:=T2 l s lT cl hl eA hlen
   rw[kg wC]at Va
   have KK: ¬(i:Int)<0:=by omega
   have ni:([T.s s]:List T).all froz1=true:=rfl
   have hpf:=fun lh sh keep (h:aq lh 3=⟨1,.cells [.s s] 0 true⟩)=>OL (f:=145) (sh:=sh) (keep:=keep) h ni
   have fh:bU m' s=none:=by rw[zC s i wC (Nat.le_refl _),hq]
   have jY:mO (.one .str) (.s s) (.agg cs) (m'.map fun p=>sK p.1) (m'.map fun p=>T.agg p.2)=_:=A8 (kT:=sK) (vT:=T.agg) G3 m' s cs fh
   have ads:pC l (m'++ [(s,cs)]):=by
    intro s' c' h'
    rw[kf]at h'
    cases h2:bU m' s' with
    |some u=>rw[h2]at h';cases h';exact Mo s' _ h2
    |none=>
     rw[h2]at h'
     simp only at h'
     split at h'
     ·rename_i e;subst e;cases h';exact⟨t,GZ,jo,hT⟩
     ·cases h'
   have hFr:LZ l (i+1) m (m'++ [(s,cs)]):=by
    intro s' j hj hle
    rw[kf,zC s' j hj (by omega)]
    cases bU m s' with
    |some u=>rfl
    |none=>
     simp only
     rw[if_neg]
     intro e;subst e
     rw[wC]at hj;cases hj;omega
   generalize fo t (vV l s)=y at*
   obtain⟨ca,RB,rfl,kF,nz⟩:=jo.cells
   simp(maxDischargeDepth:=6) only[qF,ae,ah,aa,aj,ab,an,aF,pX,splice,aH,Nat.reduceAdd,reduceCtorEq,Nat.reduceLT,Nat.reduceLeDiff,Nat.reduceEqDiff,cq,iw,aZ,fW,UX,sm1,sm0,dU,iE,hl.froz,hpf,Va,Wm,KK,bh,cH.kept1,az,L7,kF.froz1,EG,jY,adh]
   exact⟨_,_,rfl,jo,hT,ads,hFr⟩
end
end Go.Proofs.YtfenhjpkomldcaaGreat
