/- The reference's reduce. The values of constants, as the reference finds them. Equal expressions are found equal. The program's constants; Simplify. Conditions: the theorems' own. -/
import Derived.Test.YtfenhjpkomldcaaGreatM11
import Derived.KernelRfl
set_option maxRecDepth 100000
set_option linter.unusedSimpArgs false
set_option linter.unusedVariables false
set_option maxHeartbeats 16000000
namespace Go.Proofs.YtfenhjpkomldcaaGreat
open Go Go.Ev
theorem yn{d:Nat}{fr:Fr}{lh:aQ aA}{sh:List aA}(z:Ex)(b:T)(hb:froz1 b=true):ar pE (aa pE) d ⟨fr,lh,sh⟩ 65 [.agg [.i .i64 z.op,.i .i64 z.num,.s z.name,b]]=some (.b (jd z),⟨fr,lh,sh⟩):=by
 rw[Ye (by simp[j2,kG,l8,hb]),ye _ z b (.inr rfl)];rfl
theorem BV{d:Nat}{fr:Fr}{lh:aQ aA}{sh:List aA}(z:Ex)(b:T)(hb:froz1 b=true):ar pE (aa pE) d ⟨fr,lh,sh⟩ 163 [.agg [.i .i64 z.op,.i .i64 z.num,.s z.name,b]]=some (.b (lM z),⟨fr,lh,sh⟩):=by
 rw[SI (by simp[j2,kG,l8,hb]),BM _ z b (.inr rfl)];rfl
theorem yo(x:Ex)(hw:x.wf=true)(a:T)(cc:List T)(ha:aN a 1 cc)(hx:aL [x] cc):
  ∃cs,aa pE 109 [.agg [.i .i64 19,.i .i64 0,.s [],a]] []=some (.agg cs,[])∧bj (if x.op=19 then x.args.headD (bz 0 0)else .mk 19 0 [] [x]) cs:=by
 obtain⟨b0,r0,bB,⟨cb,fu,oq⟩,kJ,lp⟩:=lj (xs:= [x]) ha hx 0 (by simp) 0 rfl
 simp only[List.getElem_cons_zero]at bB lp fu oq
 have hn:=jD 19 [x] a cc ha hx
 rw[aD tq (by simp[dX])]
 by_cases m4:x.op=19
 ·rw[if_pos m4]
  have hlen:0<x.args.length:=by
   obtain⟨_,_,Hs,_⟩:=er hw
   rw[m4]at Hs;simp[aW]at Hs;omega
  obtain⟨b1,r1,bK,_,jl,gG⟩:=lj fu oq 0 hlen 0 rfl
  have hh:x.args.headD (bz 0 0)=x.args[0]:=by
   generalize x.args=l at hlen
   cases l with
   |nil=>simp at hlen
   |cons y ys=>rfl
  rw[hh]
  simp(maxDischargeDepth:=6) only[qF,ah,ai,ab,aj,ae,ak,aG,splice,aF,Nat.reduceAdd,Nat.reduceLT,Nat.reduceLeDiff,Nat.reduceEqDiff,Int.reduceEq,dX,bB,m4,bK,jl]
  exact⟨_,rfl,gG⟩
 ·rw[if_neg m4]
  simp(maxDischargeDepth:=6) only[qF,ah,ai,ab,aj,ae,ak,aG,splice,aF,Nat.reduceAdd,Nat.reduceLT,Nat.reduceLeDiff,Nat.reduceEqDiff,Int.reduceEq,dX,ha.froz1,bB,m4]
  exact⟨_,rfl,hn⟩
theorem Lq{op:Int}{ys:List Ex}(fy:fG ys=true)(h7:7≤op)(Aq:op≤22)(aX:aW op ys.length=true)(a:T)(cc:List T)(ha:aN a ys.length cc)(hx:aL ys cc):
  ∃cs,aa pE 109 [.agg [.i .i64 op,.i .i64 0,.s [],a]] []=some (.agg cs,[])∧bj (mB op ys) cs:=by
 have hnd:=jD op ys a cc ha hx
 have same: ∀vH,op=vH→(vH=7∨vH=12∨vH=13∨vH=15∨vH=16∨vH=17∨vH=18)→mB op ys= .mk op 0 [] ys:=by
  rintro vH rfl ho
  match ys with
  | []=>rfl
  | [x]=>show(if op=19∧x.op=19 then _ else _)=_;rw[if_neg (by omega)]
  | [x,y]=>
    rw[fY];unfold pk
    rw[if_neg (by omega),if_neg (by omega),if_neg (by omega),if_neg (by omega),if_neg (by omega),if_neg (by omega),if_neg (by omega)]
  | [x,y,z]=>show(if op=14 then _ else _)=_;rw[if_neg (by omega)]
  |_::_::_::_::_=>rfl
 have gT:(op=7∨op=12∨op=13∨op=15∨op=16∨op=17∨op=18)→ ∃cs,aa pE 109 [.agg [.i .i64 op,.i .i64 0,.s [],a]] []=some (.agg cs,[])∧bj (mB op ys) cs:=by
  intro ho
  rw[same op rfl ho,aD tq (by simp[dX])]
  rcases ho with rfl|rfl|rfl|rfl|rfl|rfl|rfl <;>
   (simp(maxDischargeDepth:=6) only[qF,ah,ai,ab,aj,ae,ak,aG,splice,aF,Nat.reduceAdd,Nat.reduceLT,Nat.reduceLeDiff,Nat.reduceEqDiff,Int.reduceEq,dX,ha.froz1];exact⟨_,rfl,hnd⟩)
 have h12:op≠12→op≠13→op≠7→op≠19→op≠14→op≠15→ ∃x y,ys= [x,y]:=fun e1 e2 e3 e4 e5 e6=>yf (ys:=ys) (by
  unfold aW at aX
  rw[if_neg (by omega),if_neg (by omega),if_neg (by omega),if_neg (by omega)]at aX
  simpa using aX)
 by_cases hs:op=7∨op=12∨op=13∨op=15∨op=16∨op=17∨op=18
 ·exact gT hs
 by_cases m4:op=19
 ·subst m4
  obtain⟨x,rfl⟩:=UL (ys:=ys) (by simpa[aW]using aX)
  obtain⟨cs,h1,h2⟩:=yo x (by rw[fG,Bool.and_eq_true]at fy;exact fy.1) a cc ha hx
  refine⟨cs,h1, ?_⟩
  show bj (if(19:Int)=19∧x.op=19 then _ else _) cs
  simpa using h2
 by_cases ep:op=14
 ·subst ep
  obtain⟨x,y,z,rfl⟩:=UK (ys:=ys) (by simpa[aW]using aX)
  obtain⟨b0,r0,bB,_,kJ,lp⟩:=lj ha hx 0 (by simp) 0 rfl
  obtain⟨b1,r1,bK,_,jl,gG⟩:=lj ha hx 1 (by simp) 1 rfl
  obtain⟨b2,r2,si,_,NM,yX⟩:=lj ha hx 2 (by simp) 2 rfl
  simp only[List.getElem_cons_zero,List.getElem_cons_succ]at bB bK si lp gG yX
  rw[aD tq (by simp[dX])]
  show∃cs,_∧bj (if x.op=4 then y else if x.op=5 then z else .mk 14 0 [] [x,y,z]) cs
  by_cases a4:x.op=4
  ·simp(maxDischargeDepth:=6) only[qF,ah,ai,ab,aj,ae,ak,aG,splice,aF,Nat.reduceAdd,Nat.reduceLT,Nat.reduceLeDiff,Nat.reduceEqDiff,Int.reduceEq,dX,bB,bK,jl,a4]
   exact⟨_,rfl,gG⟩
  by_cases a5:x.op=5
  ·simp(maxDischargeDepth:=6) only[qF,ah,ai,ab,aj,ae,ak,aG,splice,aF,Nat.reduceAdd,Nat.reduceLT,Nat.reduceLeDiff,Nat.reduceEqDiff,Int.reduceEq,dX,bB,bK,si,NM,a5]
   exact⟨_,rfl,yX⟩
  ·simp(maxDischargeDepth:=6) only[qF,ah,ai,ab,aj,ae,ak,aG,dH,dQ,splice,aF,repl,Nat.reduceAdd,Nat.reduceLT,Nat.reduceLeDiff,Nat.reduceEqDiff,Int.reduceEq,dX,ha.froz1,bB,bK,si,kJ,a4,a5]
   exact⟨_,rfl,hnd⟩
 obtain⟨x,y,rfl⟩:=h12 (by omega) (by omega) (by omega) m4 ep (by omega)
 obtain⟨b0,r0,bB,_,kJ,lp⟩:=lj (xs:= [x,y]) ha hx 0 (by simp) 0 rfl
 obtain⟨b1,r1,bK,_,jl,gG⟩:=lj (xs:= [x,y]) ha hx 1 (by simp) 1 rfl
 simp only[List.getElem_cons_zero,List.getElem_cons_succ]at bB bK lp gG
 have FC:=fun d fr lh sh=>yn (d:=d) (fr:=fr) (lh:=lh) (sh:=sh) x b0 kJ
 have tB:=fun d fr lh sh=>yn (d:=d) (fr:=fr) (lh:=lh) (sh:=sh) y b1 jl
 have Wa:=fun d fr lh sh=>BV (d:=d) (fr:=fr) (lh:=lh) (sh:=sh) x b0 kJ
 have HE:=fun d fr lh sh=>BV (d:=d) (fr:=fr) (lh:=lh) (sh:=sh) y b1 jl
 have Zp:x.wf=true:=by rw[fG,Bool.and_eq_true]at fy;exact fy.1
 obtain⟨c1,Qf,jO⟩:=yo x Zp (.sl [.i .i64 x.op,.i .i64 x.num,.s x.name,b0] 1 true) _ (Or.inr ⟨true,rfl⟩) (aL.one lp)
 rw[aD tq (by simp[dX]),fY]
 unfold pk
 rcases(show op=20∨op=21∨op=22∨op=8∨op=9∨op=10∨op=11 by omega)with rfl|rfl|rfl|rfl|rfl|rfl|rfl
 ·by_cases a5:x.op=5
  ·simp(maxDischargeDepth:=6) only[qF,ah,ai,ab,aj,ae,ak,aG,splice,aF,Nat.reduceAdd,Nat.reduceLT,Nat.reduceLeDiff,Nat.reduceEqDiff,Int.reduceEq,dX,bB,bK,a5,true_or]
   exact⟨_,rfl,bO _ _ _ cD⟩
  by_cases b5:y.op=5
  ·simp(maxDischargeDepth:=6) only[qF,ah,ai,ab,aj,ae,ak,aG,dH,dQ,splice,aF,repl,Nat.reduceAdd,Nat.reduceLT,Nat.reduceLeDiff,Nat.reduceEqDiff,Int.reduceEq,dX,bB,bK,kJ,a5,b5,or_true]
   exact⟨_,rfl,bO _ _ _ cD⟩
  by_cases a4:x.op=4
  ·simp(maxDischargeDepth:=6) only[qF,ah,ai,ab,aj,ae,ak,aG,splice,aF,Nat.reduceAdd,Nat.reduceLT,Nat.reduceLeDiff,Nat.reduceEqDiff,Int.reduceEq,dX,bB,bK,jl,b5,a4,or_self]
   exact⟨_,rfl,gG⟩
  by_cases b4:y.op=4
  ·rw[b4]at gG
   simp(maxDischargeDepth:=6) only[qF,ah,ai,ab,aj,ae,ak,aG,splice,aF,Nat.reduceAdd,Nat.reduceLT,Nat.reduceLeDiff,Nat.reduceEqDiff,Int.reduceEq,dX,bB,bK,kJ,a5,a4,b4,or_self]
   exact⟨_,rfl,lp⟩
  ·simp(maxDischargeDepth:=6) only[qF,ah,ai,ab,aj,ae,ak,aG,dH,dQ,splice,aF,repl,Nat.reduceAdd,Nat.reduceLT,Nat.reduceLeDiff,Nat.reduceEqDiff,Int.reduceEq,dX,ha.froz1,bB,bK,kJ,a5,b5,a4,b4,or_self]
   exact⟨_,rfl,hnd⟩
 ·by_cases a4:x.op=4
  ·simp(maxDischargeDepth:=6) only[qF,ah,ai,ab,aj,ae,ak,aG,splice,aF,Nat.reduceAdd,Nat.reduceLT,Nat.reduceLeDiff,Nat.reduceEqDiff,Int.reduceEq,dX,bB,bK,a4,true_or]
   exact⟨_,rfl,bO _ _ _ cD⟩
  by_cases b4:y.op=4
  ·simp(maxDischargeDepth:=6) only[qF,ah,ai,ab,aj,ae,ak,aG,splice,aF,Nat.reduceAdd,Nat.reduceLT,Nat.reduceLeDiff,Nat.reduceEqDiff,Int.reduceEq,dX,bB,bK,a4,b4,or_true]
   exact⟨_,rfl,bO _ _ _ cD⟩
  by_cases a5:x.op=5
  ·simp(maxDischargeDepth:=6) only[qF,ah,ai,ab,aj,ae,ak,aG,splice,aF,Nat.reduceAdd,Nat.reduceLT,Nat.reduceLeDiff,Nat.reduceEqDiff,Int.reduceEq,dX,bB,bK,jl,a5,b4,or_self]
   exact⟨_,rfl,gG⟩
  by_cases b5:y.op=5
  ·rw[b5]at gG
   simp(maxDischargeDepth:=6) only[qF,ah,ai,ab,aj,ae,ak,aG,dH,dQ,splice,aF,repl,Nat.reduceAdd,Nat.reduceLT,Nat.reduceLeDiff,Nat.reduceEqDiff,Int.reduceEq,dX,bB,bK,kJ,a5,b5,a4,or_self]
   exact⟨_,rfl,lp⟩
  ·simp(maxDischargeDepth:=6) only[qF,ah,ai,ab,aj,ae,ak,aG,dH,dQ,splice,aF,repl,Nat.reduceAdd,Nat.reduceLT,Nat.reduceLeDiff,Nat.reduceEqDiff,Int.reduceEq,dX,ha.froz1,bB,bK,kJ,a5,b5,a4,b4,or_self]
   exact⟨_,rfl,hnd⟩
 ·by_cases a5:x.op=5
  ·simp(maxDischargeDepth:=6) only[qF,ah,ai,ab,aj,ae,ak,aG,splice,aF,Nat.reduceAdd,Nat.reduceLT,Nat.reduceLeDiff,Nat.reduceEqDiff,Int.reduceEq,dX,bB,bK,a5,true_or]
   exact⟨_,rfl,bO _ _ _ cD⟩
  by_cases b4:y.op=4
  ·simp(maxDischargeDepth:=6) only[qF,ah,ai,ab,aj,ae,ak,aG,splice,aF,Nat.reduceAdd,Nat.reduceLT,Nat.reduceLeDiff,Nat.reduceEqDiff,Int.reduceEq,dX,bB,bK,a5,b4,or_true]
   exact⟨_,rfl,bO _ _ _ cD⟩
  by_cases a4:x.op=4
  ·simp(maxDischargeDepth:=6) only[qF,ah,ai,ab,aj,ae,ak,aG,splice,aF,Nat.reduceAdd,Nat.reduceLT,Nat.reduceLeDiff,Nat.reduceEqDiff,Int.reduceEq,dX,bB,bK,jl,b4,a4,or_self]
   exact⟨_,rfl,gG⟩
  by_cases b5:y.op=5
  ·rw[b5]at gG bK
   obtain⟨la,lc,rfl,ny,wu⟩:=jO.cells
   simp(maxDischargeDepth:=6) only[qF,ah,ai,ab,aj,ae,ak,aG,dH,dQ,splice,aF,repl,Nat.reduceAdd,Nat.reduceLT,Nat.reduceLeDiff,Nat.reduceEqDiff,Int.reduceEq,dX,bB,bK,kJ,a5,b5,a4,or_self,Qf,Se,ny.froz1]
   refine⟨_,rfl, ?_⟩
   exact jO
  ·simp(maxDischargeDepth:=6) only[qF,ah,ai,ab,aj,ae,ak,aG,dH,dQ,splice,aF,repl,Nat.reduceAdd,Nat.reduceLT,Nat.reduceLeDiff,Nat.reduceEqDiff,Int.reduceEq,dX,ha.froz1,bB,bK,kJ,a5,b4,a4,b5,or_self]
   exact⟨_,rfl,hnd⟩
 ·cases e1:jd y with
  |true=>
   rw[e1]at tB
   simp(maxDischargeDepth:=6) only[qF,ah,ai,ab,aj,ae,ak,aG,splice,aF,Nat.reduceAdd,Nat.reduceLT,Nat.reduceLeDiff,Nat.reduceEqDiff,Int.reduceEq,dX,bB,bK,kJ,tB]
   exact⟨_,rfl,lp⟩
  |false=>
   rw[e1]at tB
   cases e0:jd x with
   |true=>
    rw[e0]at FC
    simp(maxDischargeDepth:=6) only[qF,ah,ai,ab,aj,ae,ak,aG,splice,aF,Nat.reduceAdd,Nat.reduceLT,Nat.reduceLeDiff,Nat.reduceEqDiff,Int.reduceEq,dX,bB,bK,jl,tB,FC]
    exact⟨_,rfl,gG⟩
   |false=>
    rw[e0]at FC
    simp(maxDischargeDepth:=6) only[qF,ah,ai,ab,aj,ae,ak,aG,splice,aF,Nat.reduceAdd,Nat.reduceLT,Nat.reduceLeDiff,Nat.reduceEqDiff,Int.reduceEq,dX,ha.froz1,bB,bK,tB,FC]
    exact⟨_,rfl,hnd⟩
 ·cases e1:jd y with
  |true=>
   rw[e1]at tB
   simp(maxDischargeDepth:=6) only[qF,ah,ai,ab,aj,ae,ak,aG,splice,aF,Nat.reduceAdd,Nat.reduceLT,Nat.reduceLeDiff,Nat.reduceEqDiff,Int.reduceEq,dX,bB,bK,kJ,tB]
   exact⟨_,rfl,lp⟩
  |false=>
   rw[e1]at tB
   simp(maxDischargeDepth:=6) only[qF,ah,ai,ab,aj,ae,ak,aG,splice,aF,Nat.reduceAdd,Nat.reduceLT,Nat.reduceLeDiff,Nat.reduceEqDiff,Int.reduceEq,dX,ha.froz1,bB,bK,tB]
   exact⟨_,rfl,hnd⟩
 ·cases e1:lM y with
  |true=>
   rw[e1]at HE
   simp(maxDischargeDepth:=6) only[qF,ah,ai,ab,aj,ae,ak,aG,splice,aF,Nat.reduceAdd,Nat.reduceLT,Nat.reduceLeDiff,Nat.reduceEqDiff,Int.reduceEq,dX,bB,bK,kJ,HE]
   exact⟨_,rfl,lp⟩
  |false=>
   rw[e1]at HE
   cases e0:lM x with
   |true=>
    rw[e0]at Wa
    simp(maxDischargeDepth:=6) only[qF,ah,ai,ab,aj,ae,ak,aG,splice,aF,Nat.reduceAdd,Nat.reduceLT,Nat.reduceLeDiff,Nat.reduceEqDiff,Int.reduceEq,dX,bB,bK,jl,HE,Wa]
    exact⟨_,rfl,gG⟩
   |false=>
    rw[e0]at Wa
    simp(maxDischargeDepth:=6) only[qF,ah,ai,ab,aj,ae,ak,aG,splice,aF,Nat.reduceAdd,Nat.reduceLT,Nat.reduceLeDiff,Nat.reduceEqDiff,Int.reduceEq,dX,ha.froz1,bB,bK,HE,Wa]
    exact⟨_,rfl,hnd⟩
 ·cases e1:lM y with
  |true=>
   rw[e1]at HE
   simp(maxDischargeDepth:=6) only[qF,ah,ai,ab,aj,ae,ak,aG,splice,aF,Nat.reduceAdd,Nat.reduceLT,Nat.reduceLeDiff,Nat.reduceEqDiff,Int.reduceEq,dX,bB,bK,kJ,HE]
   exact⟨_,rfl,lp⟩
  |false=>
   rw[e1]at HE
   simp(maxDischargeDepth:=6) only[qF,ah,ai,ab,aj,ae,ak,aG,splice,aF,Nat.reduceAdd,Nat.reduceLT,Nat.reduceLeDiff,Nat.reduceEqDiff,Int.reduceEq,dX,ha.froz1,bB,bK,HE]
   exact⟨_,rfl,hnd⟩
end Go.Proofs.YtfenhjpkomldcaaGreat
namespace Go.Proofs.YtfenhjpkomldcaaGreat
open Go Go.Ev
theorem HF(op num:Int)(h:op=1∨op=2∨op=3∨op=4∨op=5)(a:T):aa pE 108 [.i .i64 op,.i .i64 num,a] []=some (.i .i64 (if op=1∨op=2∨op=3 then num else if op=4 then 1 else 0),[]):=by
 rw[aD EX (by simp[gM])]
 rcases h with rfl|rfl|rfl|rfl|rfl <;> simp(maxDischargeDepth:=6) only[qF,ah,ai,ab,aj,ae,ak,aY,aK,Nat.reduceAdd,reduceCtorEq,Nat.reduceLT,Nat.reduceEqDiff,Int.reduceEq,gM,true_or,or_true,or_self]
theorem yp{cl:List Nat→Int×Int}{vx:List Nat→Int}(hc:Hw cl vx){scope:Int}(pR: ∀s,dE scope s=0): ∀{xs:List Ex} {ts:List Int},fG xs=true→fE cl scope xs= .ok ts→ou ts (fD vx xs)
 | [],ts,_,h=>by rw[fE]at h;cases h;trivial
 |x::xs,ts,hw,h=>by
  obtain⟨t,us,rfl,e1,e2⟩:=gY h
  rw[fG,Bool.and_eq_true]at hw
  exact⟨(BO hc scope pR x t hw.1 e1).2,yp hc pR hw.2 e2⟩
theorem uh(l:Cs)(k:Nat): ∀n,n≤k→n≤l.length→cX (l.take k) n=cX l n
 |0,_,_=>rfl
 |n+1,h,hl=>by
  rw[mi l (by omega),mi (l.take k) (by rw[List.length_take];omega),uh l k n (by omega) (by omega),List.take_take,Nat.min_eq_left (by omega),List.getElem_take]
theorem sq(l:Cs){k:Nat}(hk:k≤l.length)(x:Ex):dT (l.take k) 0 x=ll (l.take k) (cX l k) x:=by
 unfold dT ll
 rw[List.length_take,Nat.min_eq_left hk,uh l k k (Nat.le_refl _) hk]
section
variable(l:Cs)(n:Nat)(m9:n≤l.length)(lT vT:T)(cl:List T)(hl:aN lT n cl)(dq:df (l.take n) cl)(hlen:l.length≤gi)(hv:aN vT n (ints (lO l n)))
def NS(y:Ex):Prop:= ∀k cs,bj y cs→y.nodes≤100000→y.wf=true→y.ty (CL l n) 0=(k,0)→aa pE 110 [vT,lT,.i .i64 0,.nilsl,.agg cs] []=some (.i .i64 (y.val0 (VX l n)),[])
include hl hv
theorem UU(xs:List Ex)(ih: ∀y∈xs,NS l n lT vT y)(a:T)(cc:List T)(ha:aN a xs.length cc)(hx:aL xs cc)(hn:aR xs≤100000)(fy:fG xs=true)(ts:List Int)(dR:fE (CL l n) 0 xs= .ok ts)(op num:Int)(s:List Nat)(g:Nat)(fr:Fr)(lh:aQ aA)(sh:List aA)
  (h0:an fr 0=vT) (h1:an fr 1=lT) (h2:an fr 2= .i .i64 0) (h3:an fr 3= .nilsl) (h9:an fr 9= .ptr .L 9 g 0) (Ax:an fr 13= .nilsl) (ep:an fr 14= .i .i64 0) (o9:aE lh 9=⟨g,.cells [.i .i64 op,.i .i64 num,.s s,a] 0 true⟩):
  DC pE 70 (.loop fq) ⟨fr,lh,sh⟩=some (.ext 0,⟨ev pE 70 fq fr lh sh,eP pE 70 fq fr lh sh,eJ pE 70 fq fr lh sh⟩)∧
  (bG (eP pE 70 fq fr lh sh) (an (ev pE 70 fq fr lh sh) 13) 63 1 xs.length (ints (fD (VX l n) xs))∧aE (eP pE 70 fq fr lh sh) 9=aE lh 9∧eJ pE 70 fq fr lh sh=sh):=by
 refine a6 (P:=fun g7 dj cq=>bG dj (an g7 13) 63 1 xs.length (ints (fD (VX l n) xs))∧aE dj 9=aE lh 9∧cq=sh)
  (bt (fun k st=> ∃(fr:Fr) (dS:aQ aA),st=⟨fr,dS,sh⟩∧an fr 0=vT∧an fr 1=lT∧an fr 2= .i .i64 0∧an fr 3= .nilsl∧an fr 9= .ptr .L 9 g 0∧an fr 14= .i .i64 (k:Int)∧aE dS 9=aE lh 9∧
    bG dS (an fr 13) 63 1 k (ints (fD (VX l n) (xs.take k)))) _ xs.length ?_ ?_ 0 _ (Nat.zero_le _) ⟨fr,lh,rfl,h0,h1,h2,h3,h9,ep,rfl,by rw[Ax];exact bG.nil⟩)
 ·rintro k _ lr ⟨fr,dS,rfl,h0,h1,h2,h3,h9,ep,Qq,hO⟩
  left
  rw[o9]at Qq
  have dN:(k:Int)<xs.length:=by omega
  have nR:=bE xs
  have NP:=cB (List.getElem_mem lr)
  have hw:=cE (k:=k) (c5 (by omega))
  obtain⟨b,cb,rr,cQ,fu,oq,hb⟩:=dV ha hx k lr
  obtain⟨t,ht⟩:=qM dR k lr
  have aB:=ih xs[k] (List.getElem_mem lr) t _ hb (by omega) (gL.1 fy _ (List.getElem_mem lr)) ht
  have oH:=gb hO (c5 (by omega)) (sh:=sh) (T.i .i64 (xs[k].val0 (VX l n))) true
  have Eg:fD (VX l n) (xs.take (k+1))=fD (VX l n) (xs.take k)++ [xs[k].val0 (VX l n)]:=by
   rw[List.take_succ_eq_append_getElem lr,ma,List.map_append,←ma];rfl
  generalize xs[k].val0 (VX l n)=q at aB oH Eg
  generalize Ax:an fr 13=v13 at hO oH
  simp(maxDischargeDepth:=6) only[qF,ah,ai,ab,aj,ae,ak,dH,dQ,splice,aF,repl,reduceCtorEq,Nat.reduceLT,Nat.reduceLeDiff,Nat.reduceEqDiff,fq,h0,h1,h2,h3,h9,Ax,ep,Qq,ha.lenI,dN,cQ,hw,aB,Sg,fu.froz1,hv.froz,hl.froz,hO.notS,oH.1]
  refine⟨_,rfl,_,_,rfl, ?_, ?_, ?_, ?_, ?_, ?_, ?_, ?_⟩
  all_goals first|(simp(maxDischargeDepth:=6) only[ab,ae,reduceCtorEq,Nat.reduceEqDiff,h0,h1,h2,h3,h9];done)|skip
  ·rw[oH.2.2 9 (by decide),Qq,o9]
  ·simp(maxDischargeDepth:=6) only[ab,ae,Nat.reduceEqDiff]
   rw[Eg,j6]
   exact oH.2.1
 ·rintro _ ⟨fr,dS,rfl,h0,h1,h2,h3,h9,ep,Qq,hO⟩
  rw[o9]at Qq
  rw[List.take_length]at hO
  simp(maxDischargeDepth:=6) only[ah,ai,ab,aj,ae,ak,Nat.reduceLT,Nat.reduceEqDiff,fq,h9,ep,Qq,ha.lenI,Int.lt_irrefl]
  refine⟨_,_,(by simp:Out.ext 0≠ .nrm),rfl,rfl, ?_,by rw[Qq,o9],rfl⟩
  simp(maxDischargeDepth:=6) only[ab,ae,Nat.reduceEqDiff]
  exact hO
include m9 dq hlen
theorem Lr(x:Ex):NS l n lT vT x:=by
 induction x using Ex.ind with
 |h x ih=>
  intro k cs hx hn fy ht
  obtain⟨a,cc,rfl,ha,g5⟩:=hx.cells
  obtain⟨h1,h2,aX,gr,iA,jC⟩:=er fy
  have hnd:=x.nodes_eq
  rw[aD AV (by simp[y9]),Ex.val0_eq]
  by_cases h6:x.op=6
  ·rw[if_pos h6]
   have gm:=sd 0 x.name
   unfold k6 at gm
   rw[Ex.ty_eq,if_pos h6,if_neg (by simp[jE])]at ht
   rw[if_pos (jE _),jE]at gm
   obtain⟨i,lf,kH,th,_⟩:=ov m9 ht
   have yq:cN (l.take n) x.name=some i:=by rw[mc,th];simp[kH]
   have IL:=vL (l.take n) x.name lT cl (by rw[List.length_take,Nat.min_eq_left m9];exact hl) dq (by rw[List.length_take];omega)
   rw[iL yq]at IL
   have e1:=fun kk=>gz (ts:=lO l n) (by rw[fv];exact hv) (k:=i) (by rw[fv];exact kH) kk
   have e2:VX l n x.name=(lO l n)[i]'(by rw[fv];exact kH):=by
    unfold VX IJ;rw[yq];simp[List.getD_eq_getElem?_getD,List.getElem?_eq_getElem (show i<(lO l n).length by rw[fv];exact kH)]
   rw[e2]
   simp(maxDischargeDepth:=6) only[qF,ah,ai,ab,aj,ae,ak,Nat.reduceAdd,reduceCtorEq,Nat.reduceLT,Nat.reduceEqDiff,Int.reduceEq,y9,h6,gm,uN,IL,AU,hl.froz,e1]
  ·rw[if_neg h6]
   obtain⟨ts,gI,hr,hk⟩:=kL ht h6
   have hL:=fun fr lh sh h0 h1 h2 h3 h9 Ax ep o9=>UU l n lT vT cl hl hv x.args (fun y hy=>ih y hy) a cc ha g5 (by omega) jC ts gI x.op x.num x.name 1 fr lh sh h0 h1 h2 h3 h9 Ax ep o9
   have hO:=fun fr lh sh h0 h1 h2 h3 h9 Ax ep o9=>bG.fzV (sh:=sh) (keep:=false) (hL fr lh sh h0 h1 h2 h3 h9 Ax ep o9).2.1
   have sM:=bE x.args
   have kH:=yp (Hy l n m9) (scope:=0) (fun s=>jE s) jC gI
   have htl:=mb gI
   have yt:(fD (VX l n) x.args).length=x.args.length:=by rw[ma,List.length_map]
   by_cases h5:x.op≤5
   ·have Ls:x.op=1∨x.op=2∨x.op=3∨x.op=4∨x.op=5:=by omega
    have Ay:=HF x.op x.num Ls (jb x.args.length (ints (fD (VX l n) x.args)))
    have hval:(if x.op=1∨x.op=2∨x.op=3 then x.num else if x.op=4 then 1 else if x.op=5 then 0 else oG x.op (fD (VX l n) x.args))=(if x.op=1∨x.op=2∨x.op=3 then x.num else if x.op=4 then 1 else 0):=by
     rcases Ls with h|h|h|h|h <;> simp[h]
    rw[hval]
    generalize (if x.op=1∨x.op=2∨x.op=3 then x.num else if x.op=4 then 1 else 0)=q at Ay ⊢
    simp(maxDischargeDepth:=6) only[qF,ah,ai,ab,aj,ae,ak,Nat.reduceShiftRight,Nat.reduceMod,Nat.reduceAdd,reduceCtorEq,Nat.reduceLT,Nat.reduceEqDiff,y9,tm,h6,hL,hO,Ay,EY]
   ·have h7:7≤x.op:=by omega
    have oH:=yc kH h7 h2 (by rw[htl];exact aX) hr hk
    have Ay:=ui x.op x.num (fD (VX l n) x.args) (jb x.args.length (ints (fD (VX l n) x.args))) (by rw[yt];exact gV (fun h0=>by rw[h0]at yt;rw[List.length_eq_zero_iff.1 yt];rfl)) (by rw[yt];exact c5 (by omega)) h7 h2 (by rw[yt];exact aX) oH.1
    rw[if_neg (by omega),if_neg (by omega),if_neg (by omega)]
    generalize oG x.op (fD (VX l n) x.args)=q at Ay ⊢
    simp(maxDischargeDepth:=6) only[qF,ah,ai,ab,aj,ae,ak,Nat.reduceShiftRight,Nat.reduceMod,Nat.reduceAdd,reduceCtorEq,Nat.reduceLT,Nat.reduceEqDiff,y9,tm,h6,hL,hO,Ay,EY]
end
section
variable(l:Cs)(lT:T)(cl:List T)(hl:aN lT l.length cl)(dq:df l cl)(hlen:l.length≤gi)(j7:DQ l)
theorem BW{k:Nat}(hk:k<l.length)(hl:aN lT l.length cl)(dq:df l cl): ∃ex,lT= .sl cl l.length ex∧aN (.sl (List.take (k*5) cl) k (ex&&decide (k=l.length))) k (cl.take (k*5))∧df (l.take k) (cl.take (k*5))∧cl.length=l.length*5:=by
 rcases hl with⟨_,hz,_⟩|⟨ex,rfl⟩
 ·omega
 ·exact⟨ex,rfl,Or.inr ⟨_,rfl⟩,dq.take k,dq.len⟩
theorem yu(j7:DQ l)(k:Nat):DQ (l.take k):=fun c hc=>j7 c (List.mem_of_mem_take hc)
include hl dq hlen j7
theorem Zv(fr:Fr)(lh:aQ aA)(sh:List aA)(h0:an fr 0=lT)(h3:an fr 3= .nilsl)(h4:an fr 4= .i .i64 0):
  DC pE 43 (.loop iN) ⟨fr,lh,sh⟩=some (.ext 0,⟨ev pE 43 iN fr lh sh,eP pE 43 iN fr lh sh,eJ pE 43 iN fr lh sh⟩)∧
  (bG (eP pE 43 iN fr lh sh) (an (ev pE 43 iN fr lh sh) 3) 41 1 l.length (ints (lO l l.length))∧eJ pE 43 iN fr lh sh=sh):=by
 refine a6 (P:=fun g7 dj cq=>bG dj (an g7 3) 41 1 l.length (ints (lO l l.length))∧cq=sh)
  (bt (fun k st=> ∃(fr:Fr) (dS:aQ aA),st=⟨fr,dS,sh⟩∧an fr 0=lT∧an fr 4= .i .i64 (k:Int)∧bG dS (an fr 3) 41 1 k (ints (lO l k))) _ l.length ?_ ?_ 0 _ (Nat.zero_le _) ⟨fr,lh,rfl,h0,h4,by rw[h3];exact bG.nil⟩)
 ·rintro k _ hk ⟨fr,dS,rfl,h0,h4,hO⟩
  left
  have dN:(k:Int)<l.length:=by omega
  have hw:=cE (k:=k) (by omega)
  obtain⟨b,cb,r,cQ,fu,oq,hb⟩:=fZ hl dq k hk
  obtain⟨Rj,Qr⟩:=j7 l[k] (List.getElem_mem hk)
  obtain⟨ex,rfl,rj,sW,DR⟩:=BW l lT cl hk hl dq
  have qz:k≤l.length:=by omega
  have dG:(l.take k).length=k:=by rw[List.length_take,Nat.min_eq_left qz]
  have dR:=oz (l.take k) (.sl (List.take (k*5) cl) k (ex&&decide (k=l.length))) (cl.take (k*5)) (by rw[dG];exact rj) sW (by rw[dG];omega) (yu l j7 k) 0 l[k].2 _ hb Rj Qr
  rw[sq l qz]at dR
  have hval:=fun(hz:l[k].2.nodes≤100000) (hv:l[k].2.wf=true) (ht:l[k].2.ty (CL l k) 0=((ll (l.take k) (cX l k) l[k].2).1,0))=>Lr l k qz (.sl (List.take (k*5) cl) k (ex&&decide (k=l.length))) (jb k (ints (lO l k))) (cl.take (k*5)) rj sW hlen hO.isl l[k].2 (ll (l.take k) (cX l k) l[k].2).1 _ hb hz hv ht
  have Eg:=yh l hk
  by_cases he:(ll (l.take k) (cX l k) l[k].2).2=0
  ·rw[if_pos he]at Eg
   have UW:bF l[k].2=0:=by
    unfold ll at he
    by_cases hv:bF l[k].2≠0
    ·rw[if_pos hv]at he;exact absurd he hv
    ·simpa using hv
   have hval:=hval (by have:=oA UW;omega) (gZ UW) (by
    have:ll (l.take k) (cX l k) l[k].2=l[k].2.ty (CL l k) 0:=by unfold ll CL;rw[if_neg (by simp[UW])]
    rw[←this];exact Prod.ext rfl he)
   change aa pE 110 _ []=some (.i .i64 (l[k].2.val0 (IJ (l.take k) (lO l k))),[])at hval
   generalize l[k].2.val0 (IJ (l.take k) (lO l k))=q at hval Eg
   generalize ll (l.take k) (cX l k) l[k].2=p at dR he
   obtain⟨p1,p2⟩:=p
   simp only at dR he
   subst he
   have oH:=gb hO (by omega) (sh:=sh) (T.i .i64 q) true
   generalize h3:an fr 3=v3 at hO oH
   simp(maxDischargeDepth:=6) only[qF,ah,ai,ab,aj,ae,ak,nV,mS,dH,dQ,splice,aF,repl,bk,reduceCtorEq,Nat.reduceLT,Nat.reduceLeDiff,Nat.reduceEqDiff,bV,iN,h0,h3,h4,dN,cQ,hw,dR,wI,OF,fu.froz1,qz,DR,Nat.sub_zero,hO.fzV,hval,Sh,Si,hO.notS,oH.1]
   refine⟨_,rfl,_,_,rfl, ?_, ?_, ?_⟩
   all_goals first|(simp(maxDischargeDepth:=6) only[ab,ae,reduceCtorEq,Nat.reduceEqDiff,h0];done)|skip
   simp(maxDischargeDepth:=6) only[ab,ae,Nat.reduceEqDiff]
   rw[Eg,j6]
   exact oH.2.1
  ·rw[if_neg he]at Eg
   generalize ll (l.take k) (cX l k) l[k].2=p at dR he
   obtain⟨p1,p2⟩:=p
   simp only at dR he
   have oH:=gb hO (by omega) (sh:=sh) (T.i .i64 0) true
   generalize h3:an fr 3=v3 at hO oH
   simp(maxDischargeDepth:=6) only[qF,ah,ai,ab,aj,ae,ak,nV,mS,dH,dQ,splice,aF,repl,bk,reduceCtorEq,Nat.reduceLT,Nat.reduceLeDiff,Nat.reduceEqDiff,bV,iN,h0,h3,h4,dN,cQ,hw,dR,wI,OF,fu.froz1,qz,DR,Nat.sub_zero,he,hO.notS,oH.1]
   refine⟨_,rfl,_,_,rfl, ?_, ?_, ?_⟩
   all_goals first|(simp(maxDischargeDepth:=6) only[ab,ae,reduceCtorEq,Nat.reduceEqDiff,h0];done)|skip
   simp(maxDischargeDepth:=6) only[ab,ae,Nat.reduceEqDiff]
   rw[Eg,j6]
   exact oH.2.1
 ·rintro _ ⟨fr,dS,rfl,h0,h4,hO⟩
  simp(maxDischargeDepth:=6) only[ah,ai,ab,ae,ak,reduceCtorEq,Nat.reduceLT,Nat.reduceEqDiff,iN,h0,h4,hl.lenI,Int.lt_irrefl]
  refine⟨_,_,(by simp:Out.ext 0≠ .nrm),rfl,rfl, ?_,rfl⟩
  simp(maxDischargeDepth:=6) only[ab,ae,Nat.reduceEqDiff]
  exact hO
theorem DS:aa pE 58 [lT] []=some (jb l.length (ints (lO l l.length)),[]):=by
 have hL:=fun fr lh sh h0 h3 h4=>Zv l lT cl hl dq hlen j7 fr lh sh h0 h3 h4
 have hO:=fun m keep fr lh sh h0 h3 h4=>bG.fzW (m:=m) (keep:=keep) (sh:=sh) (hL fr lh sh h0 h3 h4).2.1
 have Wb:=fun keep fr lh sh h0 h3 h4=>bG.fzV (keep:=keep) (sh:=sh) (hL fr lh sh h0 h3 h4).2.1
 rw[aD OH (by simp[Rx])]
 simp(maxDischargeDepth:=6) only[qF,ah,ai,ab,ae,reduceCtorEq,Nat.reduceLT,Nat.reduceEqDiff,Rx,hL,Wb,K4]
end
end Go.Proofs.YtfenhjpkomldcaaGreat
namespace Go.Proofs.YtfenhjpkomldcaaGreat
open Go Go.Ev
def NT(y:Ex):Prop:= ∀cs mw:List T,bj y cs→bj y mw→y.nodes≤100000→aa pE 60 [.agg cs,.agg mw] []=some (.b true,[])
theorem UX(xs:List Ex)(ih: ∀y∈xs,NT y)(a a':T)(cc UY:List T)(ha:aN a xs.length cc)(hx:aL xs cc)(Ny:aN a' xs.length UY)(qE:aL xs UY)(hn:aR xs≤100000)(op num:Int)(s:List Nat)(g2 g3:Nat)(fr:Fr)(lh:aQ aA)(sh:List aA)
  (h2:an fr 2= .ptr .L 2 g2 0) (h3:an fr 3= .ptr .L 3 g3 0) (h5:an fr 5= .i .i64 0) (o2:aE lh 2=⟨g2,.cells [.i .i64 op,.i .i64 num,.s s,a] 0 true⟩) (o3:aE lh 3=⟨g3,.cells [.i .i64 op,.i .i64 num,.s s,a'] 0 true⟩):
  DC pE 53 (.loop lu) ⟨fr,lh,sh⟩=some (.ext 0,⟨ev pE 53 lu fr lh sh,eP pE 53 lu fr lh sh,eJ pE 53 lu fr lh sh⟩)∧eJ pE 53 lu fr lh sh=sh:=by
 refine a6 (P:=fun g7 dj cq=>cq=sh)
  (bt (fun k st=> ∃(fr:Fr),st=⟨fr,lh,sh⟩∧an fr 2= .ptr .L 2 g2 0∧an fr 3= .ptr .L 3 g3 0∧an fr 5= .i .i64 (k:Int)) _ xs.length ?_ ?_ 0 _ (Nat.zero_le _) ⟨fr,rfl,h2,h3,h5⟩)
 ·rintro k _ lr ⟨fr,rfl,h2,h3,h5⟩
  left
  have dN:(k:Int)<xs.length:=by omega
  have nR:=bE xs
  have NP:=cB (List.getElem_mem lr)
  have hw:=cE (k:=k) (c5 (by omega))
  obtain⟨b,cb,rr,cQ,fu,oq,hb⟩:=dV ha hx k lr
  obtain⟨b',Wc,rr',DT,Zw,ac2,yZ⟩:=dV Ny qE k lr
  have aB:=ih xs[k] (List.getElem_mem lr) _ _ hb yZ (by omega)
  simp(maxDischargeDepth:=6) only[qF,ah,ai,ab,aj,ae,Nat.reduceLT,Nat.reduceLeDiff,Nat.reduceEqDiff,bV,aV,lu,h2,h3,h5,o2,o3,ha.lenI,dN,cQ,DT,hw,aB,RW,Yd,fu.froz1,Zw.froz1]
  refine⟨_,rfl,_,rfl, ?_, ?_, ?_⟩
  all_goals (simp(maxDischargeDepth:=6) only[ab,ae,Nat.reduceEqDiff,h2,h3])
 ·rintro _ ⟨fr,rfl,h2,h3,h5⟩
  simp(maxDischargeDepth:=6) only[ah,ai,ab,aj,ae,ak,Nat.reduceLT,Nat.reduceEqDiff,lu,h2,h5,o2,ha.lenI,Int.lt_irrefl]
  exact⟨_,_,(by simp:Out.ext 0≠ .nrm),rfl,rfl,rfl⟩
theorem Lt(x:Ex):NT x:=by
 induction x using Ex.ind with
 |h x ih=>
  intro cs mw hx qE hn
  obtain⟨a,cc,rfl,ha,g5⟩:=hx.cells
  obtain⟨a',UY,rfl,Ny,UZ⟩:=qE.cells
  have hnd:=x.nodes_eq
  have hL:=fun fr lh sh h2 h3 h5 o2 o3=>UX x.args (fun y hy=>ih y hy) a a' cc UY ha g5 Ny UZ (by omega) x.op x.num x.name 1 1 fr lh sh h2 h3 h5 o2 o3
  rw[aD OI (by simp[Ry])]
  simp(maxDischargeDepth:=6) only[qF,ah,ai,ab,aj,ae,ak,reduceCtorEq,Nat.reduceLT,Nat.reduceEqDiff,Ry,ha.lenI,Ny.lenI,hL]
end Go.Proofs.YtfenhjpkomldcaaGreat
namespace Go.Proofs.YtfenhjpkomldcaaGreat
open Go Go.Ev
theorem jf{x:Ex}(hv:bF x=0):x.nodes≤200∧x.depth≤16:=by
 unfold bF at hv
 by_cases h:sr x
 ·rw[if_pos h]at hv;cases hv
 ·unfold sr at h;omega
theorem DU{x:Ex}(hw:x.wf=true)(hn:x.nodes≤200)(hd:x.depth≤16):bF x=0:=by
 unfold bF
 rw[if_neg (by unfold sr;omega),if_pos hw]
section
variable(l:Cs)(lT kT:T)(cl:List T)(hl:aN lT l.length cl)(dq:df l cl)(hlen:l.length≤gi)(j7:DQ l)(BJ:froz kT=true)
include hl dq hlen j7 BJ
theorem Lu: ∀i,i<l.length→UR l lT kT i:=by
 have _:=j7
 intro i
 induction i using Nat.strongRecOn with
 |ind i ih=>
  intro hi s t m th DP hm
  have oB:k8 (.one .str) (m.map fun p=>sK p.1) (m.map fun p=>T.agg p.2) (.s s) (.agg [.i .i64 0,.i .i64 0,.s [],.nilsl]) true=_:=P6 (kT:=sK) (vT:=T.agg) Lv (fun _=>rfl) m s (.agg [.i .i64 0,.i .i64 0,.s [],.nilsl])
  rw[aD R7 (by simp[Q6])]
  cases hq:bJ m s with
  |some cs=>
   obtain⟨t',NU,fF,hT⟩:=hm s cs hq
   rw[DP]at NU
   injection NU with e1 e2
   subst e1
   rw[hq]at oB
   simp only at oB
   generalize ew t (sP l s)=y at*
   obtain⟨ca,cb,rfl,oX,wy⟩:=fF.cells
   simp(maxDischargeDepth:=6) only[qF,ah,ai,ab,aj,ae,ak,C6,splice,Nat.reduceAdd,reduceCtorEq,Nat.reduceLT,Nat.reduceEqDiff,bV,gX,aV,Q6,Zm,sm0,gK,oB,oX.froz1]
   exact⟨_,m,rfl,fF,hT,hm,fun _ _ _ _=>rfl⟩
  |none=>
   rw[hq]at oB
   simp only at oB
   obtain⟨i',sX,yq,hv,ht,_,NV,kH,_,_⟩:=p8 DP
   rw[th]at yq
   cases yq
   obtain⟨b,cb,r,cQ,fu,oq,hb⟩:=fZ hl dq i hi
   obtain⟨cs,m',aB,fF,S8,wx,hT⟩:=BU l lT kT BJ i (Nat.le_of_lt hi) (fun j hj=>ih j hj (by omega)) 0 l[i].2 t m _ hm hb (jf hv).1 (gZ hv) ht
   rw[NV]at fF
   have hT:=hT rfl
   have Ri:=Qi l s lT cl hl dq hlen
   rw[iL th]at Ri
   have Hr: ¬(i:Int)<0:=by omega
   have jO:([T.s s]:List T).all froz1=true:=rfl
   have Zo:=fun lh sh keep (h:aE lh 3=⟨1,.cells [.s s] 0 true⟩)=>Lf (f:=145) (sh:=sh) (keep:=keep) h jO
   have iE:bJ m' s=none:=by rw[wx s i th (Nat.le_refl _),hq]
   have oT:nl (.one .str) (.s s) (.agg cs) (m'.map fun p=>sK p.1) (m'.map fun p=>T.agg p.2)=_:=Ha (kT:=sK) (vT:=T.agg) Lv m' s cs iE
   have Zx:mN l (m'++ [(s,cs)]):=by
    intro s' c' h'
    rw[iK]at h'
    cases h2:bJ m' s' with
    |some u=>rw[h2]at h';cases h';exact S8 s' _ h2
    |none=>
     rw[h2]at h'
     simp only at h'
     split at h'
     ·rename_i e;subst e;cases h';exact⟨t,DP,fF,hT⟩
     ·cases h'
   have hFr:IK l (i+1) m (m'++ [(s,cs)]):=by
    intro s' j hj hle
    rw[iK,wx s' j hj (by omega)]
    cases bJ m s' with
    |some u=>rfl
    |none=>
     simp only
     rw[if_neg]
     intro e;subst e
     rw[th]at hj;cases hj;omega
   generalize ew t (sP l s)=y at*
   obtain⟨ca,Wc,rfl,oX,wy⟩:=fF.cells
   simp(maxDischargeDepth:=6) only[qF,ah,ai,ab,aj,ae,ak,aG,C6,splice,aF,Nat.reduceAdd,reduceCtorEq,Nat.reduceLT,Nat.reduceLeDiff,Nat.reduceEqDiff,bV,gX,aV,im,Q6,Zm,sm0,gK,oB,hl.froz,Zo,Ri,Sv,Hr,cQ,fu.kept1,aB,IS,oX.froz1,NH,oT,Zn]
   exact⟨_,_,rfl,fF,hT,Zx,hFr⟩
end
end Go.Proofs.YtfenhjpkomldcaaGreat
