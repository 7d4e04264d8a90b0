/- The value of an operator: the reference's Apply. Formulas and their values. The value of a formula. Conditions: the theorems' own. -/
import Derived.Test.YtfenhjpkomldcaaGreatM6
import Derived.KernelRfl
set_option maxRecDepth 100000
set_option linter.unusedSimpArgs false
set_option linter.unusedVariables false
set_option maxHeartbeats 16000000
namespace Go.Proofs.YtfenhjpkomldcaaGreat
open Go Go.Ev
def bit(n:Int):Prop:=n=0∨n=1
theorem QX{n:Int}(h:bit n):bd n:=by unfold bit at h;unfold bd;omega
theorem Ec(b:Bool):bit (lQ b):=by cases b <;> simp[lQ,bit]
theorem AN(c f t:Int):aa pE 139 [.i .i64 c,.i .i64 f,.i .i64 t] []=some (.b (qd c f t),[]):=by
 rw[aD E2 (by simp[Ci])]
 unfold qd
 by_cases h1:f≤t
 ·by_cases h2:f≤c <;> by_cases h3:c<t <;> simp(maxDischargeDepth:=6) only[qF,ah,ai,ab,aj,ae,ak,Nat.reduceAdd,reduceCtorEq,Nat.reduceLT,Nat.reduceEqDiff,Ci,h1,h2,h3]
 ·by_cases h2:f≤c <;> by_cases h3:c<t <;> simp(maxDischargeDepth:=6) only[qF,ah,ai,ab,aj,ae,ak,Nat.reduceAdd,reduceCtorEq,Nat.reduceLT,Nat.reduceEqDiff,Ci,h1,h2,h3,or_true,or_false,or_self]
theorem AO(c f t:Int):aa pE 162 [.i .i64 c,.i .i64 f,.i .i64 t] []=some (.b (qd c f t),[]):=by
 have h:aa pE 222 [.i .i64 c,.i .i64 f,.i .i64 t] []=some (.b (qd c f t),[]):=by
  rw[aD M7 (by simp[Cq])]
  unfold qd
  by_cases h1:f≤t
  ·by_cases h2:f≤c <;> by_cases h3:c<t <;> simp(maxDischargeDepth:=6) only[qF,ah,ai,ab,aj,ae,ak,Nat.reduceAdd,reduceCtorEq,Nat.reduceLT,Nat.reduceEqDiff,Cq,h1,h2,h3]
  ·by_cases h2:f≤c <;> by_cases h3:c<t <;> simp(maxDischargeDepth:=6) only[qF,ah,ai,ab,aj,ae,ak,Nat.reduceAdd,reduceCtorEq,Nat.reduceLT,Nat.reduceEqDiff,Cq,h1,h2,h3,or_true,or_false,or_self]
 rw[aD Fc (by simp[EE])]
 simp(maxDischargeDepth:=6) only[qF,ah,ai,ab,aj,ae,Nat.reduceAdd,reduceCtorEq,Nat.reduceLT,Nat.reduceEqDiff,EE,h,SN]
theorem qR(b:Bool):aa pE 161 [.b b] []=some (.i .i64 (lQ b),[]):=by
 rw[aD Fb (by simp[ED])]
 cases b <;> simp(maxDischargeDepth:=6) only[qF,ah,ai,ab,aj,ae,reduceCtorEq,Nat.reduceLT,ED,lQ]
theorem oF(b:Bool):aa pE 136 [.b b] []=some (.i .i64 (lQ b),[]):=by
 rw[aD E1 (by simp[Eu])]
 cases b <;> simp(maxDischargeDepth:=6) only[qF,ah,ai,ab,aj,ae,reduceCtorEq,Nat.reduceLT,Eu,lQ]
def y7(op:Int):Int→List Int→Int:=if op=12 then Qu else Qv
theorem sI(op m v:Int)(vs:List Int)(h:op=12∨op=13):y7 op m (v::vs)=y7 op (if op=12 then min m v else max m v) vs:=by
 unfold y7
 rcases h with rfl|rfl <;> rfl
theorem wi(op m:Int):y7 op m []=m:=by unfold y7;split <;> rfl
theorem ZV(op num:Int)(eI:op=12∨op=13)(vs:List Int)(dr:0<vs.length)(a:T)(ha:aN a vs.length (ints vs))(hlen:vs.length≤gi)(fr:Fr)(lh:aQ aA)(sh:List aA)
  (h0:an fr 0= .i .i64 op) (h2:an fr 2=a) (h7:an fr 7= .i .i64 (a0 vs)) (h8:an fr 8= .i .i64 1):
  DC pE 176 (.loop eK) ⟨fr,lh,sh⟩=some (.ext 1,⟨ev pE 176 eK fr lh sh,eP pE 176 eK fr lh sh,eJ pE 176 eK fr lh sh⟩)∧
  (an (ev pE 176 eK fr lh sh) 7= .i .i64 (y7 op (a0 vs) vs.tail)∧eP pE 176 eK fr lh sh=lh∧eJ pE 176 eK fr lh sh=sh):=by
 refine a6 (P:=fun fr dj cq=>an fr 7= .i .i64 (y7 op (a0 vs) vs.tail)∧dj=lh∧cq=sh) (bt (fun k st=> ∃(fr:Fr) (m:Int),st=⟨fr,lh,sh⟩∧an fr 0= .i .i64 op∧an fr 2=a∧an fr 7= .i .i64 m∧an fr 8= .i .i64 (k:Int)∧y7 op m (vs.drop k)=y7 op (a0 vs) vs.tail) _ vs.length ?_ ?_ 1 _ dr ⟨fr,a0 vs,rfl,h0,h2,h7,h8,by rw[List.drop_one]⟩)
 ·rintro k _ hk ⟨fr,m,rfl,h0,h2,h7,h8,hx⟩
  left
  have dN:(k:Int)<vs.length:=by omega
  have hw:=cE (k:=k) (by omega)
  rw[List.drop_eq_getElem_cons hk,sI _ _ _ _ eI]at hx
  by_cases hc:vs[k]<m
  ·rcases eI with rfl|rfl
   ·rw[if_pos rfl,show min m vs[k]=vs[k]by omega]at hx
    simp(maxDischargeDepth:=6) only[ah,ai,ab,aj,ae,reduceCtorEq,Nat.reduceLT,Nat.reduceEqDiff,eK,h0,h2,h7,h8,ha.lenI,dN,gz ha hk,hw,hc,cO,bq1]
    refine⟨_,rfl,_,_,rfl, ?_, ?_, ?_, ?_,hx⟩ <;> simp(maxDischargeDepth:=6) only[ab,ae,reduceCtorEq,Nat.reduceEqDiff,h0,h2]
   ·rw[if_neg (by decide),show max m vs[k]=m by omega]at hx
    simp(maxDischargeDepth:=6) only[ah,ai,ab,aj,ae,ak,reduceCtorEq,Nat.reduceLT,Nat.reduceEqDiff,Int.reduceEq,eK,h0,h2,h7,h8,ha.lenI,dN,gz ha hk,hw,hc,cO,Wu]
    refine⟨_,rfl,_,_,rfl, ?_, ?_, ?_, ?_,hx⟩ <;> simp(maxDischargeDepth:=6) only[ab,ae,reduceCtorEq,Nat.reduceEqDiff,h0,h2,h7]
  ·rcases eI with rfl|rfl
   ·rw[if_pos rfl,show min m vs[k]=m by omega]at hx
    simp(maxDischargeDepth:=6) only[ah,ai,ab,aj,ae,ak,reduceCtorEq,Nat.reduceLT,Nat.reduceEqDiff,eK,h0,h2,h7,h8,ha.lenI,dN,gz ha hk,hw,hc,cO,Wt]
    refine⟨_,rfl,_,_,rfl, ?_, ?_, ?_, ?_,hx⟩ <;> simp(maxDischargeDepth:=6) only[ab,ae,reduceCtorEq,Nat.reduceEqDiff,h0,h2,h7]
   ·rw[if_neg (by decide),show max m vs[k]=vs[k]by omega]at hx
    simp(maxDischargeDepth:=6) only[ah,ai,ab,aj,ae,ak,reduceCtorEq,Nat.reduceLT,Nat.reduceEqDiff,Int.reduceEq,eK,h0,h2,h7,h8,ha.lenI,dN,gz ha hk,hw,hc,cO,bq2]
    refine⟨_,rfl,_,_,rfl, ?_, ?_, ?_, ?_,hx⟩ <;> simp(maxDischargeDepth:=6) only[ab,ae,reduceCtorEq,Nat.reduceEqDiff,h0,h2]
 ·rintro _ ⟨fr,m,rfl,h0,h2,h7,h8,hx⟩
  rw[List.drop_length,wi]at hx
  simp(maxDischargeDepth:=6) only[ah,ai,ab,ae,ak,Nat.reduceLT,Nat.reduceEqDiff,eK,h2,h8,ha.lenI,Int.lt_irrefl]
  exact⟨_,_,(by simp:Out.ext 1≠ .nrm),rfl,rfl,by simp(maxDischargeDepth:=6) only[ab,ae,Nat.reduceEqDiff,h7,hx],rfl,rfl⟩
def Qc(op:Int)(vs:List Int):Prop:=(∀v∈vs,bd v)∧((op=19∨op=20∨op=21∨op=22)→ ∀v∈vs,bit v)∧(op=14→bit (a0 vs))
theorem ui(op num:Int)(vs:List Int)(a:T)(ha:aN a vs.length (ints vs))(hl:vs.length≤gi)(h1:7≤op)(h2:op≤22)(aX:aW op vs.length=true)(hv:Qc op vs):aa pE 108 [.i .i64 op,.i .i64 num,a] []=some (.i .i64 (oG op vs),[]):=by
 rw[aD EX (by simp[gM])]
 obtain⟨ij,yS,hif⟩:=hv
 have Jp: ∀x kl,vs=x::kl→(op=12∨op=13)→mT gM.res gM.eff (DC pE gM.n gM.code ⟨gn [.i .i64 op,.i .i64 num,a],.nil,[]⟩)=some (.i .i64 (y7 op (a0 vs) vs.tail),[]):=by
  rintro x kl rfl ho
  have hL:=fun fr lh sh=>ZV op num ho (x::kl) (by simp) a ha hl fr lh sh
  obtain⟨ex,rfl⟩:=ee ha
  have hz:0<kl.length+1:=Nat.succ_pos _
  have e0:a0 (x::kl)=x:=rfl
  rw[e0]at hL ⊢
  rcases ho with rfl|rfl <;> simp(maxDischargeDepth:=6) only[qF,ah,ai,ab,aj,ae,ak,bA,aY,aK,Nat.reduceAdd,reduceCtorEq,Nat.reduceLT,Nat.reduceLeDiff,Nat.reduceEqDiff,Int.reduceToNat,Int.reduceLE,Int.reduceEq,gM,hz,hL]
 have lq:1≤op:=by omega
 rcases ed lq h2 with rfl|rfl|rfl|rfl|rfl|rfl|rfl|rfl|rfl|rfl|rfl|rfl|rfl|rfl|rfl|rfl|rfl|rfl|rfl|rfl|rfl|rfl
 iterate 6 ·exact absurd h1 (by decide)
 ·obtain⟨x,rfl⟩:=yM (by simpa[aW]using aX)
  obtain⟨ex,rfl⟩:=ee ha
  have hx:=ij x (by simp)
  have h:=wc (a:=0) (by unfold bd;omega) (lS hx)
  have hw:=mZ hx
  rw[show(0:Int)+ -x= -x by omega,mn (lS hx)]at h
  simp(maxDischargeDepth:=6) only[qF,ah,ai,ab,aj,ae,ak,bA,aY,aK,Nat.reduceAdd,reduceCtorEq,Nat.reduceLT,Nat.reduceLeDiff,Nat.reduceEqDiff,Int.reduceToNat,Int.reduceLE,Int.reduceEq,gM,ints,hw,h,E8];rfl
 ·obtain⟨x,y,rfl⟩:=eA (by simpa[aW]using aX)
  obtain⟨ex,rfl⟩:=ee ha
  have h:=wc (ij x (by simp)) (ij y (by simp))
  simp(maxDischargeDepth:=6) only[qF,ah,ai,ab,aj,ae,ak,bA,mR,bu,aY,aK,Nat.reduceAdd,reduceCtorEq,Nat.reduceLT,Nat.reduceLeDiff,Nat.reduceEqDiff,Int.reduceToNat,Int.reduceLE,Int.reduceEq,bV,aV,gM,ints,h,E8,MG];rfl
 ·obtain⟨x,y,rfl⟩:=eA (by simpa[aW]using aX)
  obtain⟨ex,rfl⟩:=ee ha
  have hy:=ij y (by simp)
  have h:=wc (ij x (by simp)) (lS hy)
  have hw:=mZ hy
  simp(maxDischargeDepth:=6) only[qF,ah,ai,ab,aj,ae,ak,bA,mR,bu,aY,aK,Nat.reduceAdd,reduceCtorEq,Nat.reduceLT,Nat.reduceLeDiff,Nat.reduceEqDiff,Int.reduceToNat,Int.reduceLE,Int.reduceEq,bV,aV,gM,ints,hw,h,E8,MG];rfl
 ·obtain⟨x,y,rfl⟩:=eA (by simpa[aW]using aX)
  obtain⟨ex,rfl⟩:=ee ha
  have h:=LX (ij x (by simp)) (ij y (by simp))
  simp(maxDischargeDepth:=6) only[qF,ah,ai,ab,aj,ae,ak,bA,mR,bu,aY,aK,Nat.reduceAdd,reduceCtorEq,Nat.reduceLT,Nat.reduceLeDiff,Nat.reduceEqDiff,Int.reduceToNat,Int.reduceLE,Int.reduceEq,bV,aV,gM,ints,h,SC,SD];rfl
 ·obtain⟨x,y,rfl⟩:=eA (by simpa[aW]using aX)
  obtain⟨ex,rfl⟩:=ee ha
  have h:=LY (ij x (by simp)) (ij y (by simp))
  simp(maxDischargeDepth:=6) only[qF,ah,ai,ab,aj,ae,ak,bA,mR,bu,aY,aK,Nat.reduceAdd,reduceCtorEq,Nat.reduceLT,Nat.reduceLeDiff,Nat.reduceEqDiff,Int.reduceToNat,Int.reduceLE,Int.reduceEq,bV,aV,gM,ints,h,SE,SF];rfl
 ·match vs,aX with
  |x::ts,_=>exact Jp x ts rfl (by simp)
 ·match vs,aX with
  |x::ts,_=>exact Jp x ts rfl (by simp)
 ·obtain⟨x,y,z,rfl⟩:=v8 (by simpa[aW]using aX)
  obtain⟨ex,rfl⟩:=ee ha
  have e:oG 14 [x,y,z]=if x=0 then z else y:=rfl
  rw[e]
  rcases hif rfl with hx|hx
  ·have hx:x=0:=hx
   subst hx;simp(maxDischargeDepth:=6) only[qF,ah,ai,ab,aj,ae,ak,Int.reduceSub,Int.reduceNeg,bA,mR,bu,aY,aK,Nat.reduceAdd,reduceCtorEq,Nat.reduceLT,Nat.reduceLeDiff,Nat.reduceEqDiff,Int.reduceToNat,Int.reduceLE,Int.reduceEq,gM,ints]
  ·have hx:x=1:=hx
   subst hx;simp(maxDischargeDepth:=6) only[qF,ah,ai,ab,aj,ae,ak,Int.reduceSub,Int.reduceNeg,bA,mR,bu,aY,aK,Nat.reduceAdd,reduceCtorEq,Nat.reduceLT,Nat.reduceLeDiff,Nat.reduceEqDiff,Int.reduceToNat,Int.reduceLE,Int.reduceEq,gM,ints]
 ·obtain⟨x,y,z,rfl⟩:=v8 (by simpa[aW]using aX)
  obtain⟨ex,rfl⟩:=ee ha
  have h:=AO x y z
  have h':=qR (qd x y z)
  simp(maxDischargeDepth:=6) only[qF,ah,ai,ab,aj,ae,ak,bA,mR,bu,aY,aK,Nat.reduceAdd,reduceCtorEq,Nat.reduceLT,Nat.reduceLeDiff,Nat.reduceEqDiff,Int.reduceToNat,Int.reduceLE,Int.reduceEq,bV,aV,gM,ints,h,h',SG,SH,AZ,A0];rfl
 ·obtain⟨x,y,rfl⟩:=eA (by simpa[aW]using aX)
  obtain⟨ex,rfl⟩:=ee ha
  have h':=qR (decide (x<y))
  simp(maxDischargeDepth:=6) only[qF,ah,ai,ab,aj,ae,ak,bA,mR,bu,aY,aK,Nat.reduceAdd,reduceCtorEq,Nat.reduceLT,Nat.reduceLeDiff,Nat.reduceEqDiff,Int.reduceToNat,Int.reduceLE,Int.reduceEq,bV,aV,gM,ints,h',AZ,A0];rfl
 ·obtain⟨x,y,rfl⟩:=eA (by simpa[aW]using aX)
  obtain⟨ex,rfl⟩:=ee ha
  have h':=qR (decide (x≤y))
  simp(maxDischargeDepth:=6) only[qF,ah,ai,ab,aj,ae,ak,bA,mR,bu,aY,aK,Nat.reduceAdd,reduceCtorEq,Nat.reduceLT,Nat.reduceLeDiff,Nat.reduceEqDiff,Int.reduceToNat,Int.reduceLE,Int.reduceEq,bV,aV,gM,ints,h',AZ,A0];rfl
 ·obtain⟨x,y,rfl⟩:=eA (by simpa[aW]using aX)
  obtain⟨ex,rfl⟩:=ee ha
  have h':=qR (decide (x=y))
  simp(maxDischargeDepth:=6) only[qF,ah,ai,ab,aj,ae,ak,bA,mR,bu,aY,aK,Nat.reduceAdd,reduceCtorEq,Nat.reduceLT,Nat.reduceLeDiff,Nat.reduceEqDiff,Int.reduceToNat,Int.reduceLE,Int.reduceEq,bV,aV,gM,ints,h',AZ,A0];rfl
 ·obtain⟨x,rfl⟩:=yM (by simpa[aW]using aX)
  obtain⟨ex,rfl⟩:=ee ha
  have hb:=yS (by simp) x (by simp)
  have hw:wr .i64 (1-x)=1-x:=by unfold bit at hb;exact lg ⟨by omega,by omega⟩
  simp(maxDischargeDepth:=6) only[qF,ah,ai,ab,aj,ae,ak,bA,aY,aK,Nat.reduceAdd,reduceCtorEq,Nat.reduceLT,Nat.reduceLeDiff,Nat.reduceEqDiff,Int.reduceToNat,Int.reduceLE,Int.reduceEq,gM,ints,hw];rfl
 ·obtain⟨x,y,rfl⟩:=eA (by simpa[aW]using aX)
  obtain⟨ex,rfl⟩:=ee ha
  have e:oG 20 [x,y]=if y<x then y else x:=by
   show min x y=_
   split <;> omega
  rw[e]
  simp(maxDischargeDepth:=6) only[qF,ah,ai,ab,aj,ae,ak,bA,mR,bu,aY,aK,Nat.reduceAdd,reduceCtorEq,Nat.reduceLT,Nat.reduceLeDiff,Nat.reduceEqDiff,Int.reduceToNat,Int.reduceLE,Int.reduceEq,bV,aV,gM,ints]
 ·obtain⟨x,y,rfl⟩:=eA (by simpa[aW]using aX)
  obtain⟨ex,rfl⟩:=ee ha
  have e:oG 21 [x,y]=if y>x then y else x:=by
   show max x y=_
   split <;> omega
  rw[e]
  simp(maxDischargeDepth:=6) only[qF,ah,ai,ab,aj,ae,ak,bA,mR,bu,aY,aK,Nat.reduceAdd,reduceCtorEq,Nat.reduceLT,Nat.reduceLeDiff,Nat.reduceEqDiff,Int.reduceToNat,Int.reduceLE,Int.reduceEq,bV,aV,gM,ints]
 ·obtain⟨x,y,rfl⟩:=eA (by simpa[aW]using aX)
  obtain⟨ex,rfl⟩:=ee ha
  have hb:=yS (by simp) x (by simp)
  have hw:wr .i64 (1-x)=1-x:=by unfold bit at hb;exact lg ⟨by omega,by omega⟩
  have e:oG 22 [x,y]=if y>1-x then y else 1-x:=by
   show max (1-x) y=_
   split <;> omega
  rw[e]
  simp(maxDischargeDepth:=6) only[qF,ah,ai,ab,aj,ae,ak,bA,mR,bu,aY,aK,Nat.reduceAdd,reduceCtorEq,Nat.reduceLT,Nat.reduceLeDiff,Nat.reduceEqDiff,Int.reduceToNat,Int.reduceLE,Int.reduceEq,bV,aV,gM,ints,hw]
end Go.Proofs.YtfenhjpkomldcaaGreat
namespace Go.Proofs.YtfenhjpkomldcaaGreat
open Go Go.Ev
theorem AP(op a b:Int)(hv:Qc op [a,b])(ho:op=8∨op=9∨op=10∨op=11∨op=16∨op=17∨op=18∨op=20∨op=21∨op=22):aa pE 141 [.i .i64 op,.i .i64 a,.i .i64 b] []=some (.i .i64 (oG op [a,b]),[]):=by
 rw[aD E4 (by simp[nb])]
 obtain⟨ij,yS,_⟩:=hv
 have ha:=ij a (by simp)
 have hb:=ij b (by simp)
 have ZW:(op=19∨op=20∨op=21∨op=22)→bit a∧bit b:=fun h=>⟨yS h a (by simp),yS h b (by simp)⟩
 clear ij yS
 rcases ho with rfl|rfl|rfl|rfl|rfl|rfl|rfl|rfl|rfl|rfl
 ·have h:=wb ha hb
  simp(maxDischargeDepth:=6) only[qF,ah,ai,ab,aj,ae,ak,Nat.reduceAdd,reduceCtorEq,Nat.reduceLT,Nat.reduceEqDiff,Int.reduceEq,nb,h,E3];rfl
 ·have h:=wb ha (lS hb)
  have hw:=mZ hb
  simp(maxDischargeDepth:=6) only[qF,ah,ai,ab,aj,ae,ak,Nat.reduceAdd,reduceCtorEq,Nat.reduceLT,Nat.reduceEqDiff,Int.reduceEq,nb,h,hw,E3];rfl
 ·have h:=Cb ha hb
  simp(maxDischargeDepth:=6) only[qF,ah,ai,ab,aj,ae,ak,Nat.reduceAdd,reduceCtorEq,Nat.reduceLT,Nat.reduceEqDiff,Int.reduceEq,nb,h,MT];rfl
 ·have h:=L0 ha hb
  simp(maxDischargeDepth:=6) only[qF,ah,ai,ab,aj,ae,ak,Nat.reduceAdd,reduceCtorEq,Nat.reduceLT,Nat.reduceEqDiff,Int.reduceEq,nb,h,SK];rfl
 ·have h:=oF (decide (a<b))
  simp(maxDischargeDepth:=6) only[qF,ah,ai,ab,aj,ae,ak,Nat.reduceAdd,reduceCtorEq,Nat.reduceLT,Nat.reduceEqDiff,Int.reduceEq,nb,h,AX];rfl
 ·have h:=oF (decide (a≤b))
  simp(maxDischargeDepth:=6) only[qF,ah,ai,ab,aj,ae,ak,Nat.reduceAdd,reduceCtorEq,Nat.reduceLT,Nat.reduceEqDiff,Int.reduceEq,nb,h,AX];rfl
 ·have h:=oF (decide (a=b))
  simp(maxDischargeDepth:=6) only[qF,ah,ai,ab,aj,ae,ak,Nat.reduceAdd,reduceCtorEq,Nat.reduceLT,Nat.reduceEqDiff,Int.reduceEq,nb,h,AX];rfl
 ·obtain⟨h1,h2⟩:=ZW (by simp)
  have h:=K1 h1 h2
  simp(maxDischargeDepth:=6) only[qF,ah,ai,ab,aj,ae,ak,Nat.reduceAdd,reduceCtorEq,Nat.reduceLT,Nat.reduceEqDiff,Int.reduceEq,nb,h];rfl
 ·obtain⟨h1,h2⟩:=ZW (by simp)
  have h:=He h1 h2
  simp(maxDischargeDepth:=6) only[qF,ah,ai,ab,aj,ae,ak,Nat.reduceAdd,reduceCtorEq,Nat.reduceLT,Nat.reduceEqDiff,Int.reduceEq,nb,h];rfl
 ·obtain⟨h1,h2⟩:=ZW (by simp)
  have hw:wr .i64 (1-a)=1-a:=by unfold bit at h1;exact lg ⟨by omega,by omega⟩
  have h:=He (a:=1-a) (b:=b) (by unfold bit at h1;omega) h2
  simp(maxDischargeDepth:=6) only[qF,ah,ai,ab,aj,ae,ak,Nat.reduceAdd,reduceCtorEq,Nat.reduceLT,Nat.reduceEqDiff,Int.reduceEq,nb,hw,h];rfl
inductive Fm where
 |mk (op num:Int) (args:List Fm)
def Fm.op:Fm→Int| .mk o _ _=>o
def Fm.num:Fm→Int| .mk _ n _=>n
def Fm.args:Fm→List Fm| .mk _ _ a=>a
mutual
def kN:Fm→List T→Prop
 | .mk op num args,cs=> ∃a cc,cs= [.i .i64 op,.i .i64 num,a]∧aN a args.length cc∧bH args cc
def bH:List Fm→List T→Prop
 | [],cs=>cs= []
 |x::xs,cs=> ∃c r,cs=c++r∧kN x c∧bH xs r
end
theorem kN.cells{x:Fm}{cs:List T}(h:kN x cs): ∃a cc,cs= [.i .i64 x.op,.i .i64 x.num,a]∧aN a x.args.length cc∧bH x.args cc:=by
 obtain⟨o,n,a⟩:=x
 rw[kN]at h
 exact h
theorem kN.of{x:Fm}{a:T}{cc:List T}(h1:aN a x.args.length cc)(h2:bH x.args cc):kN x [.i .i64 x.op,.i .i64 x.num,a]:=by
 obtain⟨o,n,l⟩:=x
 rw[kN]
 exact⟨a,cc,rfl,h1,h2⟩
theorem kN.len{x:Fm}{cs:List T}(h:kN x cs):cs.length=3:=by
 obtain⟨a,cc,rfl,_⟩:=h.cells;rfl
theorem bH.nil:bH [] []:=by rw[bH]
theorem bH.cons{x:Fm}{xs:List Fm}{c r:List T}(h1:kN x c)(h2:bH xs r):bH (x::xs) (c++r):=by
 rw[bH];exact⟨c,r,rfl,h1,h2⟩
theorem bH.append: ∀{xs ys:List Fm} {c r:List T},bH xs c→bH ys r→bH (xs++ys) (c++r)
 | [],ys,c,r,h1,h2=>by rw[bH]at h1;subst h1;exact h2
 |x::xs,ys,c,r,h1,h2=>by
  rw[bH]at h1
  obtain⟨c1,r1,rfl,h3,h4⟩:=h1
  rw[List.append_assoc]
  exact bH.cons h3 (bH.append h4 h2)
theorem bH.one{x:Fm}{c:List T}(h:kN x c):bH [x] c:=by
 have:=bH.cons h bH.nil
 rwa [List.append_nil]at this
theorem bH.len: ∀{xs:List Fm} {cs:List T},bH xs cs→cs.length=xs.length*3
 | [],cs,h=>by rw[bH]at h;rw[h];rfl
 |x::xs,cs,h=>by
  rw[bH]at h
  obtain⟨c,r,rfl,h1,h2⟩:=h
  rw[List.length_append,h1.len,h2.len,List.length_cons];omega
theorem bH.drop: ∀{xs:List Fm} {cs:List T} (k:Nat) (hk:k<xs.length),bH xs cs→ ∃c r,cs.drop (k*3)=c++r∧kN xs[k] c∧bH (xs.drop (k+1)) r
 | [],cs,k,hk,h=>by simp at hk
 |x::xs,cs,0,hk,h=>by
  rw[bH]at h
  obtain⟨c,r,rfl,h1,h2⟩:=h
  exact⟨c,r,by simp,h1,by simpa using h2⟩
 |x::xs,cs,k+1,hk,h=>by
  rw[bH]at h
  obtain⟨c,r,rfl,h1,h2⟩:=h
  obtain⟨c',r',e,h3,h4⟩:=bH.drop k (by simpa using hk) h2
  refine⟨c',r', ?_,h3,by simpa using h4⟩
  have:(k+1)*3=c.length+k*3:=by rw[h1.len];omega
  rw[this,List.drop_append,Nat.add_sub_cancel_left,List.drop_eq_nil_of_le (by omega),e];rfl
theorem VJ{xs:List Fm}{a:T}{cc:List T}(h1:aN a xs.length cc)(h2:bH xs cc)(k:Nat)(hk:k<xs.length):
  ∃b cb r,(∀kk,tJ a (.i kk (k:Int)) 3=some (.vp (.i .i64 xs[k].op:: .i .i64 xs[k].num::b::r)))∧aN b xs[k].args.length cb∧bH xs[k].args cb:=by
 obtain⟨c,r,e,h3,h4⟩:=bH.drop k hk h2
 obtain⟨b,cb,rfl,h5,h6⟩:=h3.cells
 refine⟨b,cb,r,fun kk=> ?_,h5,h6⟩
 rw[h1.ia (sz:=3) h2.len hk,e];rfl
mutual
def Fm.val(at_:List Int):Fm→Int
 | .mk op num args=>if op=1 then num else if op=6 then at_.getD num.toNat 0 else oG op (dp at_ args)
def dp(at_:List Int):List Fm→List Int
 | []=> []
 |x::xs=>x.val at_::dp at_ xs
end
theorem Fm.val_eq(at_:List Int)(x:Fm):x.val at_=if x.op=1 then x.num else if x.op=6 then at_.getD x.num.toNat 0 else oG x.op (dp at_ x.args):=by obtain⟨_,_,_⟩:=x;rw[Fm.val];rfl
theorem lU(at_:List Int): ∀xs,dp at_ xs=xs.map (Fm.val at_)
 | []=>rfl
 |x::xs=>by rw[dp,lU at_ xs];rfl
mutual
def Qa(at_:List Int):Fm→Prop
 | .mk op num args=>(op=1∧bd num)∨(op=6∧0≤num∧num.toNat<at_.length∧bd (at_.getD num.toNat 0))∨(7≤op∧op≤22∧aW op args.length=true∧args.length≤gi∧vE at_ args∧Qc op (dp at_ args))
def vE(at_:List Int):List Fm→Prop
 | []=>True
 |x::xs=>Qa at_ x∧vE at_ xs
end
theorem pj(at_:List Int)(x:Fm):Qa at_ x↔((x.op=1∧bd x.num)∨(x.op=6∧0≤x.num∧x.num.toNat<at_.length∧bd (at_.getD x.num.toNat 0))∨(7≤x.op∧x.op≤22∧aW x.op x.args.length=true∧x.args.length≤gi∧vE at_ x.args∧Qc x.op (dp at_ x.args))):=by obtain⟨_,_,_⟩:=x;rw[Qa];rfl
theorem yT(at_:List Int): ∀{xs:List Fm},vE at_ xs↔ ∀x∈xs,Qa at_ x
 | []=>by simp[vE]
 |x::xs=>by rw[vE,yT at_ (xs:=xs)];simp
mutual
def Fm.sz:Fm→Nat
 | .mk _ _ args=>1+Iy args
def Iy:List Fm→Nat
 | []=>0
 |x::xs=>x.sz+Iy xs
end
theorem Fm.sz_eq(x:Fm):x.sz=1+Iy x.args:=by obtain⟨_,_,_⟩:=x;rw[Fm.sz];rfl
theorem yU: ∀{xs:List Fm} {x:Fm},x∈xs→x.sz≤Iy xs
 |y::xs,x,h=>by
  rw[Iy]
  rcases List.mem_cons.1 h with rfl|h
  ·omega
  ·have:=yU h;omega
theorem Fm.ind{P:Fm→Prop}(h: ∀x:Fm,(∀y∈x.args,P y)→P x)(x:Fm):P x:=by
 have: ∀n (x:Fm),x.sz≤n→P x:=by
  intro n
  induction n with
  |zero=>intro x hx;rw[x.sz_eq]at hx;omega
  |succ n ih=>
   intro x hx
   refine h x fun y hy=>ih y ?_
   have:=yU hy
   rw[x.sz_eq]at hx;omega
 exact this _ x (Nat.le_refl _)
end Go.Proofs.YtfenhjpkomldcaaGreat
namespace Go.Proofs.YtfenhjpkomldcaaGreat
open Go Go.Ev
section
variable(at_:List Int)(Cc:T)(gm:aN Cc at_.length (ints at_))
def QY(f:Fm):Prop:= ∀(b:T) (cb r:List T),aN b f.args.length cb→bH f.args cb→Qa at_ f→aa pE 92 [.vp (.i .i64 f.op:: .i .i64 f.num::b::r),Cc] []=some (.i .i64 (f.val at_),[])
include gm
theorem VK{xs:List Fm}(ih: ∀y∈xs,QY at_ Cc y){a:T}{cc:List T}(ha:aN a xs.length cc)(hx:bH xs cc)(VL:vE at_ xs)(k:Nat)(hk:k<xs.length)(j:Int)(hj:j=(k:Int)):
  ∃c,(∀kk,tJ a (.i kk j) 3=some (.vp c))∧aa pE 92 [.vp c,Cc] []=some (.i .i64 (xs[k].val at_),[]):=by
 have _:=gm
 obtain⟨b,cb,r,cQ,h1,h2⟩:=VJ ha hx k hk
 subst hj
 exact⟨_,cQ,ih xs[k] (List.getElem_mem hk) b cb r h1 h2 ((yT at_).1 VL _ (List.getElem_mem hk))⟩
theorem ZX(op num:Int)(eI:op=12∨op=13)(xs:List Fm)(ih: ∀y∈xs,QY at_ Cc y)(a:T)(cc r:List T)(ha:aN a xs.length cc)(hx:bH xs cc)(VL:vE at_ xs)(dr:0<xs.length)(hlen:xs.length≤gi)(fr:Fr)(lh:aQ aA)(sh:List aA)
  (h0:an fr 0= .vp (.i .i64 op:: .i .i64 num::a::r)) (h1:an fr 1=Cc) (h5:an fr 5= .i .i64 (a0 (dp at_ xs))) (h6:an fr 6= .i .i64 1):
  DC pE 155 (.loop iP) ⟨fr,lh,sh⟩=some (.ext 1,⟨ev pE 155 iP fr lh sh,eP pE 155 iP fr lh sh,eJ pE 155 iP fr lh sh⟩)∧
  (an (ev pE 155 iP fr lh sh) 5= .i .i64 (y7 op (a0 (dp at_ xs)) (dp at_ xs).tail)∧eP pE 155 iP fr lh sh=lh∧eJ pE 155 iP fr lh sh=sh):=by
 refine a6 (P:=fun fr dj cq=>an fr 5= .i .i64 (y7 op (a0 (dp at_ xs)) (dp at_ xs).tail)∧dj=lh∧cq=sh) (bt (fun k st=> ∃(fr:Fr) (m:Int),st=⟨fr,lh,sh⟩∧an fr 0= .vp (.i .i64 op:: .i .i64 num::a::r)∧an fr 1=Cc∧an fr 5= .i .i64 m∧an fr 6= .i .i64 (k:Int)∧y7 op m ((dp at_ xs).drop k)=y7 op (a0 (dp at_ xs)) (dp at_ xs).tail) _ xs.length ?_ ?_ 1 _ dr ⟨fr,a0 (dp at_ xs),rfl,h0,h1,h5,h6,by rw[List.drop_one]⟩)
 ·rintro k _ hk ⟨fr,m,rfl,h0,h1,h5,h6,Bm⟩
  left
  have dN:(k:Int)<xs.length:=by omega
  have hw:=cE (k:=k) (by omega)
  have jX:(dp at_ xs).length=xs.length:=by rw[lU];simp
  have hvk:(dp at_ xs)[k]'(by omega)=xs[k].val at_:=by simp[lU]
  obtain⟨c,cQ,aB⟩:=VK at_ Cc gm ih ha hx VL k hk (k:Int) rfl
  rw[List.drop_eq_getElem_cons (by omega),sI _ _ _ _ eI,hvk]at Bm
  generalize xs[k].val at_=v at Bm aB
  rcases eI with rfl|rfl
  ·rw[if_pos rfl,show min m v=(if v<m then v else m)by split <;> omega]at Bm
   simp(maxDischargeDepth:=6) only[qF,ah,ai,ab,aj,ae,ak,mR,bu,reduceCtorEq,Nat.reduceLT,Nat.reduceLeDiff,Nat.reduceEqDiff,iP,h0,h1,h5,h6,ha.lenI,dN,cQ,hw,aB,wJ,gm.froz]
   refine⟨_,rfl,_,_,rfl, ?_, ?_, ?_, ?_,Bm⟩ <;> simp(maxDischargeDepth:=6) only[ab,ae,reduceCtorEq,Nat.reduceEqDiff,h0,h1]
  ·rw[if_neg (by decide),show max m v=(if v>m then v else m)by split <;> omega]at Bm
   simp(maxDischargeDepth:=6) only[qF,ah,ai,ab,aj,ae,ak,mR,bu,reduceCtorEq,Nat.reduceLT,Nat.reduceLeDiff,Nat.reduceEqDiff,Int.reduceEq,iP,h0,h1,h5,h6,ha.lenI,dN,cQ,hw,aB,wJ,gm.froz]
   refine⟨_,rfl,_,_,rfl, ?_, ?_, ?_, ?_,Bm⟩ <;> simp(maxDischargeDepth:=6) only[ab,ae,reduceCtorEq,Nat.reduceEqDiff,h0,h1]
 ·rintro _ ⟨fr,m,rfl,h0,h1,h5,h6,Bm⟩
  have jX:(dp at_ xs).length=xs.length:=by rw[lU];simp
  rw[←jX,List.drop_length,wi]at Bm
  simp(maxDischargeDepth:=6) only[ah,ai,ab,aj,ae,ak,reduceCtorEq,Nat.reduceLT,Nat.reduceLeDiff,Nat.reduceEqDiff,iP,h0,h6,ha.lenI,Int.lt_irrefl]
  exact⟨_,_,(by simp:Out.ext 1≠ .nrm),rfl,rfl,by simp(maxDischargeDepth:=6) only[ab,ae,Nat.reduceEqDiff,h5,Bm],rfl,rfl⟩
theorem Qe(f:Fm):QY at_ Cc f:=by
 induction f using Fm.ind with
 |h f ih=>
  intro b cb r hb NV VL
  rw[aD IU (by simp[tl]),Fm.val_eq]
  rcases(pj at_ f).1 VL with⟨h1,_⟩|⟨h6,TE,hn2,_⟩|⟨h7,Aq,aX,qA,VM,hv⟩
  ·rw[if_pos h1]
   simp(maxDischargeDepth:=6) only[qF,ah,ai,ab,aj,ae,ak,reduceCtorEq,Nat.reduceLT,Nat.reduceLeDiff,Nat.reduceEqDiff,Int.reduceEq,tl,h1]
  ·rw[if_neg (by omega),if_pos h6]
   have cQ:=fun kk=>gz gm hn2 kk
   rw[Int.toNat_of_nonneg TE]at cQ
   have e:at_.getD f.num.toNat 0=at_[f.num.toNat]:=by simp[List.getD_eq_getElem?_getD,List.getElem?_eq_getElem hn2]
   rw[e]
   simp(maxDischargeDepth:=6) only[qF,ah,ai,ab,aj,ae,ak,reduceCtorEq,Nat.reduceLT,Nat.reduceLeDiff,Nat.reduceEqDiff,Int.reduceEq,tl,h6,cQ]
  ·rw[if_neg (by omega),if_neg (by omega)]
   have jX:dp at_ f.args=f.args.map (Fm.val at_):=lU at_ _
   have hargs: ∀(k:Nat) (hk:k<f.args.length) (j:Int),j=(k:Int)→ ∃c,(∀kk,tJ b (.i kk j) 3=some (.vp c))∧aa pE 92 [.vp c,Cc] []=some (.i .i64 (f.args[k].val at_),[]):=fun k hk j hj=>VK at_ Cc gm (fun y hy=>ih y hy) hb NV VM k hk j hj
   have Jp:0<f.args.length→(f.op=12∨f.op=13)→mT tl.res tl.eff (DC pE tl.n tl.code ⟨gn [.vp (.i .i64 f.op:: .i .i64 f.num::b::r),Cc],.nil,[]⟩)=some (.i .i64 (y7 f.op (a0 (dp at_ f.args)) (dp at_ f.args).tail),[]):=by
    intro dr ho
    obtain⟨c0,bB,sO⟩:=hargs 0 dr 0 rfl
    have hL:=fun fr lh sh=>ZX at_ Cc gm f.op f.num ho f.args (fun y hy=>ih y hy) b cb r hb NV VM dr qA fr lh sh
    have e0:a0 (dp at_ f.args)=f.args[0].val at_:=by rw[jX];unfold a0;simp[List.getD_eq_getElem?_getD,List.getElem?_eq_getElem dr]
    rw[e0]at hL ⊢
    rcases ho with ho|ho <;> rw[ho]at hL ⊢ <;> simp(maxDischargeDepth:=6) only[qF,ah,ai,ab,aj,ae,ak,reduceCtorEq,Nat.reduceLT,Nat.reduceLeDiff,Nat.reduceEqDiff,Int.reduceEq,tl,bB,sO,wJ,gm.froz,hL]
   have Ed: ∀x y:Int,dp at_ f.args= [x,y]→(f.op=8∨f.op=9∨f.op=10∨f.op=11∨f.op=16∨f.op=17∨f.op=18∨f.op=20∨f.op=21∨f.op=22)→mT tl.res tl.eff (DC pE tl.n tl.code ⟨gn [.vp (.i .i64 f.op:: .i .i64 f.num::b::r),Cc],.nil,[]⟩)=some (.i .i64 (oG f.op [x,y]),[]):=by
    intro x y lY ho
    have wu:f.args.length=2:=by have:=congrArg List.length lY;rw[jX]at this;simpa using this
    obtain⟨c0,bB,sO⟩:=hargs 0 (by omega) 0 rfl
    obtain⟨c1,bK,jO⟩:=hargs 1 (by omega) 1 rfl
    have e0:f.args[0].val at_=x:=by
     have:(dp at_ f.args)[0]? =some x:=by rw[lY];rfl
     rw[jX]at this;simpa[List.getElem?_eq_getElem (show 0<f.args.length by omega)]using this
    have e1:f.args[1].val at_=y:=by
     have:(dp at_ f.args)[1]? =some y:=by rw[lY];rfl
     rw[jX]at this;simpa[List.getElem?_eq_getElem (show 1<f.args.length by omega)]using this
    rw[e0]at sO
    rw[e1]at jO
    rw[lY]at hv
    have hcb:=AP f.op x y hv ho
    rcases ho with ho|ho|ho|ho|ho|ho|ho|ho|ho|ho <;> rw[ho]at hcb ⊢ <;> simp(maxDischargeDepth:=6) only[qF,ah,ai,ab,aj,ae,ak,reduceCtorEq,Nat.reduceLT,Nat.reduceLeDiff,Nat.reduceEqDiff,Int.reduceEq,bV,aV,tl,bB,bK,sO,jO,wJ,R5,gm.froz,hcb,Ss,Su]
   have hg: ∀(k:Nat) (hk:k<f.args.length),(dp at_ f.args)[k]? =some (f.args[k].val at_):=fun k hk=>by rw[jX];simp[List.getElem?_eq_getElem hk]
   rcases ed (show 1≤f.op by omega) Aq with h|h|h|h|h|h|h|h|h|h|h|h|h|h|h|h|h|h|h|h|h|h
   iterate 6 ·omega
   ·have ny:f.args.length=1:=by rw[h]at aX;simpa[aW]using aX
    obtain⟨x,hx⟩:=yM (ts:=dp at_ f.args) (by rw[jX];simpa using ny)
    obtain⟨c0,bB,sO⟩:=hargs 0 (by omega) 0 rfl
    have e0:f.args[0].val at_=x:=by have:=hg 0 (by omega);rw[hx]at this;simpa using this.symm
    rw[e0]at sO
    rw[hx]at hv ⊢
    have VN:=hv.1 x (by simp)
    have ha:=wb (a:=0) (by unfold bd;omega) (lS VN)
    have hw:=mZ VN
    rw[show(0:Int)+ -x= -x by omega,mn (lS VN)]at ha
    rw[h]
    simp(maxDischargeDepth:=6) only[qF,ah,ai,ab,aj,ae,ak,reduceCtorEq,Nat.reduceLT,Nat.reduceLeDiff,Nat.reduceEqDiff,Int.reduceEq,tl,bB,sO,wJ,gm.froz,hw,ha,E3];rfl
   ·obtain⟨x,y,lY⟩:=eA (ts:=dp at_ f.args) (by rw[jX];rw[h]at aX;simpa[aW]using aX)
    rw[lY];exact Ed x y lY (by omega)
   ·obtain⟨x,y,lY⟩:=eA (ts:=dp at_ f.args) (by rw[jX];rw[h]at aX;simpa[aW]using aX)
    rw[lY];exact Ed x y lY (by omega)
   ·obtain⟨x,y,lY⟩:=eA (ts:=dp at_ f.args) (by rw[jX];rw[h]at aX;simpa[aW]using aX)
    rw[lY];exact Ed x y lY (by omega)
   ·obtain⟨x,y,lY⟩:=eA (ts:=dp at_ f.args) (by rw[jX];rw[h]at aX;simpa[aW]using aX)
    rw[lY];exact Ed x y lY (by omega)
   ·rw[Jp (by rw[h]at aX;simp[aW]at aX;omega) (by omega),h];rfl
   ·rw[Jp (by rw[h]at aX;simp[aW]at aX;omega) (by omega),h];rfl
   ·have S7:f.args.length=3:=by rw[h]at aX;simpa[aW]using aX
    obtain⟨x,y,z,hx⟩:=v8 (ts:=dp at_ f.args) (by rw[jX];simpa using S7)
    obtain⟨c0,bB,sO⟩:=hargs 0 (by omega) 0 rfl
    obtain⟨c1,bK,jO⟩:=hargs 1 (by omega) 1 rfl
    obtain⟨c2,si,HD⟩:=hargs 2 (by omega) 2 rfl
    have e0:f.args[0].val at_=x:=by have:=hg 0 (by omega);rw[hx]at this;simpa using this.symm
    have e1:f.args[1].val at_=y:=by have:=hg 1 (by omega);rw[hx]at this;simpa using this.symm
    have e2:f.args[2].val at_=z:=by have:=hg 2 (by omega);rw[hx]at this;simpa using this.symm
    rw[e0]at sO
    rw[e1]at jO
    rw[e2]at HD
    rw[hx,h,show oG 14 [x,y,z]=if x=0 then z else y from rfl]
    by_cases VT:x=0 <;> simp(maxDischargeDepth:=6) only[qF,ah,ai,ab,aj,ae,ak,Int.reduceSub,Int.reduceNeg,reduceCtorEq,Nat.reduceLT,Nat.reduceLeDiff,Nat.reduceEqDiff,Int.reduceLE,Int.reduceEq,tl,bB,bK,si,sO,jO,HD,wJ,gm.froz,VT]
   ·have S7:f.args.length=3:=by rw[h]at aX;simpa[aW]using aX
    obtain⟨x,y,z,hx⟩:=v8 (ts:=dp at_ f.args) (by rw[jX];simpa using S7)
    obtain⟨c0,bB,sO⟩:=hargs 0 (by omega) 0 rfl
    obtain⟨c1,bK,jO⟩:=hargs 1 (by omega) 1 rfl
    obtain⟨c2,si,HD⟩:=hargs 2 (by omega) 2 rfl
    have e0:f.args[0].val at_=x:=by have:=hg 0 (by omega);rw[hx]at this;simpa using this.symm
    have e1:f.args[1].val at_=y:=by have:=hg 1 (by omega);rw[hx]at this;simpa using this.symm
    have e2:f.args[2].val at_=z:=by have:=hg 2 (by omega);rw[hx]at this;simpa using this.symm
    rw[e0]at sO
    rw[e1]at jO
    rw[e2]at HD
    rw[hx,h]
    have hi:=AN x y z
    have ht:=oF (qd x y z)
    simp(maxDischargeDepth:=6) only[qF,ah,ai,ab,aj,ae,ak,reduceCtorEq,Nat.reduceLT,Nat.reduceLeDiff,Nat.reduceEqDiff,Int.reduceEq,bV,aV,tl,bB,bK,si,sO,jO,HD,wJ,R5,gm.froz,hi,ht,Sq,Sr,AX,Sn];rfl
   iterate 3
    ·obtain⟨x,y,lY⟩:=eA (ts:=dp at_ f.args) (by rw[jX];rw[h]at aX;simpa[aW]using aX)
     rw[lY];exact Ed x y lY (by omega)
   ·have ny:f.args.length=1:=by rw[h]at aX;simpa[aW]using aX
    obtain⟨x,hx⟩:=yM (ts:=dp at_ f.args) (by rw[jX];simpa using ny)
    obtain⟨c0,bB,sO⟩:=hargs 0 (by omega) 0 rfl
    have e0:f.args[0].val at_=x:=by have:=hg 0 (by omega);rw[hx]at this;simpa using this.symm
    rw[e0]at sO
    rw[hx]at hv ⊢
    have VN:=hv.2.1 (by omega) x (by simp)
    have hw:wr .i64 (1-x)=1-x:=by unfold bit at VN;exact lg ⟨by omega,by omega⟩
    rw[h]
    simp(maxDischargeDepth:=6) only[qF,ah,ai,ab,aj,ae,ak,reduceCtorEq,Nat.reduceLT,Nat.reduceLeDiff,Nat.reduceEqDiff,Int.reduceEq,tl,bB,sO,wJ,gm.froz,hw];rfl
   iterate 3
    ·obtain⟨x,y,lY⟩:=eA (ts:=dp at_ f.args) (by rw[jX];rw[h]at aX;simpa[aW]using aX)
     rw[lY];exact Ed x y lY (by omega)
end
end Go.Proofs.YtfenhjpkomldcaaGreat
