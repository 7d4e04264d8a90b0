/- Expressions without attributes, compiled. Literals. Simplified forms keep their types: plain. Conditions: the theorems' own. -/
import Derived.Test.YtfenhjpkomldcaaGreatM7
import Derived.KernelRfl
set_option maxRecDepth 100000
set_option linter.unusedSimpArgs false
set_option linter.unusedVariables false
set_option maxHeartbeats 16000000
namespace Go.Proofs.YtfenhjpkomldcaaGreat
open Go Go.Ev
mutual
def iI:Ex→Fm
 | .mk op num _ args=>if op=1∨op=2∨op=3 then .mk 1 num []else if op=4 then .mk 1 1 []else if op=5 then .mk 1 0 []else .mk op 0 (cU args)
def cU:List Ex→List Fm
 | []=> []
 |x::xs=>iI x::cU xs
end
theorem mr(x:Ex):iI x=if x.op=1∨x.op=2∨x.op=3 then .mk 1 x.num []else if x.op=4 then .mk 1 1 []else if x.op=5 then .mk 1 0 []else .mk x.op 0 (cU x.args):=by obtain⟨_,_,_,_⟩:=x;rw[iI];rfl
theorem iS: ∀xs,cU xs=xs.map iI
 | []=>rfl
 |x::xs=>by rw[cU,iS xs];rfl
mutual
def Ex.na:Ex→Prop
 | .mk op _ _ args=>op≠6∧Rs args
def Rs:List Ex→Prop
 | []=>True
 |x::xs=>x.na∧Rs xs
end
theorem Ex.na_eq(x:Ex):x.na↔(x.op≠6∧Rs x.args):=by obtain⟨_,_,_,_⟩:=x;rw[Ex.na];rfl
theorem Fj: ∀{xs:List Ex},Rs xs↔ ∀x∈xs,x.na
 | []=>by simp[Rs]
 |x::xs=>by rw[Rs,Fj (xs:=xs)];simp
section
variable(kT:T)(EM:froz kT=true)(scope:Int)
def ZF(y:Ex):Prop:= ∀cs:List T,bE y cs→y.nodes≤100000→y.na→ ∃cf,ai pE 91 [kT,.i .i64 scope,.agg cs] []=some (.agg cf,[])∧nk (iI y) cf
include EM
theorem aeJ(xs:List Ex)(ih: ∀y∈xs,ZF kT scope y)(a:T)(cc:List T)(ha:aR a xs.length cc)(hx:aK xs cc)(hn:a6 xs≤100000)(hna:Rs xs)(op:T)(g g9:Nat)(c6:aB)(fr:Fr)(lh:aQ aB)(sh:List aB)
  (h0:ak fr 0=kT) (h1:ak fr 1= .i .i64 scope) (h9:ak fr 9= .ptr .L 9 g9 0) (yj:ak fr 63=a) (zK:ak fr 64= .i .i64 (xs.length:Int)) (BZ:ak fr 65= .i .i64 0) (o6:aq lh 6=c6) (o9:aq lh 9=⟨g9,.cells [op,.i .i64 0,.isl .L 60 g 0 xs.length 3] 0 true⟩) (zL:aq lh 60=⟨g,.cells (repl [.i .i64 0,.i .i64 0,.nilsl] xs.length) 0 false⟩):
  DC pE 80 (.loop jM) ⟨fr,lh,sh⟩=some (.ext 1,⟨cz pE 80 jM fr lh sh,bK pE 80 jM fr lh sh,cw pE 80 jM fr lh sh⟩)∧
  (aq (bK pE 80 jM fr lh sh) 6=c6∧aq (bK pE 80 jM fr lh sh) 9=⟨g9,.cells [op,.i .i64 0,.isl .L 60 g 0 xs.length 3] 0 true⟩∧(∃cs,aq (bK pE 80 jM fr lh sh) 60=⟨g,.cells cs 0 false⟩∧cg (cU xs) cs)∧cw pE 80 jM fr lh sh=sh):=by
 refine aD (P:=fun cO bp br=>aq bp 6=c6∧aq bp 9=⟨g9,.cells [op,.i .i64 0,.isl .L 60 g 0 xs.length 3] 0 true⟩∧(∃cs,aq bp 60=⟨g,.cells cs 0 false⟩∧cg (cU xs) cs)∧br=sh)
  (aI (fun k st=> ∃(fr:Fr) (aX:aQ aB) (A:List T),st=⟨fr,aX,sh⟩∧ak fr 0=kT∧ak fr 1= .i .i64 scope∧ak fr 9= .ptr .L 9 g9 0∧ak fr 63=a∧ak fr 64= .i .i64 (xs.length:Int)∧ak fr 65= .i .i64 (k:Int)∧aq aX 6=c6∧aq aX 9=⟨g9,.cells [op,.i .i64 0,.isl .L 60 g 0 xs.length 3] 0 true⟩∧
    aq aX 60=⟨g,.cells (A++repl [.i .i64 0,.i .i64 0,.nilsl] (xs.length-k)) 0 false⟩∧cg (cU (xs.take k)) A) _ xs.length ?_ ?_ 0 _ (Nat.zero_le _) ⟨fr,lh,[],rfl,h0,h1,h9,yj,zK,BZ,o6,o9,by rw[zL];rfl,by rw[List.take_zero,cU];exact cg.nil⟩)
 ·rintro k _ hk ⟨fr,aX,A,rfl,h0,h1,h9,yj,zK,BZ,o6,o9,zL,hA⟩
  left
  have bt:(k:Int)<xs.length:=by omega
  have qK:=bX xs
  have Rw:=cT (List.getElem_mem hk)
  have hw:=aJ (k:=k) (cm (by omega))
  obtain⟨b,cb,rr,bh,cH,nA,hb⟩:=dm ha hx k hk
  obtain⟨cf,az,pW⟩:=ih xs[k] (List.getElem_mem hk) _ hb (by omega) (Fj.1 hna _ (List.getElem_mem hk))
  obtain⟨fa,fc,rfl,fD,yT⟩:=pW.cells
  have Yx:A.length=k*3:=by rw[hA.len,iS];simp;omega
  have SS:(A++repl [T.i .i64 0,T.i .i64 0,T.nilsl] (xs.length-k)).length=xs.length*3:=by rw[List.length_append,re,Yx];simp;omega
  have Rr:splice (A++repl [T.i .i64 0,T.i .i64 0,T.nilsl] (xs.length-k)) (k*3) [.i .i64 (iI xs[k]).op,.i .i64 (iI xs[k]).num,fa]=(A++ [.i .i64 (iI xs[k]).op,.i .i64 (iI xs[k]).num,fa])++repl [T.i .i64 0,T.i .i64 0,T.nilsl] (xs.length-(k+1)):=by
   rw[show xs.length-k=(xs.length-(k+1))+1 by omega,oT,pQ A [T.i .i64 0,T.i .i64 0,T.nilsl] _ [T.i .i64 (iI xs[k]).op,T.i .i64 (iI xs[k]).num,fa] (k*3) Yx rfl]
  have KU:k*3+3≤xs.length*3:=by omega
  simp(maxDischargeDepth:=6) only[qF,ae,ah,aa,aj,ab,an,splice,Nat.reduceAdd,reduceCtorEq,Nat.reduceLT,Nat.reduceLeDiff,Nat.reduceEqDiff,cq,aZ,jM,h0,h1,h9,yj,zK,BZ,o9,zL,bt,bh,hw,az,VY,VZ,EM,cH.froz1,fD.froz1,hk,SS,Rr,KU]
  refine⟨_,rfl,_,_,A++ [.i .i64 (iI xs[k]).op,.i .i64 (iI xs[k]).num,fa],rfl, ?_, ?_, ?_, ?_, ?_, ?_, ?_, ?_, ?_, ?_⟩
  all_goals first|(simp(maxDischargeDepth:=6) only[aa,ab,reduceCtorEq,Nat.reduceEqDiff,h0,h1,h9,yj,zK,o6,o9];done)|skip
  rw[List.take_succ_eq_append_getElem hk,iS,List.map_append,←iS]
  exact cg.append hA (cg.one pW)
 ·rintro _ ⟨fr,aX,A,rfl,h0,h1,h9,yj,zK,BZ,o6,o9,zL,hA⟩
  rw[Nat.sub_self,show repl [T.i .i64 0,T.i .i64 0,T.nilsl] 0= []from rfl,List.append_nil]at zL
  rw[List.take_length]at hA
  simp(maxDischargeDepth:=6) only[ae,ah,aa,ab,an,Nat.reduceLT,jM,zK,BZ,Int.lt_irrefl]
  exact⟨_,_,(by simp:Out.ext 1≠ .nrm),rfl,rfl,o6,o9,⟨A,zL,hA⟩,rfl⟩
theorem TX(x:Ex):ZF kT scope x:=by
 induction x using Ex.ind with
 |h x ih=>
  intro cs hx hn hna
  obtain⟨a,cc,rfl,ha,mH⟩:=hx.cells
  rw[aG Sr (by simp[LO]),mr]
  obtain⟨hn6,aeK⟩:=(Ex.na_eq x).1 hna
  have nO:=x.nodes_eq
  by_cases h1:x.op=1
  ·rw[if_pos (.inl h1)]
   simp(maxDischargeDepth:=6) only[qF,ae,ah,aa,aj,ab,an,aF,splice,aH,Nat.reduceAdd,reduceCtorEq,Nat.reduceLT,Nat.reduceLeDiff,Nat.reduceEqDiff,Int.reduceEq,LO,h1]
   exact⟨_,rfl,nk.of (x:= .mk 1 x.num []) (Or.inl ⟨rfl,rfl,rfl⟩) cg.nil⟩
  by_cases h2:x.op=2
  ·rw[if_pos (.inr (.inl h2))]
   simp(maxDischargeDepth:=6) only[qF,ae,ah,aa,aj,ab,an,aF,splice,aH,Nat.reduceAdd,reduceCtorEq,Nat.reduceLT,Nat.reduceLeDiff,Nat.reduceEqDiff,Int.reduceEq,LO,h2]
   exact⟨_,rfl,nk.of (x:= .mk 1 x.num []) (Or.inl ⟨rfl,rfl,rfl⟩) cg.nil⟩
  by_cases h3:x.op=3
  ·rw[if_pos (.inr (.inr h3))]
   simp(maxDischargeDepth:=6) only[qF,ae,ah,aa,aj,ab,an,aF,splice,aH,Nat.reduceAdd,reduceCtorEq,Nat.reduceLT,Nat.reduceLeDiff,Nat.reduceEqDiff,Int.reduceEq,LO,h3]
   exact⟨_,rfl,nk.of (x:= .mk 1 x.num []) (Or.inl ⟨rfl,rfl,rfl⟩) cg.nil⟩
  rw[if_neg (by omega)]
  by_cases h4:x.op=4
  ·rw[if_pos h4]
   simp(maxDischargeDepth:=6) only[qF,ae,ah,aa,aj,ab,an,aF,splice,aH,Nat.reduceAdd,reduceCtorEq,Nat.reduceLT,Nat.reduceLeDiff,Nat.reduceEqDiff,Int.reduceEq,LO,h4]
   exact⟨_,rfl,nk.of (x:= .mk 1 1 []) (Or.inl ⟨rfl,rfl,rfl⟩) cg.nil⟩
  rw[if_neg h4]
  by_cases h5:x.op=5
  ·rw[if_pos h5]
   simp(maxDischargeDepth:=6) only[qF,ae,ah,aa,aj,ab,an,aF,splice,aH,Nat.reduceAdd,reduceCtorEq,Nat.reduceLT,Nat.reduceLeDiff,Nat.reduceEqDiff,Int.reduceEq,LO,h5]
   exact⟨_,rfl,nk.of (x:= .mk 1 0 []) (Or.inl ⟨rfl,rfl,rfl⟩) cg.nil⟩
  rw[if_neg h5]
  have zB:=bX x.args
  have tu:x.args.length≤eG:=cm (by omega)
  have Ua:x.args.length*40≤roomy∧x.args.length≤roomy:=by unfold eG at tu;unfold roomy;omega
  have vY:=fun c6 fr lh sh h0 h1 h9 yj zK BZ o6 o9 zL=>aeJ kT EM scope x.args (fun y hy=>ih y hy) a cc ha mH (by omega) aeK (.i .i64 x.op) 1 1 c6 fr lh sh h0 h1 h9 yj zK BZ o6 o9 zL
  have hL:=fun fr lh sh h0 h1 h9 yj zK BZ o6 o9 zL=>And.intro (vY ⟨1,.cells [.i .i64 0,.i .i64 0,.nilsl] 0 true⟩ fr lh sh h0 h1 h9 yj zK BZ o6 o9 zL).1 (And.intro (vY ⟨1,.cells [.i .i64 0,.i .i64 0,.nilsl] 0 true⟩ fr lh sh h0 h1 h9 yj zK BZ o6 o9 zL).2.1 (And.intro (vY ⟨1,.cells [.i .i64 0,.i .i64 0,.nilsl] 0 true⟩ fr lh sh h0 h1 h9 yj zK BZ o6 o9 zL).2.2.1 (And.intro (yK (vY ⟨1,.cells [.i .i64 0,.i .i64 0,.nilsl] 0 true⟩ fr lh sh h0 h1 h9 yj zK BZ o6 o9 zL).2.2.2.1).1 (vY ⟨1,.cells [.i .i64 0,.i .i64 0,.nilsl] 0 true⟩ fr lh sh h0 h1 h9 yj zK BZ o6 o9 zL).2.2.2.2)))
  have hF:=fun fr lh sh h0 h1 h9 yj zK BZ o6 o9 zL=>(yK (vY ⟨1,.cells [.i .i64 0,.i .i64 0,.nilsl] 0 true⟩ fr lh sh h0 h1 h9 yj zK BZ o6 o9 zL).2.2.2.1).2
  have Bu:=fun fr lh sh h0 h1 h9 yj zK BZ o6 o9 zL=>(hF fr lh sh h0 h1 h9 yj zK BZ o6 o9 zL).len
  have eA:(cU x.args).length=x.args.length:=by rw[iS];simp
  rw[eA]at Bu
  simp(maxDischargeDepth:=6) only[qF,ae,ah,aa,aj,ab,an,Nat.reduceShiftRight,Nat.reduceMod,aF,u6,yA,splice,aH,Nat.reduceAdd,reduceCtorEq,Nat.reduceLT,Nat.reduceLeDiff,Nat.reduceEqDiff,cq,iw,aZ,Ky,LO,HL,h1,h2,h3,h4,h5,hn6,ha.lenI,Ua,hL,Bu]
  generalize hX:Dc _ _=X
  have Ub:cg (cU x.args) X:=by
   rw[←hX]
   refine hF _ _ _ ?_ ?_ ?_ ?_ ?_ ?_ ?_ ?_ ?_ <;> simp(maxDischargeDepth:=6) only[aa,ab,reduceCtorEq,Nat.reduceEqDiff]
  have YA:=Ub.len
  rw[eA]at YA
  rw[←YA,List.take_length]
  exact⟨_,rfl,nk.of (x:= .mk x.op 0 (cU x.args)) (Or.inr ⟨false,by show T.sl X x.args.length false= .sl X (cU x.args).length false;rw[eA]⟩) Ub⟩
end
end Go.Proofs.YtfenhjpkomldcaaGreat
namespace Go.Proofs.YtfenhjpkomldcaaGreat
open Go Go.Ev
theorem cE(op num:Int)(a:T)(ha:aR a 0 []):bE (bN op num) [.i .i64 op,.i .i64 num,.s [],a]:=bE.of (x:=bN op num) ha aK.nil
theorem cp:aR .nilsl 0 []:=Or.inl ⟨rfl,rfl,rfl⟩
theorem yR(op n:Int):bE (.mk 7 0 [] [bN op n]) [.i .i64 7,.i .i64 0,.s [],.sl [.i .i64 op,.i .i64 n,.s [],.nilsl] 1 true]:=
 bE.of (x:= .mk 7 0 [] [bN op n]) (Or.inr ⟨true,rfl⟩) (aK.one (cE op n .nilsl cp))
theorem E2(k n:Int)(hn:bd n)(hb:k=4→bit n): ∃cs,ai pE 106 [.i .i64 k,.i .i64 n] []=some (.agg cs,[])∧bE (fo k n) cs:=by
 rw[aG PL (by simp[uf])]
 unfold fo
 have hw:=pO hn
 by_cases h4:k=4
 ·subst h4
  rcases hb rfl with h0|h0
  ·simp(maxDischargeDepth:=6) only[qF,ae,ah,aa,aj,ab,an,Int.reduceNeg,aF,splice,aH,Nat.reduceAdd,reduceCtorEq,Nat.reduceLT,Nat.reduceLeDiff,Nat.reduceEqDiff,Int.reduceLT,Int.reduceEq,uf,h0];exact⟨_,rfl,cE _ _ _ cp⟩
  ·simp(maxDischargeDepth:=6) only[qF,ae,ah,aa,aj,ab,an,Int.reduceNeg,aF,splice,aH,Nat.reduceAdd,reduceCtorEq,Nat.reduceLT,Nat.reduceLeDiff,Nat.reduceEqDiff,Int.reduceLT,Int.reduceEq,uf,h0];exact⟨_,rfl,cE _ _ _ cp⟩
 by_cases h3:k=3
 ·subst h3
  simp(maxDischargeDepth:=6) only[qF,ae,ah,aa,aj,ab,an,aF,splice,aH,Nat.reduceAdd,reduceCtorEq,Nat.reduceLT,Nat.reduceLeDiff,Nat.reduceEqDiff,Int.reduceEq,uf];exact⟨_,rfl,cE _ _ _ cp⟩
 by_cases h2:k=2
 ·subst h2
  by_cases h0:n<0
  ·simp(maxDischargeDepth:=6) only[qF,ae,ah,aa,aj,ab,an,aF,dq,dw,splice,aH,repl,Nat.reduceAdd,reduceCtorEq,Nat.reduceLT,Nat.reduceLeDiff,Nat.reduceEqDiff,Int.reduceEq,uf,h0,hw];exact⟨_,rfl,yR _ _⟩
  ·simp(maxDischargeDepth:=6) only[qF,ae,ah,aa,aj,ab,an,aF,dq,dw,splice,aH,repl,Nat.reduceAdd,reduceCtorEq,Nat.reduceLT,Nat.reduceLeDiff,Nat.reduceEqDiff,Int.reduceEq,uf,h0];exact⟨_,rfl,cE _ _ _ cp⟩
 ·by_cases h0:n<0
  ·simp(maxDischargeDepth:=6) only[qF,ae,ah,aa,aj,ab,an,aF,dq,dw,splice,aH,repl,Nat.reduceAdd,reduceCtorEq,Nat.reduceLT,Nat.reduceLeDiff,Nat.reduceEqDiff,uf,h2,h3,h4,h0,hw];exact⟨_,rfl,yR _ _⟩
  ·simp(maxDischargeDepth:=6) only[qF,ae,ah,aa,aj,ab,an,aF,dq,dw,splice,aH,repl,Nat.reduceAdd,reduceCtorEq,Nat.reduceLT,Nat.reduceLeDiff,Nat.reduceEqDiff,uf,h2,h3,h4,h0];exact⟨_,rfl,cE _ _ _ cp⟩
theorem Bm(f:Nat)(x:Ex)(a:T):(f=153∨f=65)→ai pE f [.agg [.i .i64 x.op,.i .i64 x.num,.s x.name,a]] []=some (.b (gn x),[]):=by
 unfold gn
 rintro(rfl|rfl)
 ·rw[aG Qg (by simp[Cf])]
  by_cases h1:x.op=1
  ·simp(maxDischargeDepth:=6) only[qF,ae,ah,aa,aj,ab,an,Nat.reduceLT,Nat.reduceEqDiff,Int.reduceEq,Cf,h1,true_or]
  ·by_cases h2:x.op=2
   ·simp(maxDischargeDepth:=6) only[qF,ae,ah,aa,aj,ab,an,Nat.reduceLT,Nat.reduceEqDiff,Int.reduceEq,Cf,h2,or_true]
   ·simp(maxDischargeDepth:=6) only[qF,ae,ah,aa,aj,ab,an,Nat.reduceLT,Nat.reduceEqDiff,Cf,h1,h2,or_self]
 ·rw[aG VT (by simp[R4])]
  by_cases h1:x.op=1
  ·simp(maxDischargeDepth:=6) only[qF,ae,ah,aa,aj,ab,an,Nat.reduceLT,Nat.reduceEqDiff,Int.reduceEq,R4,h1,true_or]
  ·by_cases h2:x.op=2
   ·simp(maxDischargeDepth:=6) only[qF,ae,ah,aa,aj,ab,an,Nat.reduceLT,Nat.reduceEqDiff,Int.reduceEq,R4,h2,or_true]
   ·simp(maxDischargeDepth:=6) only[qF,ae,ah,aa,aj,ab,an,Nat.reduceLT,Nat.reduceEqDiff,R4,h1,h2,or_self]
theorem EP(f:Nat)(x:Ex)(a:T):(f=154∨f=163)→ai pE f [.agg [.i .i64 x.op,.i .i64 x.num,.s x.name,a]] []=some (.b (og x),[]):=by
 unfold og
 rintro(rfl|rfl)
 ·rw[aG Qh (by simp[HY])]
  by_cases h1:x.op=1 <;> simp(maxDischargeDepth:=6) only[qF,ae,ah,aa,aj,ab,an,Nat.reduceLT,Nat.reduceEqDiff,HY,h1]
 ·rw[aG Qo (by simp[H5])]
  by_cases h1:x.op=1 <;> simp(maxDischargeDepth:=6) only[qF,ae,ah,aa,aj,ab,an,Nat.reduceLT,Nat.reduceEqDiff,H5,h1]
def k6(x:Ex):Ex:=x.args.headD (bN 0 0)
theorem od(x:Ex)(h7:x.op=7→0<x.args.length):isLit x=(decide (x.op=1∨x.op=2∨x.op=3∨x.op=4∨x.op=5)||(decide (x.op=7)&&decide ((k6 x).op=1∨(k6 x).op=2))):=by
 obtain⟨op,num,name,args⟩:=x
 cases args with
 |nil=>by_cases h:op=7
       ·exact absurd (h7 h) (by simp[Ex.args])
       ·simp only[isLit,Ex.op,h,decide_false,Bool.false_and];congr
 |cons y ys=>rfl
theorem yP(x:Ex)(h7:x.op=7→0<x.args.length):kZ x=if x.op=4 then 1 else if x.op=5 then 0 else if x.op=7 then-(k6 x).num else x.num:=by
 obtain⟨op,num,name,args⟩:=x
 cases args with
 |nil=>by_cases h:op=7
       ·exact absurd (h7 h) (by simp[Ex.args])
       ·simp[kZ,Ex.op,Ex.num,h]
 |cons y ys=>rfl
theorem Fk{x:Ex}{a:T}{cc:List T}(ha:aR a x.args.length cc)(hx:aK x.args cc)(h:0<x.args.length): ∃b r,∀kk,uW a (.i kk 0) 4=some (.vp (.i .i64 (k6 x).op:: .i .i64 (k6 x).num:: .s (k6 x).name::b::r)):=by
 obtain⟨b,cb,r,bh,_⟩:=dm ha hx 0 h
 have e:k6 x=x.args[0]:=by
  unfold k6
  generalize x.args=l at h
  cases l with
  |nil=>simp at h
  |cons y ys=>rfl
 rw[e]
 exact⟨b,r,bh⟩
theorem Hu(x:Ex)(cs:List T)(hx:bE x cs)(h7:x.op=7→0<x.args.length):ai pE 147 [.agg cs] []=some (.b (!isLit x),[]):=by
 obtain⟨a,cc,rfl,ha,mH⟩:=hx.cells
 rw[aG P9 (by simp[th]),od x h7]
 by_cases h1:x.op=1
 ·simp(maxDischargeDepth:=6) only[qF,ae,ah,aa,aj,ab,an,Nat.reduceLT,Nat.reduceEqDiff,Int.reduceEq,th,h1,true_or,Bool.true_or]
 by_cases h2:x.op=2
 ·simp(maxDischargeDepth:=6) only[qF,ae,ah,aa,aj,ab,an,Nat.reduceLT,Nat.reduceEqDiff,Int.reduceEq,th,h2,true_or,or_true,Bool.true_or]
 by_cases h3:x.op=3
 ·simp(maxDischargeDepth:=6) only[qF,ae,ah,aa,aj,ab,an,Nat.reduceLT,Nat.reduceEqDiff,Int.reduceEq,th,h3,true_or,or_true,Bool.true_or]
 by_cases h4:x.op=4
 ·simp(maxDischargeDepth:=6) only[qF,ae,ah,aa,aj,ab,an,Nat.reduceLT,Nat.reduceEqDiff,Int.reduceEq,th,h4,true_or,or_true,Bool.true_or]
 by_cases h5:x.op=5
 ·simp(maxDischargeDepth:=6) only[qF,ae,ah,aa,aj,ab,an,Nat.reduceLT,Nat.reduceEqDiff,Int.reduceEq,th,h5,or_true,Bool.true_or]
 by_cases h:x.op=7
 ·obtain⟨b,r,bh⟩:=Fk ha mH (h7 h)
  by_cases y1:(k6 x).op=1
  ·simp(maxDischargeDepth:=6) only[qF,ae,ah,aa,aj,ab,an,Nat.reduceLT,Nat.reduceEqDiff,Int.reduceEq,th,h,bh,y1,true_or,or_self,Bool.false_or]
  ·by_cases y2:(k6 x).op=2 <;> simp(maxDischargeDepth:=6) only[qF,ae,ah,aa,aj,ab,an,Nat.reduceLT,Nat.reduceEqDiff,Int.reduceEq,th,h,bh,y1,y2,or_true,or_self,Bool.false_or]
 ·simp(maxDischargeDepth:=6) only[qF,ae,ah,aa,aj,ab,an,Nat.reduceLT,Nat.reduceEqDiff,th,h1,h2,h3,h4,h5,h,or_self,Bool.or_self]
theorem O2(x:Ex)(cs:List T)(hx:bE x cs)(h7:x.op=7→0<x.args.length)(hb:x.op=7→bd (k6 x).num):ai pE 107 [.agg cs] []=some (.tup [.i .i64 (if isLit x then kZ x else 0),.b (isLit x)],[]):=by
 obtain⟨a,cc,rfl,ha,mH⟩:=hx.cells
 rw[aG PN (by simp[tg]),od x h7,yP x h7]
 by_cases h1:x.op=1
 ·simp(maxDischargeDepth:=6) only[qF,ae,ah,aa,aj,ab,an,Nat.reduceLT,Nat.reduceEqDiff,Int.reduceEq,tg,h1,true_or,Bool.true_or]
 by_cases h2:x.op=2
 ·simp(maxDischargeDepth:=6) only[qF,ae,ah,aa,aj,ab,an,Nat.reduceLT,Nat.reduceEqDiff,Int.reduceEq,tg,h2,true_or,or_true,Bool.true_or]
 by_cases h3:x.op=3
 ·simp(maxDischargeDepth:=6) only[qF,ae,ah,aa,aj,ab,an,Nat.reduceLT,Nat.reduceEqDiff,Int.reduceEq,tg,h3,true_or,or_true,Bool.true_or]
 by_cases h4:x.op=4
 ·simp(maxDischargeDepth:=6) only[qF,ae,ah,aa,aj,ab,an,Nat.reduceLT,Nat.reduceEqDiff,Int.reduceEq,tg,h4,true_or,or_true,Bool.true_or]
 by_cases h5:x.op=5
 ·simp(maxDischargeDepth:=6) only[qF,ae,ah,aa,aj,ab,an,Nat.reduceLT,Nat.reduceEqDiff,Int.reduceEq,tg,h5,or_true,Bool.true_or]
 by_cases h:x.op=7
 ·obtain⟨b,r,bh⟩:=Fk ha mH (h7 h)
  have hw:=pO (hb h)
  by_cases y1:(k6 x).op=1
  ·simp(maxDischargeDepth:=6) only[qF,ae,ah,aa,aj,ab,an,Nat.reduceLT,Nat.reduceLeDiff,Nat.reduceEqDiff,Int.reduceEq,tg,h,bh,y1,hw,true_or,or_self,Bool.false_or]
  ·by_cases y2:(k6 x).op=2 <;> simp(maxDischargeDepth:=6) only[qF,ae,ah,aa,aj,ab,an,Nat.reduceLT,Nat.reduceLeDiff,Nat.reduceEqDiff,Int.reduceEq,tg,h,bh,y1,y2,hw,or_true,or_self,Bool.false_or]
 ·simp(maxDischargeDepth:=6) only[qF,ae,ah,aa,aj,ab,an,Nat.reduceLT,Nat.reduceEqDiff,tg,h1,h2,h3,h4,h5,h,or_self,Bool.or_self]
mutual
def Ex.kX:Ex→Int
 | .mk op _ _ args=>if op=1 then 1 else if op=2 then 2 else if op=3 then 3 else if op=7∨op=8∨op=9∨op=12∨op=13 then a0 (tf args)else if op=14 then a1 (tf args)
   else if op=10 then max (a0 (tf args)) (a1 (tf args))else if op=11 then(if a1 (tf args)=2 then 1 else a0 (tf args))else 4
def tf:List Ex→List Int
 | []=> []
 |x::xs=>x.kX::tf xs
end
theorem Ex.kX_eq(x:Ex):x.kX=if x.op=1 then 1 else if x.op=2 then 2 else if x.op=3 then 3 else if x.op=7∨x.op=8∨x.op=9∨x.op=12∨x.op=13 then a0 (tf x.args)else if x.op=14 then a1 (tf x.args)
  else if x.op=10 then max (a0 (tf x.args)) (a1 (tf x.args))else if x.op=11 then(if a1 (tf x.args)=2 then 1 else a0 (tf x.args))else 4:=by obtain⟨_,_,_,_⟩:=x;rw[Ex.kX];rfl
theorem zu: ∀xs,tf xs=xs.map Ex.kX
 | []=>rfl
 |x::xs=>by rw[tf,zu xs];rfl
def koP(y:Ex):Prop:= ∀cs:List T,bE y cs→y.wf=true→ai pE 149 [.agg cs] []=some (.i .i64 y.kX,[])
theorem ZG{xs:List Ex}(ih: ∀y∈xs,koP y){a:T}{cc:List T}(ha:aR a xs.length cc)(hx:aK xs cc)(gK:gT xs=true)(k:Nat)(hk:k<xs.length)(j:Int)(hj:j=(k:Int)):
  ∃b r,froz1 b=true∧(∀kk,uW a (.i kk j) 4=some (.vp (.i .i64 xs[k].op:: .i .i64 xs[k].num:: .s xs[k].name::b::r)))∧ai pE 149 [.agg [.i .i64 xs[k].op,.i .i64 xs[k].num,.s xs[k].name,b]] []=some (.i .i64 xs[k].kX,[]):=by
 obtain⟨b,cb,r,bh,h1,h2,h3⟩:=dm ha hx k hk
 subst hj
 exact⟨b,r,h1.froz1,bh,ih xs[k] (List.getElem_mem hk) _ h3 (jg.1 gK _ (List.getElem_mem hk))⟩
theorem Yq(x:Ex):koP x:=by
 induction x using Ex.ind with
 |h x ih=>
  intro cs hx gK
  obtain⟨a,cc,rfl,ha,mH⟩:=hx.cells
  rw[aG IE (by simp[ti]),Ex.kX_eq]
  rw[Ex.wf_eq,Bool.and_eq_true]at gK
  obtain⟨fh,lD⟩:=gK
  simp only[fX,Bool.and_eq_true,decide_eq_true_eq]at fh
  obtain⟨LA,LB,bo,_,_⟩:=fh
  have ew:=fun k hk j hj=>ZG (fun y hy=>ih y hy) ha mH lD k hk j hj
  have e0: ∀h:0<x.args.length,a0 (tf x.args)=x.args[0].kX:=fun h=>by rw[zu];unfold a0;simp[List.getD_eq_getElem?_getD,List.getElem?_eq_getElem h]
  have e1: ∀h:1<x.args.length,a1 (tf x.args)=x.args[1].kX:=fun h=>by rw[zu];unfold a1;simp[List.getD_eq_getElem?_getD,List.getElem?_eq_getElem h]
  rcases eP LA LB with h|h|h|h|h|h|h|h|h|h|h|h|h|h|h|h|h|h|h|h|h|h <;> rw[h]at bo ⊢ <;> simp only[bm,Int.reduceLE,Int.reduceEq,or_true,or_false,or_self,if_true,if_false,decide_eq_true_eq]at bo ⊢
  iterate 6 ·simp(maxDischargeDepth:=6) only[qF,ae,ah,aa,aj,ab,an,Nat.reduceLT,Nat.reduceEqDiff,Int.reduceEq,ti]
  iterate 3
   ·obtain⟨b,r,hf,bh,hc⟩:=ew 0 (by omega) 0 rfl
    rw[e0 (by omega)]
    simp(maxDischargeDepth:=6) only[qF,ae,ah,aa,aj,ab,an,Nat.reduceLT,Nat.reduceLeDiff,Nat.reduceEqDiff,Int.reduceEq,ti,bh,hc,um,hf]
  ·obtain⟨b,r,hf,bh,hc⟩:=ew 0 (by omega) 0 rfl
   obtain⟨b',r',Pn,pj,GJ⟩:=ew 1 (by omega) 1 rfl
   rw[e0 (by omega),e1 (by omega)]
   generalize x.args[0].kX=p at*
   generalize x.args[1].kX=q at*
   rw[show max p q=(if q>p then q else p)by split <;> omega]
   simp(maxDischargeDepth:=6) only[qF,ae,ah,aa,aj,ab,an,pL,bM,Nat.reduceLT,Nat.reduceLeDiff,Nat.reduceEqDiff,Int.reduceEq,cq,aZ,ti,bh,hc,pj,GJ,um,Wo,hf,Pn]
  ·obtain⟨b,r,hf,bh,hc⟩:=ew 0 (by omega) 0 rfl
   obtain⟨b',r',Pn,pj,GJ⟩:=ew 1 (by omega) 1 rfl
   rw[e0 (by omega),e1 (by omega)]
   by_cases hq:x.args[1].kX=2
   ·rw[hq]at GJ
    simp(maxDischargeDepth:=6) only[qF,ae,ah,aa,aj,ab,an,Nat.reduceLT,Nat.reduceLeDiff,Nat.reduceEqDiff,Int.reduceEq,ti,bh,hc,pj,GJ,um,hf,Pn,hq]
   ·simp(maxDischargeDepth:=6) only[qF,ae,ah,aa,aj,ab,an,Nat.reduceLT,Nat.reduceLeDiff,Nat.reduceEqDiff,Int.reduceEq,ti,bh,hc,pj,GJ,um,hf,Pn,hq]
  iterate 2
   ·obtain⟨b,r,hf,bh,hc⟩:=ew 0 (by omega) 0 rfl
    rw[e0 (by omega)]
    simp(maxDischargeDepth:=6) only[qF,ae,ah,aa,aj,ab,an,Nat.reduceLT,Nat.reduceLeDiff,Nat.reduceEqDiff,Int.reduceEq,ti,bh,hc,um,hf]
  ·obtain⟨b,r,hf,bh,hc⟩:=ew 1 (by omega) 1 rfl
   rw[e1 (by omega)]
   simp(maxDischargeDepth:=6) only[qF,ae,ah,aa,aj,ab,an,Nat.reduceLT,Nat.reduceLeDiff,Nat.reduceEqDiff,Int.reduceEq,ti,bh,hc,um,hf]
  all_goals simp(maxDischargeDepth:=6) only[qF,ae,ah,aa,aj,ab,an,Nat.reduceLT,Nat.reduceEqDiff,Int.reduceEq,ti]
end Go.Proofs.YtfenhjpkomldcaaGreat
namespace Go.Proofs.YtfenhjpkomldcaaGreat
open Go Go.Ev
def Dk(k n:Int):Prop:=((k=1∨k=2)∧bd n)∨(k=3∧0≤n∧n≤1439)∨(k=4∧bit n)
theorem vq{k n:Int}(h:Dk k n):bd n:=by
 rcases h with⟨_,h⟩|⟨_,h1,h2⟩|⟨_,h⟩
 ·exact h
 ·unfold bd;omega
 ·exact UO h
theorem rh{n:Int}(h:Dk 4 n):bit n:=by
 rcases h with⟨h|h,_⟩|⟨h,_⟩|⟨_,h⟩
 ·omega
 ·omega
 ·omega
 ·exact h
theorem nl{k n:Int}(h:k=1∨k=2)(hb:bd n):Dk k n:= .inl ⟨h,hb⟩
def nc:List Nat→Int×Int:=fun _=>(0,6)
def FK(scope k:Int)(y:Ex):Prop:=y.wf=true∧y.ty nc scope=(k,0)
theorem FK.node{scope k:Int}{y:Ex}(h:FK scope k y):1≤y.op∧y.op≤22∧bm y.op y.args.length=true∧(0≤y.num∧y.num≤iA y.op)∧(if y.op=6 then iY y.name=true else y.name= [])∧gT y.args=true:=by
 have:=h.1
 rw[Ex.wf_eq,Bool.and_eq_true]at this
 obtain⟨fh,lD⟩:=this
 simp only[fX,Bool.and_eq_true,decide_eq_true_eq]at fh
 obtain⟨h1,h2,h3,h4,h5⟩:=fh
 refine⟨h1,h2,h3,h4, ?_,lD⟩
 split at h5 <;> rename_i e
 ·rw[if_pos e];exact h5
 ·rw[if_neg e];simpa using h5
def xA(scope:Int):List Int→List Ex→Prop
 | [],[]=>True
 |t::ts,y::ys=>FK scope t y∧xA scope ts ys
 |_,_=>False
theorem xA.len{scope:Int}: ∀{ts:List Int} {ys:List Ex},xA scope ts ys→ts.length=ys.length
 | [],[],_=>rfl
 |t::ts,y::ys,h=>by rw[List.length_cons,List.length_cons,xA.len h.2]
theorem xA.wf{scope:Int}: ∀{ts:List Int} {ys:List Ex},xA scope ts ys→gT ys=true
 | [],[],_=>rfl
 |t::ts,y::ys,h=>by rw[gT,h.1.1,xA.wf h.2];rfl
theorem xA.ty{scope:Int}: ∀{ts:List Int} {ys:List Ex},xA scope ts ys→gS nc scope ys= .ok ts
 | [],[],_=>by rw[gS]
 |t::ts,y::ys,h=>by
  rw[gS,h.1.2,xA.ty h.2];rfl
theorem FK.mk{scope k:Int}{op:Int}{ys:List Ex}{ts:List Int}(h1:1≤op)(h2:op≤22)(h6:op≠6)(bo:bm op ys.length=true)(pB:xA scope ts ys)(hr:dJ op ts=k)(hk:k≠0):FK scope k (.mk op 0 [] ys):=by
 constructor
 ·rw[Ex.wf_eq,Bool.and_eq_true]
  refine⟨?_,pB.wf⟩
  have hm:0≤iA op:=by unfold iA;split <;> (try split) <;> decide
  simp only[fX,Bool.and_eq_true,decide_eq_true_eq]
  refine⟨h1,h2,bo,⟨Int.le_refl _,hm⟩, ?_⟩
  show(if op=6 then iY []else decide (([]:List Nat)= []))=true
  rw[if_neg h6];rfl
 ·rw[Ex.ty_eq]
  show(if op=6 then _ else match gS nc scope ys with| .error e=>(0,e)| .ok ts=>if dJ op ts=0 then(0,9)else(dJ op ts,0))=(k,0)
  rw[if_neg h6,pB.ty]
  show(if dJ op ts=0 then((0:Int),(9:Int))else(dJ op ts,0))=(k,0)
  rw[hr,if_neg hk]
theorem FK.leaf{scope k op num:Int}(h:(op=1∧k=1∧0≤num∧num≤1099511627776)∨(op=2∧k=2∧0≤num∧num≤1099511627776)∨(op=3∧k=3∧0≤num∧num≤1439)∨(op=4∧k=4∧num=0)∨(op=5∧k=4∧num=0)):FK scope k (bN op num):=by
 have hw:(bN op num).wf=fX op num [] 0:=by rw[Ex.wf_eq];simp[bN,Ex.op,Ex.num,Ex.name,Ex.args,gT]
 have ht:op≠6→(bN op num).ty nc scope=if dJ op []=0 then(0,9)else(dJ op [],0):=fun h6=>by
  rw[Ex.ty_eq];simp only[bN,Ex.op,Ex.args,if_neg h6,gS];rfl
 constructor
 ·rw[hw]
  simp only[fX,Bool.and_eq_true,decide_eq_true_eq]
  rcases h with⟨rfl,rfl,h1,h2⟩|⟨rfl,rfl,h1,h2⟩|⟨rfl,rfl,h1,h2⟩|⟨rfl,rfl,rfl⟩|⟨rfl,rfl,rfl⟩
  ·exact⟨by decide,by decide,rfl,⟨h1,h2⟩,rfl⟩
  ·exact⟨by decide,by decide,rfl,⟨h1,h2⟩,rfl⟩
  ·exact⟨by decide,by decide,rfl,⟨h1,h2⟩,rfl⟩
  ·exact⟨by decide,by decide,rfl,⟨by decide,by decide⟩,rfl⟩
  ·exact⟨by decide,by decide,rfl,⟨by decide,by decide⟩,rfl⟩
 ·rcases h with⟨rfl,rfl,h1,h2⟩|⟨rfl,rfl,h1,h2⟩|⟨rfl,rfl,h1,h2⟩|⟨rfl,rfl,rfl⟩|⟨rfl,rfl,rfl⟩ <;> rw[ht (by decide)] <;> rfl
theorem tM{scope k n:Int}(h:Dk k n):FK scope k (fo k n)∧isLit (fo k n)=true∧kZ (fo k n)=n:=by
 unfold fo
 rcases h with⟨hk,hb⟩|⟨rfl,h1,h2⟩|⟨rfl,hb⟩
 ·have h4:k≠4:=by omega
  have h3:k≠3:=by omega
  rw[if_neg h4,if_neg h3]
  unfold bd at hb
  by_cases h0:n<0
  ·rw[if_pos h0]
   rcases hk with rfl|rfl
   ·refine⟨FK.mk (ts:= [1]) (by decide) (by decide) (by decide) rfl ⟨FK.leaf (.inl ⟨rfl,rfl,by omega,by omega⟩),trivial⟩ rfl (by decide),rfl, ?_⟩
    show- -n=n;omega
   ·refine⟨FK.mk (ts:= [2]) (by decide) (by decide) (by decide) rfl ⟨FK.leaf (.inr (.inl ⟨rfl,rfl,by omega,by omega⟩)),trivial⟩ rfl (by decide),rfl, ?_⟩
    show- -n=n;omega
  ·rw[if_neg h0]
   rcases hk with rfl|rfl
   ·exact⟨FK.leaf (.inl ⟨rfl,rfl,by omega,by omega⟩),rfl,rfl⟩
   ·exact⟨FK.leaf (.inr (.inl ⟨rfl,rfl,by omega,by omega⟩)),rfl,rfl⟩
 ·rw[if_neg (by decide),if_pos rfl]
  exact⟨FK.leaf (.inr (.inr (.inl ⟨rfl,rfl,h1,h2⟩))),rfl,rfl⟩
 ·rw[if_pos rfl]
  rcases hb with rfl|rfl
  ·exact⟨FK.leaf (.inr (.inr (.inr (.inr ⟨rfl,rfl,rfl⟩)))),rfl,rfl⟩
  ·exact⟨FK.leaf (.inr (.inr (.inr (.inl ⟨rfl,rfl,rfl⟩)))),rfl,rfl⟩
theorem zw{cl:List Nat→Int×Int}{scope:Int}: ∀{xs:List Ex} {e:Int},gS cl scope xs= .error e→e≠0
 | [],e,h=>by rw[gS]at h;cases h
 |x::xs,e,h=>by
  rw[gS]at h
  split at h
  ·rename_i h0;cases h;exact h0
  ·cases hx:gS cl scope xs with
   |error e'=>rw[hx]at h;cases h;exact zw hx
   |ok us=>rw[hx]at h;cases h
theorem FK.arg{scope k:Int}{y:Ex}(h:FK scope k y)(h6:y.op≠6): ∃ts,xA scope ts y.args∧dJ y.op ts=k∧k≠0:=by
 obtain⟨h1,h2,bo,gJ,jT,lD⟩:=h.node
 have ht:=h.2
 rw[Ex.ty_eq,if_neg h6]at ht
 cases hr:gS nc scope y.args with
 |error e=>
  rw[hr]at ht
  have hh:((0:Int),e)=(k,0):=ht
  injection hh with _ h0
  exact absurd h0 (zw hr)
 |ok ts=>
  rw[hr]at ht
  have hh:(if dJ y.op ts=0 then((0:Int),(9:Int))else(dJ y.op ts,0))=(k,0):=ht
  split at hh
  ·cases hh
  ·rename_i ev
   have e1:dJ y.op ts=k:=by injection hh
   refine⟨ts, ?_,e1,by rw[←e1];exact ev⟩
   clear ht hh e1 ev bo gJ jT h1 h2 h
   generalize y.args=ys at hr lD
   induction ys generalizing ts with
   |nil=>rw[gS]at hr;cases hr;trivial
   |cons z zs ih=>
    rw[gT,Bool.and_eq_true]at lD
    rw[gS]at hr
    split at hr
    ·cases hr
    ·rename_i h0
     cases hx:gS nc scope zs with
     |error e=>rw[hx]at hr;cases hr
     |ok us=>
      rw[hx]at hr;cases hr
      refine⟨⟨lD.1, ?_⟩,ih us hx lD.2⟩
      have e2:(z.ty nc scope).2=0:=by simpa using h0
      rw[←e2]
theorem FK.lit{scope k:Int}{y:Ex}(h:FK scope k y)(hl:isLit y=true):Dk k (kZ y)∧y.kX=k∧(y.op=7→0<y.args.length∧bd (k6 y).num):=by
 obtain⟨h1,h2,bo,gJ,jT,lD⟩:=h.node
 have h7:y.op=7→0<y.args.length:=fun e=>by rw[e]at bo;simp[bm]at bo;omega
 rw[od y h7,Bool.or_eq_true,Bool.and_eq_true,decide_eq_true_eq,decide_eq_true_eq,decide_eq_true_eq]at hl
 rw[yP y h7]
 have h6:y.op≠6:=by omega
 obtain⟨ts,je,hr,hk⟩:=h.arg h6
 rcases hl with hl|⟨hl7,hz⟩
 ·have hlen:y.args.length=0:=by
   rcases hl with e|e|e|e|e <;> rw[e]at bo <;> simpa[bm]using bo
  have aeL:ts= []:=by have:=je.len;rw[hlen]at this;exact List.length_eq_zero_iff.1 this
  subst aeL
  rw[Ex.kX_eq]
  rcases hl with e|e|e|e|e <;> rw[e]at hr gJ ⊢
  ·have PE:k=1:=hr.symm
   subst PE
   exact⟨nl (.inl rfl) ⟨by have:=gJ.1;omega,gJ.2⟩,rfl,fun c=>absurd c (by decide)⟩
  ·have PE:k=2:=hr.symm
   subst PE
   exact⟨nl (.inr rfl) ⟨by have:=gJ.1;omega,gJ.2⟩,rfl,fun c=>absurd c (by decide)⟩
  ·have PE:k=3:=hr.symm
   subst PE
   exact⟨.inr (.inl ⟨rfl,gJ.1,gJ.2⟩),rfl,fun c=>absurd c (by decide)⟩
  ·have PE:k=4:=hr.symm
   subst PE
   exact⟨.inr (.inr ⟨rfl,.inr rfl⟩),rfl,fun c=>absurd c (by decide)⟩
  ·have PE:k=4:=hr.symm
   subst PE
   exact⟨.inr (.inr ⟨rfl,.inl rfl⟩),rfl,fun c=>absurd c (by decide)⟩
 ·have hlen:y.args.length=1:=by rw[hl7]at bo;simpa[bm]using bo
  obtain⟨z,GS⟩: ∃z,y.args= [z]:=by
   match hy:y.args,hlen with
   | [z],_=>exact⟨z,rfl⟩
  have LU:k6 y=z:=by unfold k6;rw[GS];rfl
  rw[LU]at hz ⊢
  rw[GS]at je
  match ts,je with
  | [t],je=>
    have Ap:=je.1
    obtain⟨_,_,Yo,UQ,_,_⟩:=Ap.node
    have z6:z.op≠6:=by omega
    obtain⟨us,hus,zr,_⟩:=Ap.arg z6
    have hzn:z.args.length=0:=by rcases hz with e|e <;> rw[e]at Yo <;> simpa[bm]using Yo
    have aeM:us= []:=by have:=hus.len;rw[hzn]at this;exact List.length_eq_zero_iff.1 this
    subst aeM
    have hb:bd z.num:=by
     rcases hz with e|e <;> rw[e]at UQ <;> exact⟨by have:=UQ.1;omega,UQ.2⟩
    have htk:t=z.op:=by rcases hz with e|e <;> rw[e]at zr ⊢ <;> exact zr.symm
    have Hv:k=t:=by
     rw[hl7]at hr
     rcases hz with e|e <;> rw[htk,e]at hr <;> rw[htk,e,←hr] <;> rfl
    rw[hl7,if_neg (by decide),if_neg (by decide),if_pos rfl]
    refine⟨nl (by omega) (oA hb), ?_,fun _=>⟨by omega,hb⟩⟩
    rw[Ex.kX_eq,hl7,GS]
    have hzk:z.kX=t:=by
     rw[Ex.kX_eq]
     rcases hz with e|e <;> rw[htk,e] <;> rfl
    show z.kX=k
    rw[hzk,Hv]
end Go.Proofs.YtfenhjpkomldcaaGreat
