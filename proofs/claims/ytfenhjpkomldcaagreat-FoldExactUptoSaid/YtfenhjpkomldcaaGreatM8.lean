/- Expressions without attributes, compiled. Literals. Simplified forms keep their types: plain. Conditions: the theorems' own. -/
import Derived.Test.YtfenhjpkomldcaaGreatM7
import Derived.KernelRfl
set_option maxRecDepth 100000
set_option linter.unusedSimpArgs false
set_option linter.unusedVariables false
set_option maxHeartbeats 16000000
namespace Go.Proofs.YtfenhjpkomldcaaGreat
open Go Go.Ev
mutual
def gl:Ex→Fm
 | .mk op num _ args=>if op=1∨op=2∨op=3 then .mk 1 num []else if op=4 then .mk 1 1 []else if op=5 then .mk 1 0 []else .mk op 0 (cC args)
def cC:List Ex→List Fm
 | []=> []
 |x::xs=>gl x::cC xs
end
theorem j4(x:Ex):gl x=if x.op=1∨x.op=2∨x.op=3 then .mk 1 x.num []else if x.op=4 then .mk 1 1 []else if x.op=5 then .mk 1 0 []else .mk x.op 0 (cC x.args):=by obtain⟨_,_,_,_⟩:=x;rw[gl];rfl
theorem gv: ∀xs,cC xs=xs.map gl
 | []=>rfl
 |x::xs=>by rw[cC,gv xs];rfl
mutual
def Ex.na:Ex→Prop
 | .mk op _ _ args=>op≠6∧NL args
def NL:List Ex→Prop
 | []=>True
 |x::xs=>x.na∧NL xs
end
theorem Ex.na_eq(x:Ex):x.na↔(x.op≠6∧NL x.args):=by obtain⟨_,_,_,_⟩:=x;rw[Ex.na];rfl
theorem Cd: ∀{xs:List Ex},NL xs↔ ∀x∈xs,x.na
 | []=>by simp[NL]
 |x::xs=>by rw[NL,Cd (xs:=xs)];simp
section
variable(kT:T)(BJ:froz kT=true)(scope:Int)
def VO(y:Ex):Prop:= ∀cs:List T,bj y cs→y.nodes≤100000→y.na→ ∃cf,aa pE 91 [kT,.i .i64 scope,.agg cs] []=some (.agg cf,[])∧kN (gl y) cf
include BJ
theorem ZY(xs:List Ex)(ih: ∀y∈xs,VO kT scope y)(a:T)(cc:List T)(ha:aN a xs.length cc)(hx:aL xs cc)(hn:aR xs≤100000)(Wv:NL xs)(op:T)(g g9:Nat)(c6:aA)(fr:Fr)(lh:aQ aA)(sh:List aA)
  (h0:an fr 0=kT) (h1:an fr 1= .i .i64 scope) (h9:an fr 9= .ptr .L 9 g9 0) (uV:an fr 63=a) (wB:an fr 64= .i .i64 (xs.length:Int)) (yV:an fr 65= .i .i64 0) (o6:aE lh 6=c6) (o9:aE lh 9=⟨g9,.cells [op,.i .i64 0,.isl .L 60 g 0 xs.length 3] 0 true⟩) (wC:aE lh 60=⟨g,.cells (repl [.i .i64 0,.i .i64 0,.nilsl] xs.length) 0 false⟩):
  DC pE 80 (.loop hZ) ⟨fr,lh,sh⟩=some (.ext 1,⟨ev pE 80 hZ fr lh sh,eP pE 80 hZ fr lh sh,eJ pE 80 hZ fr lh sh⟩)∧
  (aE (eP pE 80 hZ fr lh sh) 6=c6∧aE (eP pE 80 hZ fr lh sh) 9=⟨g9,.cells [op,.i .i64 0,.isl .L 60 g 0 xs.length 3] 0 true⟩∧(∃cs,aE (eP pE 80 hZ fr lh sh) 60=⟨g,.cells cs 0 false⟩∧bH (cC xs) cs)∧eJ pE 80 hZ fr lh sh=sh):=by
 refine a6 (P:=fun g7 dj cq=>aE dj 6=c6∧aE dj 9=⟨g9,.cells [op,.i .i64 0,.isl .L 60 g 0 xs.length 3] 0 true⟩∧(∃cs,aE dj 60=⟨g,.cells cs 0 false⟩∧bH (cC xs) cs)∧cq=sh)
  (bt (fun k st=> ∃(fr:Fr) (dS:aQ aA) (A:List T),st=⟨fr,dS,sh⟩∧an fr 0=kT∧an fr 1= .i .i64 scope∧an fr 9= .ptr .L 9 g9 0∧an fr 63=a∧an fr 64= .i .i64 (xs.length:Int)∧an fr 65= .i .i64 (k:Int)∧aE dS 6=c6∧aE dS 9=⟨g9,.cells [op,.i .i64 0,.isl .L 60 g 0 xs.length 3] 0 true⟩∧
    aE dS 60=⟨g,.cells (A++repl [.i .i64 0,.i .i64 0,.nilsl] (xs.length-k)) 0 false⟩∧bH (cC (xs.take k)) A) _ xs.length ?_ ?_ 0 _ (Nat.zero_le _) ⟨fr,lh,[],rfl,h0,h1,h9,uV,wB,yV,o6,o9,by rw[wC];rfl,by rw[List.take_zero,cC];exact bH.nil⟩)
 ·rintro k _ hk ⟨fr,dS,A,rfl,h0,h1,h9,uV,wB,yV,o6,o9,wC,hA⟩
  left
  have dN:(k:Int)<xs.length:=by omega
  have nR:=bE xs
  have NP:=cB (List.getElem_mem hk)
  have hw:=cE (k:=k) (c5 (by omega))
  obtain⟨b,cb,rr,cQ,fu,oq,hb⟩:=dV ha hx k hk
  obtain⟨cf,aB,mK⟩:=ih xs[k] (List.getElem_mem hk) _ hb (by omega) (Cd.1 Wv _ (List.getElem_mem hk))
  obtain⟨fa,fc,rfl,jl,NM⟩:=mK.cells
  have NQ:A.length=k*3:=by rw[hA.len,gv];simp;omega
  have Pb:(A++repl [T.i .i64 0,T.i .i64 0,T.nilsl] (xs.length-k)).length=xs.length*3:=by rw[List.length_append,oy,NQ];simp;omega
  have NJ:splice (A++repl [T.i .i64 0,T.i .i64 0,T.nilsl] (xs.length-k)) (k*3) [.i .i64 (gl xs[k]).op,.i .i64 (gl xs[k]).num,fa]=(A++ [.i .i64 (gl xs[k]).op,.i .i64 (gl xs[k]).num,fa])++repl [T.i .i64 0,T.i .i64 0,T.nilsl] (xs.length-(k+1)):=by
   rw[show xs.length-k=(xs.length-(k+1))+1 by omega,mh,m6 A [T.i .i64 0,T.i .i64 0,T.nilsl] _ [T.i .i64 (gl xs[k]).op,T.i .i64 (gl xs[k]).num,fa] (k*3) NQ rfl]
  have HB:k*3+3≤xs.length*3:=by omega
  simp(maxDischargeDepth:=6) only[qF,ah,ai,ab,aj,ae,ak,splice,Nat.reduceAdd,reduceCtorEq,Nat.reduceLT,Nat.reduceLeDiff,Nat.reduceEqDiff,bV,aV,hZ,h0,h1,h9,uV,wB,yV,o9,wC,dN,cQ,hw,aB,R3,R4,BJ,fu.froz1,jl.froz1,hk,Pb,NJ,HB]
  refine⟨_,rfl,_,_,A++ [.i .i64 (gl xs[k]).op,.i .i64 (gl xs[k]).num,fa],rfl, ?_, ?_, ?_, ?_, ?_, ?_, ?_, ?_, ?_, ?_⟩
  all_goals first|(simp(maxDischargeDepth:=6) only[ab,ae,reduceCtorEq,Nat.reduceEqDiff,h0,h1,h9,uV,wB,o6,o9];done)|skip
  rw[List.take_succ_eq_append_getElem hk,gv,List.map_append,←gv]
  exact bH.append hA (bH.one mK)
 ·rintro _ ⟨fr,dS,A,rfl,h0,h1,h9,uV,wB,yV,o6,o9,wC,hA⟩
  rw[Nat.sub_self,show repl [T.i .i64 0,T.i .i64 0,T.nilsl] 0= []from rfl,List.append_nil]at wC
  rw[List.take_length]at hA
  simp(maxDischargeDepth:=6) only[ah,ai,ab,ae,ak,Nat.reduceLT,hZ,wB,yV,Int.lt_irrefl]
  exact⟨_,_,(by simp:Out.ext 1≠ .nrm),rfl,rfl,o6,o9,⟨A,wC,hA⟩,rfl⟩
theorem Qd(x:Ex):VO kT scope x:=by
 induction x using Ex.ind with
 |h x ih=>
  intro cs hx hn Wv
  obtain⟨a,cc,rfl,ha,g5⟩:=hx.cells
  rw[aD OM (by simp[IA]),j4]
  obtain⟨hn6,ZZ⟩:=(Ex.na_eq x).1 Wv
  have hnd:=x.nodes_eq
  by_cases h1:x.op=1
  ·rw[if_pos (.inl h1)]
   simp(maxDischargeDepth:=6) only[qF,ah,ai,ab,aj,ae,ak,aG,splice,aF,Nat.reduceAdd,reduceCtorEq,Nat.reduceLT,Nat.reduceLeDiff,Nat.reduceEqDiff,Int.reduceEq,IA,h1]
   exact⟨_,rfl,kN.of (x:= .mk 1 x.num []) (Or.inl ⟨rfl,rfl,rfl⟩) bH.nil⟩
  by_cases h2:x.op=2
  ·rw[if_pos (.inr (.inl h2))]
   simp(maxDischargeDepth:=6) only[qF,ah,ai,ab,aj,ae,ak,aG,splice,aF,Nat.reduceAdd,reduceCtorEq,Nat.reduceLT,Nat.reduceLeDiff,Nat.reduceEqDiff,Int.reduceEq,IA,h2]
   exact⟨_,rfl,kN.of (x:= .mk 1 x.num []) (Or.inl ⟨rfl,rfl,rfl⟩) bH.nil⟩
  by_cases h3:x.op=3
  ·rw[if_pos (.inr (.inr h3))]
   simp(maxDischargeDepth:=6) only[qF,ah,ai,ab,aj,ae,ak,aG,splice,aF,Nat.reduceAdd,reduceCtorEq,Nat.reduceLT,Nat.reduceLeDiff,Nat.reduceEqDiff,Int.reduceEq,IA,h3]
   exact⟨_,rfl,kN.of (x:= .mk 1 x.num []) (Or.inl ⟨rfl,rfl,rfl⟩) bH.nil⟩
  rw[if_neg (by omega)]
  by_cases h4:x.op=4
  ·rw[if_pos h4]
   simp(maxDischargeDepth:=6) only[qF,ah,ai,ab,aj,ae,ak,aG,splice,aF,Nat.reduceAdd,reduceCtorEq,Nat.reduceLT,Nat.reduceLeDiff,Nat.reduceEqDiff,Int.reduceEq,IA,h4]
   exact⟨_,rfl,kN.of (x:= .mk 1 1 []) (Or.inl ⟨rfl,rfl,rfl⟩) bH.nil⟩
  rw[if_neg h4]
  by_cases h5:x.op=5
  ·rw[if_pos h5]
   simp(maxDischargeDepth:=6) only[qF,ah,ai,ab,aj,ae,ak,aG,splice,aF,Nat.reduceAdd,reduceCtorEq,Nat.reduceLT,Nat.reduceLeDiff,Nat.reduceEqDiff,Int.reduceEq,IA,h5]
   exact⟨_,rfl,kN.of (x:= .mk 1 0 []) (Or.inl ⟨rfl,rfl,rfl⟩) bH.nil⟩
  rw[if_neg h5]
  have sM:=bE x.args
  have qA:x.args.length≤gi:=c5 (by omega)
  have Qo:x.args.length*40≤roomy∧x.args.length≤roomy:=by unfold gi at qA;unfold roomy;omega
  have qa:=fun c6 fr lh sh h0 h1 h9 uV wB yV o6 o9 wC=>ZY kT BJ scope x.args (fun y hy=>ih y hy) a cc ha g5 (by omega) ZZ (.i .i64 x.op) 1 1 c6 fr lh sh h0 h1 h9 uV wB yV o6 o9 wC
  have hL:=fun fr lh sh h0 h1 h9 uV wB yV o6 o9 wC=>And.intro (qa ⟨1,.cells [.i .i64 0,.i .i64 0,.nilsl] 0 true⟩ fr lh sh h0 h1 h9 uV wB yV o6 o9 wC).1 (And.intro (qa ⟨1,.cells [.i .i64 0,.i .i64 0,.nilsl] 0 true⟩ fr lh sh h0 h1 h9 uV wB yV o6 o9 wC).2.1 (And.intro (qa ⟨1,.cells [.i .i64 0,.i .i64 0,.nilsl] 0 true⟩ fr lh sh h0 h1 h9 uV wB yV o6 o9 wC).2.2.1 (And.intro (vv (qa ⟨1,.cells [.i .i64 0,.i .i64 0,.nilsl] 0 true⟩ fr lh sh h0 h1 h9 uV wB yV o6 o9 wC).2.2.2.1).1 (qa ⟨1,.cells [.i .i64 0,.i .i64 0,.nilsl] 0 true⟩ fr lh sh h0 h1 h9 uV wB yV o6 o9 wC).2.2.2.2)))
  have hF:=fun fr lh sh h0 h1 h9 uV wB yV o6 o9 wC=>(vv (qa ⟨1,.cells [.i .i64 0,.i .i64 0,.nilsl] 0 true⟩ fr lh sh h0 h1 h9 uV wB yV o6 o9 wC).2.2.2.1).2
  have ym:=fun fr lh sh h0 h1 h9 uV wB yV o6 o9 wC=>(hF fr lh sh h0 h1 h9 uV wB yV o6 o9 wC).len
  have dq:(cC x.args).length=x.args.length:=by rw[gv];simp
  rw[dq]at ym
  simp(maxDischargeDepth:=6) only[qF,ah,ai,ab,aj,ae,ak,Nat.reduceShiftRight,Nat.reduceMod,aG,rO,vg,splice,aF,Nat.reduceAdd,reduceCtorEq,Nat.reduceLT,Nat.reduceLeDiff,Nat.reduceEqDiff,bV,gX,aV,vA,IA,Em,h1,h2,h3,h4,h5,hn6,ha.lenI,Qo,hL,ym]
  generalize hX:Ai _ _=X
  have Qp:bH (cC x.args) X:=by
   rw[←hX]
   refine hF _ _ _ ?_ ?_ ?_ ?_ ?_ ?_ ?_ ?_ ?_ <;> simp(maxDischargeDepth:=6) only[ab,ae,reduceCtorEq,Nat.reduceEqDiff]
  have UT:=Qp.len
  rw[dq]at UT
  rw[←UT,List.take_length]
  exact⟨_,rfl,kN.of (x:= .mk x.op 0 (cC x.args)) (Or.inr ⟨false,by show T.sl X x.args.length false= .sl X (cC x.args).length false;rw[dq]⟩) Qp⟩
end
end Go.Proofs.YtfenhjpkomldcaaGreat
namespace Go.Proofs.YtfenhjpkomldcaaGreat
open Go Go.Ev
theorem bO(op num:Int)(a:T)(ha:aN a 0 []):bj (bz op num) [.i .i64 op,.i .i64 num,.s [],a]:=bj.of (x:=bz op num) ha aL.nil
theorem cD:aN .nilsl 0 []:=Or.inl ⟨rfl,rfl,rfl⟩
theorem vF(op n:Int):bj (.mk 7 0 [] [bz op n]) [.i .i64 7,.i .i64 0,.s [],.sl [.i .i64 op,.i .i64 n,.s [],.nilsl] 1 true]:=
 bj.of (x:= .mk 7 0 [] [bz op n]) (Or.inr ⟨true,rfl⟩) (aL.one (bO op n .nilsl cD))
theorem BY(k n:Int)(hn:bd n)(hb:k=4→bit n): ∃cs,aa pE 106 [.i .i64 k,.i .i64 n] []=some (.agg cs,[])∧bj (ew k n) cs:=by
 rw[aD L8 (by simp[qT])]
 unfold ew
 have hw:=mZ hn
 by_cases h4:k=4
 ·subst h4
  rcases hb rfl with h0|h0
  ·simp(maxDischargeDepth:=6) only[qF,ah,ai,ab,aj,ae,ak,Int.reduceNeg,aG,splice,aF,Nat.reduceAdd,reduceCtorEq,Nat.reduceLT,Nat.reduceLeDiff,Nat.reduceEqDiff,Int.reduceLT,Int.reduceEq,qT,h0];exact⟨_,rfl,bO _ _ _ cD⟩
  ·simp(maxDischargeDepth:=6) only[qF,ah,ai,ab,aj,ae,ak,Int.reduceNeg,aG,splice,aF,Nat.reduceAdd,reduceCtorEq,Nat.reduceLT,Nat.reduceLeDiff,Nat.reduceEqDiff,Int.reduceLT,Int.reduceEq,qT,h0];exact⟨_,rfl,bO _ _ _ cD⟩
 by_cases h3:k=3
 ·subst h3
  simp(maxDischargeDepth:=6) only[qF,ah,ai,ab,aj,ae,ak,aG,splice,aF,Nat.reduceAdd,reduceCtorEq,Nat.reduceLT,Nat.reduceLeDiff,Nat.reduceEqDiff,Int.reduceEq,qT];exact⟨_,rfl,bO _ _ _ cD⟩
 by_cases h2:k=2
 ·subst h2
  by_cases h0:n<0
  ·simp(maxDischargeDepth:=6) only[qF,ah,ai,ab,aj,ae,ak,aG,dH,dQ,splice,aF,repl,Nat.reduceAdd,reduceCtorEq,Nat.reduceLT,Nat.reduceLeDiff,Nat.reduceEqDiff,Int.reduceEq,qT,h0,hw];exact⟨_,rfl,vF _ _⟩
  ·simp(maxDischargeDepth:=6) only[qF,ah,ai,ab,aj,ae,ak,aG,dH,dQ,splice,aF,repl,Nat.reduceAdd,reduceCtorEq,Nat.reduceLT,Nat.reduceLeDiff,Nat.reduceEqDiff,Int.reduceEq,qT,h0];exact⟨_,rfl,bO _ _ _ cD⟩
 ·by_cases h0:n<0
  ·simp(maxDischargeDepth:=6) only[qF,ah,ai,ab,aj,ae,ak,aG,dH,dQ,splice,aF,repl,Nat.reduceAdd,reduceCtorEq,Nat.reduceLT,Nat.reduceLeDiff,Nat.reduceEqDiff,qT,h2,h3,h4,h0,hw];exact⟨_,rfl,vF _ _⟩
  ·simp(maxDischargeDepth:=6) only[qF,ah,ai,ab,aj,ae,ak,aG,dH,dQ,splice,aF,repl,Nat.reduceAdd,reduceCtorEq,Nat.reduceLT,Nat.reduceLeDiff,Nat.reduceEqDiff,qT,h2,h3,h4,h0];exact⟨_,rfl,bO _ _ _ cD⟩
theorem ye(f:Nat)(x:Ex)(a:T):(f=153∨f=65)→aa pE f [.agg [.i .i64 x.op,.i .i64 x.num,.s x.name,a]] []=some (.b (jd x),[]):=by
 unfold jd
 rintro(rfl|rfl)
 ·rw[aD Mz (by simp[zd])]
  by_cases h1:x.op=1
  ·simp(maxDischargeDepth:=6) only[qF,ah,ai,ab,aj,ae,ak,Nat.reduceLT,Nat.reduceEqDiff,Int.reduceEq,zd,h1,true_or]
  ·by_cases h2:x.op=2
   ·simp(maxDischargeDepth:=6) only[qF,ah,ai,ab,aj,ae,ak,Nat.reduceLT,Nat.reduceEqDiff,Int.reduceEq,zd,h2,or_true]
   ·simp(maxDischargeDepth:=6) only[qF,ah,ai,ab,aj,ae,ak,Nat.reduceLT,Nat.reduceEqDiff,zd,h1,h2,or_self]
 ·rw[aD RY (by simp[On])]
  by_cases h1:x.op=1
  ·simp(maxDischargeDepth:=6) only[qF,ah,ai,ab,aj,ae,ak,Nat.reduceLT,Nat.reduceEqDiff,Int.reduceEq,On,h1,true_or]
  ·by_cases h2:x.op=2
   ·simp(maxDischargeDepth:=6) only[qF,ah,ai,ab,aj,ae,ak,Nat.reduceLT,Nat.reduceEqDiff,Int.reduceEq,On,h2,or_true]
   ·simp(maxDischargeDepth:=6) only[qF,ah,ai,ab,aj,ae,ak,Nat.reduceLT,Nat.reduceEqDiff,On,h1,h2,or_self]
theorem BM(f:Nat)(x:Ex)(a:T):(f=154∨f=163)→aa pE f [.agg [.i .i64 x.op,.i .i64 x.num,.s x.name,a]] []=some (.b (lM x),[]):=by
 unfold lM
 rintro(rfl|rfl)
 ·rw[aD MA (by simp[EB])]
  by_cases h1:x.op=1 <;> simp(maxDischargeDepth:=6) only[qF,ah,ai,ab,aj,ae,ak,Nat.reduceLT,Nat.reduceEqDiff,EB,h1]
 ·rw[aD MH (by simp[EF])]
  by_cases h1:x.op=1 <;> simp(maxDischargeDepth:=6) only[qF,ah,ai,ab,aj,ae,ak,Nat.reduceLT,Nat.reduceEqDiff,EF,h1]
def jq(x:Ex):Ex:=x.args.headD (bz 0 0)
theorem lL(x:Ex)(h7:x.op=7→0<x.args.length):isLit x=(decide (x.op=1∨x.op=2∨x.op=3∨x.op=4∨x.op=5)||(decide (x.op=7)&&decide ((jq x).op=1∨(jq x).op=2))):=by
 obtain⟨op,num,name,args⟩:=x
 cases args with
 |nil=>by_cases h:op=7
       ·exact absurd (h7 h) (by simp[Ex.args])
       ·simp only[isLit,Ex.op,h,decide_false,Bool.false_and];congr
 |cons y ys=>rfl
theorem vD(x:Ex)(h7:x.op=7→0<x.args.length):jo x=if x.op=4 then 1 else if x.op=5 then 0 else if x.op=7 then-(jq x).num else x.num:=by
 obtain⟨op,num,name,args⟩:=x
 cases args with
 |nil=>by_cases h:op=7
       ·exact absurd (h7 h) (by simp[Ex.args])
       ·simp[jo,Ex.op,Ex.num,h]
 |cons y ys=>rfl
theorem Ce{x:Ex}{a:T}{cc:List T}(ha:aN a x.args.length cc)(hx:aL x.args cc)(h:0<x.args.length): ∃b r,∀kk,tJ a (.i kk 0) 4=some (.vp (.i .i64 (jq x).op:: .i .i64 (jq x).num:: .s (jq x).name::b::r)):=by
 obtain⟨b,cb,r,cQ,_⟩:=dV ha hx 0 h
 have e:jq x=x.args[0]:=by
  unfold jq
  generalize x.args=l at h
  cases l with
  |nil=>simp at h
  |cons y ys=>rfl
 rw[e]
 exact⟨b,r,cQ⟩
theorem Ee(x:Ex)(cs:List T)(hx:bj x cs)(h7:x.op=7→0<x.args.length):aa pE 147 [.agg cs] []=some (.b (!isLit x),[]):=by
 obtain⟨a,cc,rfl,ha,g5⟩:=hx.cells
 rw[aD Ms (by simp[qm]),lL x h7]
 by_cases h1:x.op=1
 ·simp(maxDischargeDepth:=6) only[qF,ah,ai,ab,aj,ae,ak,Nat.reduceLT,Nat.reduceEqDiff,Int.reduceEq,qm,h1,true_or,Bool.true_or]
 by_cases h2:x.op=2
 ·simp(maxDischargeDepth:=6) only[qF,ah,ai,ab,aj,ae,ak,Nat.reduceLT,Nat.reduceEqDiff,Int.reduceEq,qm,h2,true_or,or_true,Bool.true_or]
 by_cases h3:x.op=3
 ·simp(maxDischargeDepth:=6) only[qF,ah,ai,ab,aj,ae,ak,Nat.reduceLT,Nat.reduceEqDiff,Int.reduceEq,qm,h3,true_or,or_true,Bool.true_or]
 by_cases h4:x.op=4
 ·simp(maxDischargeDepth:=6) only[qF,ah,ai,ab,aj,ae,ak,Nat.reduceLT,Nat.reduceEqDiff,Int.reduceEq,qm,h4,true_or,or_true,Bool.true_or]
 by_cases h5:x.op=5
 ·simp(maxDischargeDepth:=6) only[qF,ah,ai,ab,aj,ae,ak,Nat.reduceLT,Nat.reduceEqDiff,Int.reduceEq,qm,h5,or_true,Bool.true_or]
 by_cases h:x.op=7
 ·obtain⟨b,r,cQ⟩:=Ce ha g5 (h7 h)
  by_cases y1:(jq x).op=1
  ·simp(maxDischargeDepth:=6) only[qF,ah,ai,ab,aj,ae,ak,Nat.reduceLT,Nat.reduceEqDiff,Int.reduceEq,qm,h,cQ,y1,true_or,or_self,Bool.false_or]
  ·by_cases y2:(jq x).op=2 <;> simp(maxDischargeDepth:=6) only[qF,ah,ai,ab,aj,ae,ak,Nat.reduceLT,Nat.reduceEqDiff,Int.reduceEq,qm,h,cQ,y1,y2,or_true,or_self,Bool.false_or]
 ·simp(maxDischargeDepth:=6) only[qF,ah,ai,ab,aj,ae,ak,Nat.reduceLT,Nat.reduceEqDiff,qm,h1,h2,h3,h4,h5,h,or_self,Bool.or_self]
theorem Ly(x:Ex)(cs:List T)(hx:bj x cs)(h7:x.op=7→0<x.args.length)(hb:x.op=7→bd (jq x).num):aa pE 107 [.agg cs] []=some (.tup [.i .i64 (if isLit x then jo x else 0),.b (isLit x)],[]):=by
 obtain⟨a,cc,rfl,ha,g5⟩:=hx.cells
 rw[aD Ma (by simp[ql]),lL x h7,vD x h7]
 by_cases h1:x.op=1
 ·simp(maxDischargeDepth:=6) only[qF,ah,ai,ab,aj,ae,ak,Nat.reduceLT,Nat.reduceEqDiff,Int.reduceEq,ql,h1,true_or,Bool.true_or]
 by_cases h2:x.op=2
 ·simp(maxDischargeDepth:=6) only[qF,ah,ai,ab,aj,ae,ak,Nat.reduceLT,Nat.reduceEqDiff,Int.reduceEq,ql,h2,true_or,or_true,Bool.true_or]
 by_cases h3:x.op=3
 ·simp(maxDischargeDepth:=6) only[qF,ah,ai,ab,aj,ae,ak,Nat.reduceLT,Nat.reduceEqDiff,Int.reduceEq,ql,h3,true_or,or_true,Bool.true_or]
 by_cases h4:x.op=4
 ·simp(maxDischargeDepth:=6) only[qF,ah,ai,ab,aj,ae,ak,Nat.reduceLT,Nat.reduceEqDiff,Int.reduceEq,ql,h4,true_or,or_true,Bool.true_or]
 by_cases h5:x.op=5
 ·simp(maxDischargeDepth:=6) only[qF,ah,ai,ab,aj,ae,ak,Nat.reduceLT,Nat.reduceEqDiff,Int.reduceEq,ql,h5,or_true,Bool.true_or]
 by_cases h:x.op=7
 ·obtain⟨b,r,cQ⟩:=Ce ha g5 (h7 h)
  have hw:=mZ (hb h)
  by_cases y1:(jq x).op=1
  ·simp(maxDischargeDepth:=6) only[qF,ah,ai,ab,aj,ae,ak,Nat.reduceLT,Nat.reduceLeDiff,Nat.reduceEqDiff,Int.reduceEq,ql,h,cQ,y1,hw,true_or,or_self,Bool.false_or]
  ·by_cases y2:(jq x).op=2 <;> simp(maxDischargeDepth:=6) only[qF,ah,ai,ab,aj,ae,ak,Nat.reduceLT,Nat.reduceLeDiff,Nat.reduceEqDiff,Int.reduceEq,ql,h,cQ,y1,y2,hw,or_true,or_self,Bool.false_or]
 ·simp(maxDischargeDepth:=6) only[qF,ah,ai,ab,aj,ae,ak,Nat.reduceLT,Nat.reduceEqDiff,ql,h1,h2,h3,h4,h5,h,or_self,Bool.or_self]
mutual
def Ex.kX:Ex→Int
 | .mk op _ _ args=>if op=1 then 1 else if op=2 then 2 else if op=3 then 3 else if op=7∨op=8∨op=9∨op=12∨op=13 then a0 (qk args)else if op=14 then a1 (qk args)
   else if op=10 then max (a0 (qk args)) (a1 (qk args))else if op=11 then(if a1 (qk args)=2 then 1 else a0 (qk args))else 4
def qk:List Ex→List Int
 | []=> []
 |x::xs=>x.kX::qk xs
end
theorem Ex.kX_eq(x:Ex):x.kX=if x.op=1 then 1 else if x.op=2 then 2 else if x.op=3 then 3 else if x.op=7∨x.op=8∨x.op=9∨x.op=12∨x.op=13 then a0 (qk x.args)else if x.op=14 then a1 (qk x.args)
  else if x.op=10 then max (a0 (qk x.args)) (a1 (qk x.args))else if x.op=11 then(if a1 (qk x.args)=2 then 1 else a0 (qk x.args))else 4:=by obtain⟨_,_,_,_⟩:=x;rw[Ex.kX];rfl
theorem wj: ∀xs,qk xs=xs.map Ex.kX
 | []=>rfl
 |x::xs=>by rw[qk,wj xs];rfl
def koP(y:Ex):Prop:= ∀cs:List T,bj y cs→y.wf=true→aa pE 149 [.agg cs] []=some (.i .i64 y.kX,[])
theorem VP{xs:List Ex}(ih: ∀y∈xs,koP y){a:T}{cc:List T}(ha:aN a xs.length cc)(hx:aL xs cc)(fy:fG xs=true)(k:Nat)(hk:k<xs.length)(j:Int)(hj:j=(k:Int)):
  ∃b r,froz1 b=true∧(∀kk,tJ a (.i kk j) 4=some (.vp (.i .i64 xs[k].op:: .i .i64 xs[k].num:: .s xs[k].name::b::r)))∧aa pE 149 [.agg [.i .i64 xs[k].op,.i .i64 xs[k].num,.s xs[k].name,b]] []=some (.i .i64 xs[k].kX,[]):=by
 obtain⟨b,cb,r,cQ,h1,h2,h3⟩:=dV ha hx k hk
 subst hj
 exact⟨b,r,h1.froz1,cQ,ih xs[k] (List.getElem_mem hk) _ h3 (gL.1 fy _ (List.getElem_mem hk))⟩
theorem UI(x:Ex):koP x:=by
 induction x using Ex.ind with
 |h x ih=>
  intro cs hx fy
  obtain⟨a,cc,rfl,ha,g5⟩:=hx.cells
  rw[aD E6 (by simp[qn]),Ex.kX_eq]
  rw[Ex.wf_eq,Bool.and_eq_true]at fy
  obtain⟨iE,jC⟩:=fy
  simp only[fe,Bool.and_eq_true,decide_eq_true_eq]at iE
  obtain⟨Im,Io,aX,_,_⟩:=iE
  have hargs:=fun k hk j hj=>VP (fun y hy=>ih y hy) ha g5 jC k hk j hj
  have e0: ∀h:0<x.args.length,a0 (qk x.args)=x.args[0].kX:=fun h=>by rw[wj];unfold a0;simp[List.getD_eq_getElem?_getD,List.getElem?_eq_getElem h]
  have e1: ∀h:1<x.args.length,a1 (qk x.args)=x.args[1].kX:=fun h=>by rw[wj];unfold a1;simp[List.getD_eq_getElem?_getD,List.getElem?_eq_getElem h]
  rcases ed Im Io with h|h|h|h|h|h|h|h|h|h|h|h|h|h|h|h|h|h|h|h|h|h <;> rw[h]at aX ⊢ <;> simp only[aW,Int.reduceLE,Int.reduceEq,or_true,or_false,or_self,if_true,if_false,decide_eq_true_eq]at aX ⊢
  iterate 6 ·simp(maxDischargeDepth:=6) only[qF,ah,ai,ab,aj,ae,ak,Nat.reduceLT,Nat.reduceEqDiff,Int.reduceEq,qn]
  iterate 3
   ·obtain⟨b,r,hf,cQ,hc⟩:=hargs 0 (by omega) 0 rfl
    rw[e0 (by omega)]
    simp(maxDischargeDepth:=6) only[qF,ah,ai,ab,aj,ae,ak,Nat.reduceLT,Nat.reduceLeDiff,Nat.reduceEqDiff,Int.reduceEq,qn,cQ,hc,qX,hf]
  ·obtain⟨b,r,hf,cQ,hc⟩:=hargs 0 (by omega) 0 rfl
   obtain⟨b',r',LF,DT,Dx⟩:=hargs 1 (by omega) 1 rfl
   rw[e0 (by omega),e1 (by omega)]
   generalize x.args[0].kX=p at*
   generalize x.args[1].kX=q at*
   rw[show max p q=(if q>p then q else p)by split <;> omega]
   simp(maxDischargeDepth:=6) only[qF,ah,ai,ab,aj,ae,ak,mR,bu,Nat.reduceLT,Nat.reduceLeDiff,Nat.reduceEqDiff,Int.reduceEq,bV,aV,qn,cQ,hc,DT,Dx,qX,Sx,hf,LF]
  ·obtain⟨b,r,hf,cQ,hc⟩:=hargs 0 (by omega) 0 rfl
   obtain⟨b',r',LF,DT,Dx⟩:=hargs 1 (by omega) 1 rfl
   rw[e0 (by omega),e1 (by omega)]
   by_cases hq:x.args[1].kX=2
   ·rw[hq]at Dx
    simp(maxDischargeDepth:=6) only[qF,ah,ai,ab,aj,ae,ak,Nat.reduceLT,Nat.reduceLeDiff,Nat.reduceEqDiff,Int.reduceEq,qn,cQ,hc,DT,Dx,qX,hf,LF,hq]
   ·simp(maxDischargeDepth:=6) only[qF,ah,ai,ab,aj,ae,ak,Nat.reduceLT,Nat.reduceLeDiff,Nat.reduceEqDiff,Int.reduceEq,qn,cQ,hc,DT,Dx,qX,hf,LF,hq]
  iterate 2
   ·obtain⟨b,r,hf,cQ,hc⟩:=hargs 0 (by omega) 0 rfl
    rw[e0 (by omega)]
    simp(maxDischargeDepth:=6) only[qF,ah,ai,ab,aj,ae,ak,Nat.reduceLT,Nat.reduceLeDiff,Nat.reduceEqDiff,Int.reduceEq,qn,cQ,hc,qX,hf]
  ·obtain⟨b,r,hf,cQ,hc⟩:=hargs 1 (by omega) 1 rfl
   rw[e1 (by omega)]
   simp(maxDischargeDepth:=6) only[qF,ah,ai,ab,aj,ae,ak,Nat.reduceLT,Nat.reduceLeDiff,Nat.reduceEqDiff,Int.reduceEq,qn,cQ,hc,qX,hf]
  all_goals simp(maxDischargeDepth:=6) only[qF,ah,ai,ab,aj,ae,ak,Nat.reduceLT,Nat.reduceEqDiff,Int.reduceEq,qn]
end Go.Proofs.YtfenhjpkomldcaaGreat
namespace Go.Proofs.YtfenhjpkomldcaaGreat
open Go Go.Ev
def Ar(k n:Int):Prop:=((k=1∨k=2)∧bd n)∨(k=3∧0≤n∧n≤1439)∨(k=4∧bit n)
theorem se{k n:Int}(h:Ar k n):bd n:=by
 rcases h with⟨_,h⟩|⟨_,h1,h2⟩|⟨_,h⟩
 ·exact h
 ·unfold bd;omega
 ·exact QX h
theorem oC{n:Int}(h:Ar 4 n):bit n:=by
 rcases h with⟨h|h,_⟩|⟨h,_⟩|⟨_,h⟩
 ·omega
 ·omega
 ·omega
 ·exact h
theorem kO{k n:Int}(h:k=1∨k=2)(hb:bd n):Ar k n:= .inl ⟨h,hb⟩
def nc:List Nat→Int×Int:=fun _=>(0,6)
def FK(scope k:Int)(y:Ex):Prop:=y.wf=true∧y.ty nc scope=(k,0)
theorem FK.node{scope k:Int}{y:Ex}(h:FK scope k y):1≤y.op∧y.op≤22∧aW y.op y.args.length=true∧(0≤y.num∧y.num≤ga y.op)∧(if y.op=6 then gB y.name=true else y.name= [])∧fG y.args=true:=by
 have:=h.1
 rw[Ex.wf_eq,Bool.and_eq_true]at this
 obtain⟨iE,jC⟩:=this
 simp only[fe,Bool.and_eq_true,decide_eq_true_eq]at iE
 obtain⟨h1,h2,h3,h4,h5⟩:=iE
 refine⟨h1,h2,h3,h4, ?_,jC⟩
 split at h5 <;> rename_i e
 ·rw[if_pos e];exact h5
 ·rw[if_neg e];simpa using h5
def uc(scope:Int):List Int→List Ex→Prop
 | [],[]=>True
 |t::ts,y::ys=>FK scope t y∧uc scope ts ys
 |_,_=>False
theorem uc.len{scope:Int}: ∀{ts:List Int} {ys:List Ex},uc scope ts ys→ts.length=ys.length
 | [],[],_=>rfl
 |t::ts,y::ys,h=>by rw[List.length_cons,List.length_cons,uc.len h.2]
theorem uc.wf{scope:Int}: ∀{ts:List Int} {ys:List Ex},uc scope ts ys→fG ys=true
 | [],[],_=>rfl
 |t::ts,y::ys,h=>by rw[fG,h.1.1,uc.wf h.2];rfl
theorem uc.ty{scope:Int}: ∀{ts:List Int} {ys:List Ex},uc scope ts ys→fE nc scope ys= .ok ts
 | [],[],_=>by rw[fE]
 |t::ts,y::ys,h=>by
  rw[fE,h.1.2,uc.ty h.2];rfl
theorem FK.mk{scope k:Int}{op:Int}{ys:List Ex}{ts:List Int}(h1:1≤op)(h2:op≤22)(h6:op≠6)(aX:aW op ys.length=true)(kZ:uc scope ts ys)(hr:dk op ts=k)(hk:k≠0):FK scope k (.mk op 0 [] ys):=by
 constructor
 ·rw[Ex.wf_eq,Bool.and_eq_true]
  refine⟨?_,kZ.wf⟩
  have hm:0≤ga op:=by unfold ga;split <;> (try split) <;> decide
  simp only[fe,Bool.and_eq_true,decide_eq_true_eq]
  refine⟨h1,h2,aX,⟨Int.le_refl _,hm⟩, ?_⟩
  show(if op=6 then gB []else decide (([]:List Nat)= []))=true
  rw[if_neg h6];rfl
 ·rw[Ex.ty_eq]
  show(if op=6 then _ else match fE nc scope ys with| .error e=>(0,e)| .ok ts=>if dk op ts=0 then(0,9)else(dk op ts,0))=(k,0)
  rw[if_neg h6,kZ.ty]
  show(if dk op ts=0 then((0:Int),(9:Int))else(dk op ts,0))=(k,0)
  rw[hr,if_neg hk]
theorem FK.leaf{scope k op num:Int}(h:(op=1∧k=1∧0≤num∧num≤1099511627776)∨(op=2∧k=2∧0≤num∧num≤1099511627776)∨(op=3∧k=3∧0≤num∧num≤1439)∨(op=4∧k=4∧num=0)∨(op=5∧k=4∧num=0)):FK scope k (bz op num):=by
 have hw:(bz op num).wf=fe op num [] 0:=by rw[Ex.wf_eq];simp[bz,Ex.op,Ex.num,Ex.name,Ex.args,fG]
 have ht:op≠6→(bz op num).ty nc scope=if dk op []=0 then(0,9)else(dk op [],0):=fun h6=>by
  rw[Ex.ty_eq];simp only[bz,Ex.op,Ex.args,if_neg h6,fE];rfl
 constructor
 ·rw[hw]
  simp only[fe,Bool.and_eq_true,decide_eq_true_eq]
  rcases h with⟨rfl,rfl,h1,h2⟩|⟨rfl,rfl,h1,h2⟩|⟨rfl,rfl,h1,h2⟩|⟨rfl,rfl,rfl⟩|⟨rfl,rfl,rfl⟩
  ·exact⟨by decide,by decide,rfl,⟨h1,h2⟩,rfl⟩
  ·exact⟨by decide,by decide,rfl,⟨h1,h2⟩,rfl⟩
  ·exact⟨by decide,by decide,rfl,⟨h1,h2⟩,rfl⟩
  ·exact⟨by decide,by decide,rfl,⟨by decide,by decide⟩,rfl⟩
  ·exact⟨by decide,by decide,rfl,⟨by decide,by decide⟩,rfl⟩
 ·rcases h with⟨rfl,rfl,h1,h2⟩|⟨rfl,rfl,h1,h2⟩|⟨rfl,rfl,h1,h2⟩|⟨rfl,rfl,rfl⟩|⟨rfl,rfl,rfl⟩ <;> rw[ht (by decide)] <;> rfl
theorem qL{scope k n:Int}(h:Ar k n):FK scope k (ew k n)∧isLit (ew k n)=true∧jo (ew k n)=n:=by
 unfold ew
 rcases h with⟨hk,hb⟩|⟨rfl,h1,h2⟩|⟨rfl,hb⟩
 ·have h4:k≠4:=by omega
  have h3:k≠3:=by omega
  rw[if_neg h4,if_neg h3]
  unfold bd at hb
  by_cases h0:n<0
  ·rw[if_pos h0]
   rcases hk with rfl|rfl
   ·refine⟨FK.mk (ts:= [1]) (by decide) (by decide) (by decide) rfl ⟨FK.leaf (.inl ⟨rfl,rfl,by omega,by omega⟩),trivial⟩ rfl (by decide),rfl, ?_⟩
    show- -n=n;omega
   ·refine⟨FK.mk (ts:= [2]) (by decide) (by decide) (by decide) rfl ⟨FK.leaf (.inr (.inl ⟨rfl,rfl,by omega,by omega⟩)),trivial⟩ rfl (by decide),rfl, ?_⟩
    show- -n=n;omega
  ·rw[if_neg h0]
   rcases hk with rfl|rfl
   ·exact⟨FK.leaf (.inl ⟨rfl,rfl,by omega,by omega⟩),rfl,rfl⟩
   ·exact⟨FK.leaf (.inr (.inl ⟨rfl,rfl,by omega,by omega⟩)),rfl,rfl⟩
 ·rw[if_neg (by decide),if_pos rfl]
  exact⟨FK.leaf (.inr (.inr (.inl ⟨rfl,rfl,h1,h2⟩))),rfl,rfl⟩
 ·rw[if_pos rfl]
  rcases hb with rfl|rfl
  ·exact⟨FK.leaf (.inr (.inr (.inr (.inr ⟨rfl,rfl,rfl⟩)))),rfl,rfl⟩
  ·exact⟨FK.leaf (.inr (.inr (.inr (.inl ⟨rfl,rfl,rfl⟩)))),rfl,rfl⟩
theorem wk{cl:List Nat→Int×Int}{scope:Int}: ∀{xs:List Ex} {e:Int},fE cl scope xs= .error e→e≠0
 | [],e,h=>by rw[fE]at h;cases h
 |x::xs,e,h=>by
  rw[fE]at h
  split at h
  ·rename_i h0;cases h;exact h0
  ·cases hx:fE cl scope xs with
   |error e'=>rw[hx]at h;cases h;exact wk hx
   |ok us=>rw[hx]at h;cases h
theorem FK.arg{scope k:Int}{y:Ex}(h:FK scope k y)(h6:y.op≠6): ∃ts,uc scope ts y.args∧dk y.op ts=k∧k≠0:=by
 obtain⟨h1,h2,aX,gr,iA,jC⟩:=h.node
 have ht:=h.2
 rw[Ex.ty_eq,if_neg h6]at ht
 cases hr:fE nc scope y.args with
 |error e=>
  rw[hr]at ht
  have hh:((0:Int),e)=(k,0):=ht
  injection hh with _ h0
  exact absurd h0 (wk hr)
 |ok ts=>
  rw[hr]at ht
  have hh:(if dk y.op ts=0 then((0:Int),(9:Int))else(dk y.op ts,0))=(k,0):=ht
  split at hh
  ·cases hh
  ·rename_i dr
   have e1:dk y.op ts=k:=by injection hh
   refine⟨ts, ?_,e1,by rw[←e1];exact dr⟩
   clear ht hh e1 dr aX gr iA h1 h2 h
   generalize y.args=ys at hr jC
   induction ys generalizing ts with
   |nil=>rw[fE]at hr;cases hr;trivial
   |cons z zs ih=>
    rw[fG,Bool.and_eq_true]at jC
    rw[fE]at hr
    split at hr
    ·cases hr
    ·rename_i h0
     cases hx:fE nc scope zs with
     |error e=>rw[hx]at hr;cases hr
     |ok us=>
      rw[hx]at hr;cases hr
      refine⟨⟨jC.1, ?_⟩,ih us hx jC.2⟩
      have e2:(z.ty nc scope).2=0:=by simpa using h0
      rw[←e2]
theorem FK.lit{scope k:Int}{y:Ex}(h:FK scope k y)(hl:isLit y=true):Ar k (jo y)∧y.kX=k∧(y.op=7→0<y.args.length∧bd (jq y).num):=by
 obtain⟨h1,h2,aX,gr,iA,jC⟩:=h.node
 have h7:y.op=7→0<y.args.length:=fun e=>by rw[e]at aX;simp[aW]at aX;omega
 rw[lL y h7,Bool.or_eq_true,Bool.and_eq_true,decide_eq_true_eq,decide_eq_true_eq,decide_eq_true_eq]at hl
 rw[vD y h7]
 have h6:y.op≠6:=by omega
 obtain⟨ts,gI,hr,hk⟩:=h.arg h6
 rcases hl with hl|⟨Ww,hz⟩
 ·have hlen:y.args.length=0:=by
   rcases hl with e|e|e|e|e <;> rw[e]at aX <;> simpa[aW]using aX
  have Z0:ts= []:=by have:=gI.len;rw[hlen]at this;exact List.length_eq_zero_iff.1 this
  subst Z0
  rw[Ex.kX_eq]
  rcases hl with e|e|e|e|e <;> rw[e]at hr gr ⊢
  ·have L2:k=1:=hr.symm
   subst L2
   exact⟨kO (.inl rfl) ⟨by have:=gr.1;omega,gr.2⟩,rfl,fun c=>absurd c (by decide)⟩
  ·have L2:k=2:=hr.symm
   subst L2
   exact⟨kO (.inr rfl) ⟨by have:=gr.1;omega,gr.2⟩,rfl,fun c=>absurd c (by decide)⟩
  ·have L2:k=3:=hr.symm
   subst L2
   exact⟨.inr (.inl ⟨rfl,gr.1,gr.2⟩),rfl,fun c=>absurd c (by decide)⟩
  ·have L2:k=4:=hr.symm
   subst L2
   exact⟨.inr (.inr ⟨rfl,.inr rfl⟩),rfl,fun c=>absurd c (by decide)⟩
  ·have L2:k=4:=hr.symm
   subst L2
   exact⟨.inr (.inr ⟨rfl,.inl rfl⟩),rfl,fun c=>absurd c (by decide)⟩
 ·have hlen:y.args.length=1:=by rw[Ww]at aX;simpa[aW]using aX
  obtain⟨z,NK⟩: ∃z,y.args= [z]:=by
   match hy:y.args,hlen with
   | [z],_=>exact⟨z,rfl⟩
  have FC:jq y=z:=by unfold jq;rw[NK];rfl
  rw[FC]at hz ⊢
  rw[NK]at gI
  match ts,gI with
  | [t],gI=>
    have tB:=gI.1
    obtain⟨_,_,UG,QZ,_,_⟩:=tB.node
    have z6:z.op≠6:=by omega
    obtain⟨us,IY,zr,_⟩:=tB.arg z6
    have Zk:z.args.length=0:=by rcases hz with e|e <;> rw[e]at UG <;> simpa[aW]using UG
    have Z1:us= []:=by have:=IY.len;rw[Zk]at this;exact List.length_eq_zero_iff.1 this
    subst Z1
    have hb:bd z.num:=by
     rcases hz with e|e <;> rw[e]at QZ <;> exact⟨by have:=QZ.1;omega,QZ.2⟩
    have Vm:t=z.op:=by rcases hz with e|e <;> rw[e]at zr ⊢ <;> exact zr.symm
    have Ef:k=t:=by
     rw[Ww]at hr
     rcases hz with e|e <;> rw[Vm,e]at hr <;> rw[Vm,e,←hr] <;> rfl
    rw[Ww,if_neg (by decide),if_neg (by decide),if_pos rfl]
    refine⟨kO (by omega) (lS hb), ?_,fun _=>⟨by omega,hb⟩⟩
    rw[Ex.kX_eq,Ww,NK]
    have hzk:z.kX=t:=by
     rw[Ex.kX_eq]
     rcases hz with e|e <;> rw[Vm,e] <;> rfl
    show z.kX=k
    rw[hzk,Ef]
end Go.Proofs.YtfenhjpkomldcaaGreat
