/- The program's reduce at literals. The program's reduce. The program's reduce. A literal, cloned. The simplifier's search for a constant. Conditions: the theorems' own. -/
import Derived.Test.YtfenhjpkomldcaaGreatM9
import Derived.KernelRfl
set_option maxRecDepth 100000
set_option linter.unusedSimpArgs false
set_option linter.unusedVariables false
set_option maxHeartbeats 16000000
namespace Go.Proofs.YtfenhjpkomldcaaGreat
open Go Go.Ev
theorem KH{lh:aQ aB}{sh:List aB}{keep:Bool}{k g wm:Nat}{cs:List T}{bx:Bool}(h:aq lh k=⟨g,.cells cs wm bx⟩)(hc:cs.all froz1=true):fzV lh sh keep (.ptr .L k g 0)=some (.vp cs,[(.L,k,⟨g,.cells cs cs.length bx⟩)]):=by
 unfold fzV aU
 have hk:(keep&&Sp.L==Sp.S)=false:=by cases keep <;> rfl
 show Q.run _ _ (if(keep&&Sp.L==Sp.S)=true then _ else _)=_
 rw[hk]
 simp only[Bool.false_eq_true,if_false,Q.run]
 have h':(St.mk .nil lh sh).get .L k=⟨g,.cells cs wm bx⟩:=h
 rw[h']
 simp only[if_true,List.drop_zero]
 have:bC (fz false 7) cs= .ret (cs,[]):=by
  clear h h'
  induction cs with
  |nil=>rfl
  |cons c cs ih=>
   rw[List.all_cons,Bool.and_eq_true]at hc
   simp only[bC,mj hc.1,ih hc.2,Q.bind,List.append_nil]
 rw[this]
 rfl
theorem Bj{y:Ex}(h:y.op=1∨y.op=2∨y.op=3)(hb:bd y.num):TU [] (iI y)∧(iI y).val []=y.num:=by
 rw[mr,if_pos h]
 exact⟨(rW _ _).2 (.inl ⟨rfl,hb⟩),by rw[Fm.val_eq];rfl⟩
theorem KI{scope k:Int}{y:Ex}(h:FK scope k y)(hl:isLit y=true):TU [] (iI y)∧(iI y).val []=kZ y∧y.na∧(y.op=7→0<y.args.length):=by
 obtain⟨j1,_,h7⟩:=h.lit hl
 obtain⟨h1,h2,bo,gJ,jT,lD⟩:=h.node
 have h7':y.op=7→0<y.args.length:=fun e=>(h7 e).1
 have jP:=vq j1
 rw[od y h7',Bool.or_eq_true,Bool.and_eq_true,decide_eq_true_eq,decide_eq_true_eq,decide_eq_true_eq]at hl
 rw[yP y h7']at jP ⊢
 have TV:y.op≠6→y.args.length=0→y.na:=fun h6 hz=>(Ex.na_eq y).2 ⟨h6,by rw[List.length_eq_zero_iff.1 hz];trivial⟩
 have hz:y.op≤6→y.args.length=0:=fun h=>by simpa[bm,h]using bo
 by_cases e4:y.op=4
 ·rw[if_pos e4]at jP ⊢
  rw[mr,if_neg (by omega),if_pos e4]
  exact⟨(rW _ _).2 (.inl ⟨rfl,jP⟩),by rw[Fm.val_eq];rfl,TV (by omega) (hz (by omega)),fun e=>by omega⟩
 rw[if_neg e4]at jP ⊢
 by_cases e5:y.op=5
 ·rw[if_pos e5]at jP ⊢
  rw[mr,if_neg (by omega),if_neg e4,if_pos e5]
  exact⟨(rW _ _).2 (.inl ⟨rfl,jP⟩),by rw[Fm.val_eq];rfl,TV (by omega) (hz (by omega)),fun e=>by omega⟩
 rw[if_neg e5]at jP ⊢
 by_cases e7:y.op=7
 ·rw[if_pos e7]at jP ⊢
  have Ap:(k6 y).op=1∨(k6 y).op=2:=by rcases hl with hl|hl <;> omega
  have hlen:y.args.length=1:=by rw[e7]at bo;simpa[bm]using bo
  obtain⟨z,GS⟩: ∃z,y.args= [z]:=by
   match hy:y.args,hlen with
   | [z],_=>exact⟨z,rfl⟩
  have LU:k6 y=z:=by unfold k6;rw[GS];rfl
  rw[LU]at Ap jP ⊢
  have hbz:bd z.num:=by have:=(h7 e7).2;rw[LU]at this;exact this
  obtain⟨f1,f2⟩:=Bj (y:=z) (by omega) hbz
  rw[mr,if_neg (by omega),if_neg e4,if_neg e5,GS,e7]
  have hwz:z.wf=true:=by rw[GS,gT,Bool.and_eq_true]at lD;exact lD.1
  obtain⟨_,_,Yo,_⟩:=fk hwz
  have hzn:z.args.length=0:=by rcases Ap with e|e <;> rw[e]at Yo <;> simpa[bm]using Yo
  have mh:dP [] (cU [z])= [z.num]:=by rw[cU,cU,dP,dP,f2]
  refine⟨(rW _ _).2 (.inr (.inr ⟨(by decide:(7:Int)≤7),(by decide:(7:Int)≤22),rfl,cm (show 1≤100000 by decide),⟨f1,trivial⟩, ?_⟩)), ?_, ?_,fun _=>by simp⟩
  ·show TW 7 (dP [] (cU [z]))
   rw[mh]
   exact⟨fun v hv=>by rw[List.mem_singleton]at hv;rw[hv];exact hbz,fun h=>absurd h (by decide),fun h=>absurd h (by decide)⟩
  ·rw[Fm.val_eq]
   show ry 7 (dP [] (cU [z]))= -z.num
   rw[mh];rfl
  ·exact(Ex.na_eq y).2 ⟨by omega,by rw[GS];exact⟨(Ex.na_eq z).2 ⟨by omega,by rw[List.length_eq_zero_iff.1 hzn];trivial⟩,trivial⟩⟩
 ·rw[if_neg e7]at jP ⊢
  have adf:y.op=1∨y.op=2∨y.op=3:=by rcases hl with hl|hl <;> omega
  obtain⟨f1,f2⟩:=Bj adf jP
  exact⟨f1,f2,TV (by omega) (hz (by omega)),fun e=>absurd e e7⟩
theorem xz{scope:Int}: ∀{ts:List Int} {ys:List Ex},xA scope ts ys→ys.all isLit=true→yQ [] (cU ys)∧dP [] (cU ys)=ys.map kZ∧Rs ys
 | [],[],_,_=>⟨trivial,rfl,trivial⟩
 |t::ts,y::ys,h,ha=>by
  rw[List.all_cons,Bool.and_eq_true]at ha
  obtain⟨a1,a2,a3,_⟩:=KI h.1 ha.1
  obtain⟨b1,b2,b3⟩:=xz h.2 ha.2
  refine⟨⟨a1,b1⟩, ?_,⟨a3,b3⟩⟩
  rw[cU,dP,a2,b2];rfl
def qY(lT kT:T)(m:List (List Nat×List T)):List aB:=
 [⟨1,.map (m.map fun p=>sK p.1) (m.map fun p=>T.agg p.2) false⟩,⟨1,.cells [lT,.mp .S 0 1,kT] 0 true⟩]
section
variable(lT kT:T)(m:List (List Nat×List T))
theorem sm0:dg (qY lT kT m) 0=⟨1,.map (m.map fun p=>sK p.1) (m.map fun p=>T.agg p.2) false⟩:=nr rfl
theorem sm1:dg (qY lT kT m) 1=⟨1,.cells [lT,.mp .S 0 1,kT] 0 true⟩:=nr rfl
theorem adh(m':List (List Nat×List T)):ky (qY lT kT m) 0 ⟨1,.map (m'.map fun p=>sK p.1) (m'.map fun p=>T.agg p.2) false⟩=qY lT kT m':=nr rfl
end
def Bk(cs:List T):Prop:=(∃op num,cs= [.i .i64 op,.i .i64 num,.s [],.nilsl])∨ ∃ex op num,cs= [.i .i64 7,.i .i64 0,.s [],.sl [.i .i64 op,.i .i64 num,.s [],.nilsl] 1 ex]
theorem KJ(k n:Int)(hn:bd n): ∃cs,ai pE 148 [.i .i64 k,.i .i64 n] []=some (.agg cs,[])∧bE (fo k n) cs∧Bk cs:=by
 rw[aG Qb (by simp[uh])]
 unfold fo
 have hw:=pO hn
 by_cases h4:k=4
 ·subst h4
  by_cases h0:n=0
  ·simp(maxDischargeDepth:=6) only[qF,ae,ah,aa,aj,ab,an,Int.reduceNeg,aF,splice,aH,Nat.reduceAdd,reduceCtorEq,Nat.reduceLT,Nat.reduceLeDiff,Nat.reduceEqDiff,Int.reduceLT,Int.reduceEq,uh,h0];exact⟨_,rfl,cE _ _ _ cp,.inl ⟨_,_,rfl⟩⟩
  ·simp(maxDischargeDepth:=6) only[qF,ae,ah,aa,aj,ab,an,aF,splice,aH,Nat.reduceAdd,reduceCtorEq,Nat.reduceLT,Nat.reduceLeDiff,Nat.reduceEqDiff,Int.reduceEq,uh,h0];exact⟨_,rfl,cE _ _ _ cp,.inl ⟨_,_,rfl⟩⟩
 by_cases h3:k=3
 ·subst h3
  simp(maxDischargeDepth:=6) only[qF,ae,ah,aa,aj,ab,an,aF,splice,aH,Nat.reduceAdd,reduceCtorEq,Nat.reduceLT,Nat.reduceLeDiff,Nat.reduceEqDiff,Int.reduceEq,uh];exact⟨_,rfl,cE _ _ _ cp,.inl ⟨_,_,rfl⟩⟩
 by_cases h2:k=2
 ·subst h2
  by_cases h0:n<0
  ·simp(maxDischargeDepth:=6) only[qF,ae,ah,aa,aj,ab,an,aF,dq,dw,splice,aH,repl,Nat.reduceAdd,reduceCtorEq,Nat.reduceLT,Nat.reduceLeDiff,Nat.reduceEqDiff,Int.reduceEq,uh,h0,hw];exact⟨_,rfl,yR _ _,.inr ⟨_,_,_,rfl⟩⟩
  ·simp(maxDischargeDepth:=6) only[qF,ae,ah,aa,aj,ab,an,aF,dq,dw,splice,aH,repl,Nat.reduceAdd,reduceCtorEq,Nat.reduceLT,Nat.reduceLeDiff,Nat.reduceEqDiff,Int.reduceEq,uh,h0];exact⟨_,rfl,cE _ _ _ cp,.inl ⟨_,_,rfl⟩⟩
 ·by_cases h0:n<0
  ·simp(maxDischargeDepth:=6) only[qF,ae,ah,aa,aj,ab,an,aF,dq,dw,splice,aH,repl,Nat.reduceAdd,reduceCtorEq,Nat.reduceLT,Nat.reduceLeDiff,Nat.reduceEqDiff,uh,h2,h3,h4,h0,hw];exact⟨_,rfl,yR _ _,.inr ⟨_,_,_,rfl⟩⟩
  ·simp(maxDischargeDepth:=6) only[qF,ae,ah,aa,aj,ab,an,aF,dq,dw,splice,aH,repl,Nat.reduceAdd,reduceCtorEq,Nat.reduceLT,Nat.reduceLeDiff,Nat.reduceEqDiff,uh,h2,h3,h4,h0];exact⟨_,rfl,cE _ _ _ cp,.inl ⟨_,_,rfl⟩⟩
section
variable(lT kT:T)(EM:froz kT=true)
include EM
theorem GU{scope op k:Int}{ts:List Int}{ys:List Ex}(pB:xA scope ts ys)(bl:ys.all isLit=true)(h7:7≤op)(Dj:op≤22)(bo:bm op ys.length=true)(hr:dJ op ts=k)(hk:k≠0)(hn:a6 ys<100000)(a:T)(cc:List T)(ha:aR a ys.length cc)(hx:aK ys cc)(m:List (List Nat×List T)):
  ∃cs,ai pE 100 [.ptr .S 1 1 0,.agg [.i .i64 op,.i .i64 0,.s [],a]] (qY lT kT m)=some (.agg cs,qY lT kT m)∧bE (fo k (ry op (ys.map kZ))) cs∧Bk cs:=by
 have nO:=lE op ys a cc ha hx
 obtain⟨q1,q2,q3⟩:=xz pB bl
 obtain⟨j1,nN⟩:=lits pB bl
 have hlen:=pB.len
 obtain⟨hv,pd⟩:=Bl j1 h7 Dj (by rw[hlen];exact bo) hr hk
 have zB:=bX ys
 have KK:EN ys:=fun y hy h=>by
  have:y.wf=true:=jg.1 pB.wf y hy
  obtain⟨_,_,KL,_⟩:=fk this
  rw[h]at KL;simp[bm]at KL;omega
 have iy:=yS ys KK a cc ha hx (cm (by omega))
 rw[bl]at iy
 obtain⟨cf,vr,pW⟩:=TX kT EM 0 (.mk op 0 [] ys) _ nO (by rw[Ex.nodes_eq];show 1+a6 ys≤100000;omega) ((Ex.na_eq _).2 ⟨by show op≠6;omega,q3⟩)
 have Yp:iI (.mk op 0 [] ys)= .mk op 0 (cU ys):=by
  rw[mr]
  show(if op=1∨op=2∨op=3 then _ else if op=4 then _ else if op=5 then _ else _)=_
  rw[if_neg (by omega),if_neg (by omega),if_neg (by omega)];rfl
 rw[Yp]at pW
 obtain⟨fa,fc,rfl,fD,yT⟩:=pW.cells
 have eA:(cU ys).length=ys.length:=by rw[iS];simp
 have dD:=TY [] .nilsl (Or.inl ⟨rfl,rfl,rfl⟩) (.mk op 0 (cU ys)) fa fc [] fD yT ((rW _ _).2 (.inr (.inr ⟨h7,Dj,by show bm op (cU ys).length=true;rw[eA];exact bo,by show(cU ys).length≤eG;rw[eA];exact cm (by omega),q1,by show TW op (dP [] (cU ys));rw[q2];exact hv⟩)))
 have hvv:(Fm.mk op 0 (cU ys)).val []=ry op (ys.map kZ):=by
  rw[Fm.val_eq]
  show(if op=1 then _ else if op=6 then _ else ry op (dP [] (cU ys)))=_
  rw[if_neg (by omega),if_neg (by omega),q2]
 rw[hvv]at dD
 have hko:=Yq (.mk op 0 [] ys) _ nO (FK.mk (by omega) Dj (by omega) bo pB hr hk).1
 rw[OH nN h7 Dj (by rw[hlen];exact bo) hr hk]at hko
 obtain⟨cs,vt,jo,hT⟩:=KJ k (ry op (ys.map kZ)) (vq pd)
 have pU:froz (.fn 147 [] [])=true:=rfl
 have hc3:([T.i .i64 op,T.i .i64 0,fa]:List T).all froz1=true:=by simp[m4,fD.froz1]
 have hpf:=fun lh sh keep (h:aq lh 5=⟨1,.cells [.i .i64 op,.i .i64 0,fa] 0 true⟩)=>KH (sh:=sh) (keep:=keep) h hc3
 change ai pE 92 [.vp [.i .i64 op,.i .i64 0,fa],.nilsl] []=_ at dD
 change ai pE 91 [kT,.i .i64 0,.agg [.i .i64 op,.i .i64 0,.s [],a]] []=some (.agg [.i .i64 op,.i .i64 0,fa],[])at vr
 rw[aG l6 (by simp[iF])]
 generalize ry op (ys.map kZ)=v at*
 obtain⟨la,lc,rfl,qp,zA⟩:=jo.cells
 simp(maxDischargeDepth:=6) only[qF,ae,ah,aa,aj,ab,an,splice,Nat.reduceAdd,reduceCtorEq,Nat.reduceLT,Nat.reduceEqDiff,cq,iw,aZ,iF,iy,lg,ha.froz,ha.froz1,pU,sm1,EM,vr,VY,VZ,fD.froz1,hko,um,dD,ab1,hpf,vt,Wn,qp.froz1]
 exact⟨_,rfl,jo,hT⟩
end
end Go.Proofs.YtfenhjpkomldcaaGreat
namespace Go.Proofs.YtfenhjpkomldcaaGreat
open Go Go.Ev
theorem KM{ys:List Ex}(h:gT ys=true):EN ys:=fun y hy h7=>by
 obtain⟨_,_,KL,_⟩:=fk (jg.1 h y hy)
 rw[h7]at KL;simp[bm]at KL;omega
theorem EO{d:Nat}{fr:Fr}{lh:aQ aB}{sh:List aB}(z:Ex)(b:T)(hb:froz1 b=true):ar pE (ai pE) d ⟨fr,lh,sh⟩ 153 [.agg [.i .i64 z.op,.i .i64 z.num,.s z.name,b]]=some (.b (gn z),⟨fr,lh,sh⟩):=by
 rw[Wq (by simp[ml,m4,oN,hb]),Bm _ z b (.inl rfl)];rfl
theorem KN{d:Nat}{fr:Fr}{lh:aQ aB}{sh:List aB}(z:Ex)(b:T)(hb:froz1 b=true):ar pE (ai pE) d ⟨fr,lh,sh⟩ 154 [.agg [.i .i64 z.op,.i .i64 z.num,.s z.name,b]]=some (.b (og z),⟨fr,lh,sh⟩):=by
 rw[Wr (by simp[ml,m4,oN,hb]),EP _ z b (.inl rfl)];rfl
section
variable(lT kT:T)(m:List (List Nat×List T))
theorem ER(x:Ex)(IY:isLit x=false)(hw:x.wf=true)(a:T)(cc:List T)(ha:aR a 1 cc)(hx:aK [x] cc):
  ∃cs,ai pE 100 [.ptr .S 1 1 0,.agg [.i .i64 19,.i .i64 0,.s [],a]] (qY lT kT m)=some (.agg cs,qY lT kT m)∧bE (if x.op=19 then x.args.headD (bN 0 0)else .mk 19 0 [] [x]) cs:=by
 have iy:=yS [x] (KM (by rw[gT,hw];rfl)) a cc ha hx (cm (by simp))
 rw[show([x]:List Ex).all isLit=false by simp[IY]]at iy
 obtain⟨b0,r0,bO,⟨cb,cH,nA⟩,m6,nM⟩:=nH (xs:= [x]) ha hx 0 (by simp) 0 rfl
 simp only[List.getElem_cons_zero]at bO nM cH nA
 have hn:=lE 19 [x] a cc ha hx
 have pU:froz (.fn 147 [] [])=true:=rfl
 rw[aG l6 (by simp[iF])]
 by_cases yU:x.op=19
 ·rw[if_pos yU]
  have hlen:0<x.args.length:=by
   obtain⟨_,_,KL,_⟩:=fk hw
   rw[yU]at KL;simp[bm]at KL;omega
  obtain⟨b1,r1,cu,_,fD,jd⟩:=nH cH nA 0 hlen 0 rfl
  have hh:x.args.headD (bN 0 0)=x.args[0]:=by
   generalize x.args=l at hlen
   cases l with
   |nil=>simp at hlen
   |cons y ys=>rfl
  rw[hh]
  simp(maxDischargeDepth:=6) only[qF,ae,ah,aa,aj,ab,an,splice,Nat.reduceAdd,reduceCtorEq,Nat.reduceLT,Nat.reduceLeDiff,Nat.reduceEqDiff,Int.reduceEq,iF,iy,lg,ha.froz,pU,bO,yU,cu,fD]
  exact⟨_,rfl,jd⟩
 ·rw[if_neg yU]
  simp(maxDischargeDepth:=6) only[qF,ae,ah,aa,aj,ab,an,splice,Nat.reduceAdd,reduceCtorEq,Nat.reduceLT,Nat.reduceLeDiff,Nat.reduceEqDiff,Int.reduceEq,iF,iy,lg,ha.froz,pU,ha.froz1,bO,yU]
  exact⟨_,rfl,hn⟩
theorem OI(x y:Ex)(hl:([x,y]:List Ex).all isLit=false)(hwx:x.wf=true)(a:T)(cc:List T)(ha:aR a 2 cc)(hx:aK [x,y] cc):
  ∃cs,ai pE 151 [.ptr .S 1 1 0,.agg [.i .i64 22,.i .i64 0,.s [],a]] (qY lT kT m)=some (.agg cs,qY lT kT m)∧bE (rX 22 x y) cs:=by
 obtain⟨b0,r0,bO,⟨c0,hb0,vU⟩,m6,nM⟩:=nH (xs:= [x,y]) ha hx 0 (by simp) 0 rfl
 obtain⟨b1,r1,cu,_,fD,jd⟩:=nH (xs:= [x,y]) ha hx 1 (by simp) 1 rfl
 simp only[List.getElem_cons_zero,List.getElem_cons_succ]at bO cu nM jd hb0 vU
 have hn:=lE 22 [x,y] a cc ha hx
 have hk0:kept1 b0=true:=A4 m6
 rw[aG Qe (by simp[xW])]
 show∃cs,_∧bE (if x.op=5∨y.op=4 then bN 4 0 else if x.op=4 then y else if y.op=5 then(if x.op=19 then x.args.headD (bN 0 0)else .mk 19 0 [] [x])else .mk 22 0 [] [x,y]) cs
 by_cases a5:x.op=5
 ·simp(maxDischargeDepth:=6) only[qF,ae,ah,aa,aj,ab,an,aF,dq,dw,splice,aH,repl,Nat.reduceAdd,reduceCtorEq,Nat.reduceLT,Nat.reduceLeDiff,Nat.reduceEqDiff,Int.reduceEq,cq,iw,aZ,xW,bO,cu,m6,fD,a5,true_or]
  exact⟨_,rfl,cE _ _ _ cp⟩
 by_cases b4:y.op=4
 ·simp(maxDischargeDepth:=6) only[qF,ae,ah,aa,aj,ab,an,aF,dq,dw,splice,aH,repl,Nat.reduceAdd,reduceCtorEq,Nat.reduceLT,Nat.reduceLeDiff,Nat.reduceEqDiff,Int.reduceEq,cq,iw,aZ,xW,bO,cu,m6,fD,a5,b4,or_true]
  exact⟨_,rfl,cE _ _ _ cp⟩
 by_cases a4:x.op=4
 ·simp(maxDischargeDepth:=6) only[qF,ae,ah,aa,aj,ab,an,aF,dq,dw,splice,aH,repl,Nat.reduceAdd,reduceCtorEq,Nat.reduceLT,Nat.reduceLeDiff,Nat.reduceEqDiff,Int.reduceEq,cq,iw,aZ,xW,bO,cu,m6,fD,b4,a4,or_self]
  exact⟨_,rfl,jd⟩
 by_cases b5:y.op=5
 ·have IY:isLit x=false:=by
   have hy:isLit y=true:=by rw[od y (fun h=>absurd (h.symm.trans b5) (by decide)),b5];rfl
   simpa[hy]using hl
  obtain⟨cs,TZ,jo⟩:=ER lT kT m x IY hwx (.sl [.i .i64 x.op,.i .i64 x.num,.s x.name,b0] 1 true) _ (Or.inr ⟨true,rfl⟩) (aK.one nM)
  obtain⟨la,lc,rfl,qp,zA⟩:=jo.cells
  rw[b5]at jd cu
  simp(maxDischargeDepth:=6) only[qF,ae,ah,aa,aj,ab,an,aF,dq,dw,splice,aH,repl,Nat.reduceAdd,reduceCtorEq,Nat.reduceLT,Nat.reduceLeDiff,Nat.reduceEqDiff,Int.reduceEq,cq,iw,aZ,fW,xW,bO,cu,m6,fD,a5,b5,a4,or_self,TZ,V3,qp.froz1]
  exact⟨_,rfl,jo⟩
 ·simp(maxDischargeDepth:=6) only[qF,ae,ah,aa,aj,ab,an,aF,dq,dw,splice,aH,repl,Nat.reduceAdd,reduceCtorEq,Nat.reduceLT,Nat.reduceLeDiff,Nat.reduceEqDiff,cq,iw,aZ,xW,bO,cu,m6,fD,ha.froz1,a5,b4,a4,b5,or_self]
  exact⟨_,rfl,hn⟩
end
end Go.Proofs.YtfenhjpkomldcaaGreat
namespace Go.Proofs.YtfenhjpkomldcaaGreat
open Go Go.Ev
theorem Bn{ys:List Ex}(h:ys.length=2): ∃x y,ys= [x,y]:=by
 match ys,h with
 | [x,y],_=>exact⟨x,y,rfl⟩
theorem Yr{ys:List Ex}(h:ys.length=3): ∃x y z,ys= [x,y,z]:=by
 match ys,h with
 | [x,y,z],_=>exact⟨x,y,z,rfl⟩
theorem Ys{ys:List Ex}(h:ys.length=1): ∃x,ys= [x]:=by
 match ys,h with
 | [x],_=>exact⟨x,rfl⟩
section
variable(lT kT:T)(m:List (List Nat×List T))
theorem OJ{op:Int}{ys:List Ex}(bl:ys.all isLit=false)(gK:gT ys=true)(h7:7≤op)(Dj:op≤22)(bo:bm op ys.length=true)(hn:a6 ys<100000)(a:T)(cc:List T)(ha:aR a ys.length cc)(hx:aK ys cc):
  ∃cs,ai pE 100 [.ptr .S 1 1 0,.agg [.i .i64 op,.i .i64 0,.s [],a]] (qY lT kT m)=some (.agg cs,qY lT kT m)∧bE (pg op ys) cs:=by
 have zB:=bX ys
 have iy:=yS ys (KM gK) a cc ha hx (cm (by omega))
 rw[bl,Bool.not_false]at iy
 have nO:=lE op ys a cc ha hx
 have pU:froz (.fn 147 [] [])=true:=rfl
 have Yt:froz (.fn 153 [] [])=true:=rfl
 have Yu:froz (.fn 154 [] [])=true:=rfl
 have same: ∀yV,op=yV→(yV=7∨yV=12∨yV=13∨yV=15∨yV=16∨yV=17∨yV=18)→pg op ys= .mk op 0 [] ys:=by
  rintro yV rfl ho
  match ys with
  | []=>rfl
  | [x]=>show(if op=19∧x.op=19 then _ else _)=_;rw[if_neg (by omega)]
  | [x,y]=>
    rw[iz];unfold rX
    rw[if_neg (by omega),if_neg (by omega),if_neg (by omega),if_neg (by omega),if_neg (by omega),if_neg (by omega),if_neg (by omega)]
  | [x,y,z]=>show(if op=14 then _ else _)=_;rw[if_neg (by omega)]
  |_::_::_::_::_=>rfl
 have gP:(op=7∨op=12∨op=13∨op=15∨op=16∨op=17∨op=18)→ ∃cs,ai pE 100 [.ptr .S 1 1 0,.agg [.i .i64 op,.i .i64 0,.s [],a]] (qY lT kT m)=some (.agg cs,qY lT kT m)∧bE (pg op ys) cs:=by
  intro ho
  rw[same op rfl ho,aG l6 (by simp[iF])]
  rcases ho with rfl|rfl|rfl|rfl|rfl|rfl|rfl <;>
   (simp(maxDischargeDepth:=6) only[qF,ae,ah,aa,aj,ab,an,splice,Nat.reduceAdd,reduceCtorEq,Nat.reduceLT,Nat.reduceEqDiff,Int.reduceEq,iF,iy,lg,ha.froz,pU,ha.froz1];exact⟨_,rfl,nO⟩)
 rcases eP (show 1≤op by omega) Dj with rfl|rfl|rfl|rfl|rfl|rfl|rfl|rfl|rfl|rfl|rfl|rfl|rfl|rfl|rfl|rfl|rfl|rfl|rfl|rfl|rfl|rfl
 iterate 6 ·omega
 ·exact gP (by simp)
 ·obtain⟨x,y,rfl⟩:=Bn (ys:=ys) (by simpa[bm]using bo)
  obtain⟨cs,hc,jo⟩:=nb 8 153 gn true (fun z b hb d fr lh sh=>EO z b hb) x y a cc ha hx
  obtain⟨la,lc,rfl,qp,zA⟩:=jo.cells
  rw[aG l6 (by simp[iF])]
  simp(maxDischargeDepth:=6) only[qF,ae,ah,aa,aj,ab,an,splice,Nat.reduceAdd,reduceCtorEq,Nat.reduceLT,Nat.reduceEqDiff,Int.reduceEq,iF,iy,lg,ha.froz,pU,ha.froz1,hc,DX,Yt,qp.froz1]
  exact⟨_,rfl,by simpa[iz,rX]using jo⟩
 ·obtain⟨x,y,rfl⟩:=Bn (ys:=ys) (by simpa[bm]using bo)
  obtain⟨cs,hc,jo⟩:=nb 9 153 gn false (fun z b hb d fr lh sh=>EO z b hb) x y a cc ha hx
  obtain⟨la,lc,rfl,qp,zA⟩:=jo.cells
  rw[aG l6 (by simp[iF])]
  simp(maxDischargeDepth:=6) only[qF,ae,ah,aa,aj,ab,an,splice,Nat.reduceAdd,reduceCtorEq,Nat.reduceLT,Nat.reduceEqDiff,Int.reduceEq,iF,iy,lg,ha.froz,pU,ha.froz1,hc,DX,Yt,qp.froz1]
  exact⟨_,rfl,by simpa[iz,rX]using jo⟩
 ·obtain⟨x,y,rfl⟩:=Bn (ys:=ys) (by simpa[bm]using bo)
  obtain⟨cs,hc,jo⟩:=nb 10 154 og true (fun z b hb d fr lh sh=>KN z b hb) x y a cc ha hx
  obtain⟨la,lc,rfl,qp,zA⟩:=jo.cells
  rw[aG l6 (by simp[iF])]
  simp(maxDischargeDepth:=6) only[qF,ae,ah,aa,aj,ab,an,splice,Nat.reduceAdd,reduceCtorEq,Nat.reduceLT,Nat.reduceEqDiff,Int.reduceEq,iF,iy,lg,ha.froz,pU,ha.froz1,hc,DX,Yu,qp.froz1]
  exact⟨_,rfl,by simpa[iz,rX]using jo⟩
 ·obtain⟨x,y,rfl⟩:=Bn (ys:=ys) (by simpa[bm]using bo)
  obtain⟨cs,hc,jo⟩:=nb 11 154 og false (fun z b hb d fr lh sh=>KN z b hb) x y a cc ha hx
  obtain⟨la,lc,rfl,qp,zA⟩:=jo.cells
  rw[aG l6 (by simp[iF])]
  simp(maxDischargeDepth:=6) only[qF,ae,ah,aa,aj,ab,an,splice,Nat.reduceAdd,reduceCtorEq,Nat.reduceLT,Nat.reduceEqDiff,Int.reduceEq,iF,iy,lg,ha.froz,pU,ha.froz1,hc,DX,Yu,qp.froz1]
  exact⟨_,rfl,by simpa[iz,rX]using jo⟩
 ·exact gP (by simp)
 ·exact gP (by simp)
 ·obtain⟨x,y,z,rfl⟩:=Yr (ys:=ys) (by simpa[bm]using bo)
  obtain⟨b0,r0,bO,_,m6,nM⟩:=nH ha hx 0 (by simp) 0 rfl
  obtain⟨b1,r1,cu,_,fD,jd⟩:=nH ha hx 1 (by simp) 1 rfl
  obtain⟨b2,r2,vu,_,yT,B2⟩:=nH ha hx 2 (by simp) 2 rfl
  simp only[List.getElem_cons_zero,List.getElem_cons_succ]at bO cu vu nM jd B2
  rw[aG l6 (by simp[iF])]
  show∃cs,_∧bE (if x.op=4 then y else if x.op=5 then z else .mk 14 0 [] [x,y,z]) cs
  by_cases a4:x.op=4
  ·simp(maxDischargeDepth:=6) only[qF,ae,ah,aa,aj,ab,an,splice,Nat.reduceAdd,reduceCtorEq,Nat.reduceLT,Nat.reduceLeDiff,Nat.reduceEqDiff,Int.reduceEq,iF,iy,lg,ha.froz,pU,bO,cu,fD,a4]
   exact⟨_,rfl,jd⟩
  by_cases a5:x.op=5
  ·simp(maxDischargeDepth:=6) only[qF,ae,ah,aa,aj,ab,an,splice,Nat.reduceAdd,reduceCtorEq,Nat.reduceLT,Nat.reduceLeDiff,Nat.reduceEqDiff,Int.reduceEq,iF,iy,lg,ha.froz,pU,bO,cu,vu,yT,a5]
   exact⟨_,rfl,B2⟩
  ·simp(maxDischargeDepth:=6) only[qF,ae,ah,aa,aj,ab,an,splice,Nat.reduceAdd,reduceCtorEq,Nat.reduceLT,Nat.reduceLeDiff,Nat.reduceEqDiff,Int.reduceEq,iF,iy,lg,ha.froz,pU,ha.froz1,bO,cu,vu,a4,a5]
   exact⟨_,rfl,nO⟩
 iterate 4 ·exact gP (by simp)
 ·obtain⟨x,rfl⟩:=Ys (ys:=ys) (by simpa[bm]using bo)
  obtain⟨cs,h1,h2⟩:=ER lT kT m x (by simpa using bl) (by rw[gT,Bool.and_eq_true]at gK;exact gK.1) a cc ha hx
  refine⟨cs,h1, ?_⟩
  show bE (if(19:Int)=19∧x.op=19 then _ else _) cs
  simpa using h2
 ·obtain⟨x,y,rfl⟩:=Bn (ys:=ys) (by simpa[bm]using bo)
  obtain⟨cs,hc,jo⟩:=sU 20 (.inl rfl) x y a cc ha hx
  obtain⟨la,lc,rfl,qp,zA⟩:=jo.cells
  rw[aG l6 (by simp[iF])]
  simp(maxDischargeDepth:=6) only[qF,ae,ah,aa,aj,ab,an,splice,Nat.reduceAdd,reduceCtorEq,Nat.reduceLT,Nat.reduceEqDiff,Int.reduceEq,iF,iy,lg,ha.froz,pU,ha.froz1,hc,Qd,qp.froz1]
  exact⟨_,rfl,jo⟩
 ·obtain⟨x,y,rfl⟩:=Bn (ys:=ys) (by simpa[bm]using bo)
  obtain⟨cs,hc,jo⟩:=sU 21 (.inr rfl) x y a cc ha hx
  obtain⟨la,lc,rfl,qp,zA⟩:=jo.cells
  rw[aG l6 (by simp[iF])]
  simp(maxDischargeDepth:=6) only[qF,ae,ah,aa,aj,ab,an,splice,Nat.reduceAdd,reduceCtorEq,Nat.reduceLT,Nat.reduceEqDiff,Int.reduceEq,iF,iy,lg,ha.froz,pU,ha.froz1,hc,Qd,qp.froz1]
  exact⟨_,rfl,jo⟩
 ·obtain⟨x,y,rfl⟩:=Bn (ys:=ys) (by simpa[bm]using bo)
  obtain⟨cs,hc,jo⟩:=OI lT kT m x y bl (by rw[gT,Bool.and_eq_true]at gK;exact gK.1) a cc ha hx
  obtain⟨la,lc,rfl,qp,zA⟩:=jo.cells
  rw[aG l6 (by simp[iF])]
  simp(maxDischargeDepth:=6) only[qF,ae,ah,aa,aj,ab,an,splice,Nat.reduceAdd,reduceCtorEq,Nat.reduceLT,Nat.reduceEqDiff,Int.reduceEq,fW,iF,iy,lg,ha.froz,pU,ha.kept1,hc,Wp,qp.froz1]
  exact⟨_,rfl,jo⟩
end
end Go.Proofs.YtfenhjpkomldcaaGreat
namespace Go.Proofs.YtfenhjpkomldcaaGreat
open Go Go.Ev
theorem T0:ai pE 143 [.nilsl] []=some (.nilsl,[]):=cd (m:=20) (bZ (by kernel_rfl))
theorem qZ{cs:List T}{n:Nat}{e:Bool}:mN .sl (.sl cs n e) .nilsl=some false:=rfl
theorem Bo:mN .sl .nilsl .nilsl=some true:=rfl
theorem T1(c0 c1 c2 c3:T)(ex:Bool):ai pE 143 [.sl [c0,c1,c2,c3] 1 ex] []=some (.sl [c0,c1,c2,c3] 1 false,[]):=by
 rw[Tw P3 (by simp[HV])]
 have hr:1*56≤roomy:=by decide
 simp(maxDischargeDepth:=6) only[qF,ae,ah,aa,aj,ab,an,appW,dq,dw,aH,repl,Nat.reduceAdd,reduceCtorEq,Nat.reduceLT,Nat.reduceLeDiff,Nat.reduceEqDiff,HV,qZ,bne_self_eq_false,roomy]
 exact JF (wm:=0) (by simp(maxDischargeDepth:=6) only[aa]) rfl (by decide)
theorem Bp(op num:Int):ai pE 98 [.agg [.i .i64 op,.i .i64 num,.s [],.nilsl]] []=some (.agg [.i .i64 op,.i .i64 num,.s [],.nilsl],[]):=by
 rw[aG Me (by simp[Sa])]
 have h:=T0
 simp(maxDischargeDepth:=6) only[qF,ae,ah,aa,aj,ab,an,splice,Nat.reduceAdd,Nat.reduceLT,Nat.reduceEqDiff,Int.reduceLT,Sa,h,P4,CZ,im,B9]
theorem OK(op num:Int)(ex:Bool):ai pE 98 [.agg [.i .i64 7,.i .i64 0,.s [],.sl [.i .i64 op,.i .i64 num,.s [],.nilsl] 1 ex]] []=some (.agg [.i .i64 7,.i .i64 0,.s [],.sl [.i .i64 op,.i .i64 num,.s [],.nilsl] 1 false],[]):=by
 rw[aG Me (by simp[Sa])]
 have h:=T1 (.i .i64 op) (.i .i64 num) (.s []) .nilsl ex
 have hl:=Bp op num
 have bl:([T.i .i64 op,T.i .i64 num,T.s [],T.nilsl]:List T).all uu=true:=rfl
 have how:=fun d fr lh sh us=>Gj (d:=d) (len:=1) (us:=us) (ex:=false) (fr:=fr) (lh:=lh) (sh:=sh) bl (by simp)
 have hd:([T.i .i64 op,T.i .i64 num,T.s [],T.nilsl]:List T).length/1=4:=by simp
 simp only[hd]at how
 simp(maxDischargeDepth:=6) only[qF,ae,ah,aa,aj,ab,an,Int.reduceAdd,Int.reduceNeg,splice,Nat.reduceAdd,Nat.reduceLT,Nat.reduceEqDiff,Int.reduceToNat,Int.reduceLE,Int.reduceLT,cq,aZ,Sa,h,P4,how,im,B9,hl,V1,ab4]
theorem KO{y:Ex}{cs:List T}(hT:Bk cs)(hx:bE y cs): ∃qB,ai pE 98 [.agg cs] []=some (.agg qB,[])∧bE y qB∧Bk qB:=by
 rcases hT with⟨op,num,rfl⟩|⟨ex,op,num,rfl⟩
 ·exact⟨_,Bp op num,hx,.inl ⟨_,_,rfl⟩⟩
 ·refine⟨_,OK op num ex, ?_,.inr ⟨_,_,_,rfl⟩⟩
  obtain⟨a,cc,e,h1,h2⟩:=hx.cells
  simp only[List.cons.injEq,T.i.injEq,T.s.injEq,true_and,and_true]at e
  obtain⟨e1,e2,e3,e4⟩:=e
  have hlen:y.args.length=1∧cc= [.i .i64 op,.i .i64 num,.s [],.nilsl]:=by
   rcases h1 with⟨h,_⟩|⟨ex',h⟩
   ·rw[h]at e4;cases e4
   ·rw[h]at e4;injection e4 with q1 q2 q3;exact⟨q2.symm,q1.symm⟩
  have:=bE.of (x:=y) (a:= .sl [.i .i64 op,.i .i64 num,.s [],.nilsl] 1 false) (cc:=cc) (Or.inr ⟨false,by rw[hlen.1,hlen.2]⟩) h2
  rw[←e1,←e2,←e3]at this
  exact this
end Go.Proofs.YtfenhjpkomldcaaGreat
namespace Go.Proofs.YtfenhjpkomldcaaGreat
open Go Go.Ev
theorem GV(c:List Nat)(b0 b1 b2 b3:T)(s:List Nat)(h0:froz1 b0=true):ai pE 145 [.agg [.s c,b0,b1,b2,b3],.vp [.s s]] []=some (.b (decide (c=s)),[]):=by
 rw[aG P6 (by simp[HW])]
 simp(maxDischargeDepth:=6) only[qF,ae,ah,aa,aj,ab,an,reduceCtorEq,Nat.reduceLT,Nat.reduceEqDiff,HW]
theorem adk(l:Cs)(s:List Nat)(a:T)(cc:List T)(ha:aR a l.length cc)(hc:dK l cc)(hs:l.length≤eG)(o:Out)(ho:o=if de l s=none then .ext 0 else .ret)(fr:Fr)(lh:aQ aB)(sh:List aB)(h0:ak fr 0=a)(h1:ak fr 1= .fn 145 [] [.vp [.s s]])(h7:ak fr 7= .i .i64 (l.length:Int))(h8:ak fr 8= .i .i64 0):
  DC pE 19 (.loop gY) ⟨fr,lh,sh⟩=some (o,⟨cz pE 19 gY fr lh sh,bK pE 19 gY fr lh sh,cw pE 19 gY fr lh sh⟩)∧
  ((∀i,de l s=some i→ak (cz pE 19 gY fr lh sh) 4= .i .i64 (i:Int))∧bK pE 19 gY fr lh sh=lh∧cw pE 19 gY fr lh sh=sh):=by
 refine aD (P:=fun fr bp br=>(∀i,de l s=some i→ak fr 4= .i .i64 (i:Int))∧bp=lh∧br=sh) (aI (fun k st=> ∃fr:Fr,st=⟨fr,lh,sh⟩∧ak fr 0=a∧ak fr 1= .fn 145 [] [.vp [.s s]]∧ak fr 7= .i .i64 (l.length:Int)∧ak fr 8= .i .i64 (k:Int)∧k≤l.length∧ ∀j (h:j<k) (hl:j<l.length),l[j].1≠s) _ l.length ?_ ?_ 0 _ (Nat.zero_le _) ⟨fr,rfl,h0,h1,h7,h8,Nat.zero_le _,by simp⟩)
 ·rintro k _ hk ⟨fr,rfl,h0,h1,h7,h8,lU,fh⟩
  have bt:(k:Int)<l.length:=by omega
  have hw:=aJ (k:=k) (by omega)
  have hd:=mw k lU fh
  rw[List.drop_eq_getElem_cons hk,de]at hd
  obtain⟨b,cb,r,bh,cH,_,_⟩:=dL ha hc k hk
  have az:=GV l[k].1 (.i .i64 l[k].2.op) (.i .i64 l[k].2.num) (.s l[k].2.name) b s rfl
  by_cases fg:l[k].1=s
  ·right
   rw[if_pos fg]at hd
   rw[decide_eq_true fg]at az
   simp only[Option.map_some,Nat.zero_add]at hd
   simp(maxDischargeDepth:=6) only[qF,ae,ah,aa,aj,ab,iq,reduceCtorEq,Nat.reduceLT,Nat.reduceLeDiff,Nat.reduceEqDiff,gY,h0,h1,h7,h8,bt,bh,az,P7,cH.froz1]
   refine⟨_,_,(by simp:Out.ret≠ .nrm),rfl,by rw[ho,hd];rfl,fun i hi=> ?_,rfl,rfl⟩
   rw[hd]at hi
   cases hi
   simp(maxDischargeDepth:=6) only[aa]
  ·left
   rw[decide_eq_false fg]at az
   simp(maxDischargeDepth:=6) only[qF,ae,ah,aa,aj,ab,iq,reduceCtorEq,Nat.reduceLT,Nat.reduceLeDiff,Nat.reduceEqDiff,gY,h0,h1,h7,h8,bt,bh,hw,az,P7,cH.froz1]
   refine⟨_,rfl,_,rfl, ?_, ?_, ?_, ?_,by omega, ?_⟩
   all_goals first|(simp(maxDischargeDepth:=6) only[aa,ab,reduceCtorEq,Nat.reduceEqDiff,h0,h1,h7];done)|skip
   intro j hj hl
   by_cases e:j=k
   ·subst e;exact fg
   ·exact fh j (by omega) hl
 ·rintro _ ⟨fr,rfl,h0,h1,h7,h8,lU,fh⟩
  have hd:=mw l.length lU fh
  rw[List.drop_length,de]at hd
  simp(maxDischargeDepth:=6) only[ae,ah,aa,ab,an,Nat.reduceLT,gY,h7,h8,Int.lt_irrefl]
  refine⟨_,_,(by simp:Out.ext 0≠ .nrm),rfl,by rw[ho,hd];rfl,fun i hi=> ?_,rfl,rfl⟩
  rw[hd]at hi;cases hi
theorem T2(l:Cs)(s:List Nat)(a:T)(cc:List T)(ha:aR a l.length cc)(hc:dK l cc)(hs:l.length≤eG):ai pE 144 [a,.fn 145 [] [.vp [.s s]]] []=some (.i .i64 (GW l s),[]):=by
 have hL:=fun fr lh sh=>adk l s a cc ha hc hs _ rfl fr lh sh
 rw[aG P5 (by simp[Fs])]
 cases hd:de l s with
 |none=>
  rw[rY hd]
  simp only[hd,if_true,reduceCtorEq,false_implies,implies_true,true_and]at hL
  simp(maxDischargeDepth:=6) only[qF,ae,ah,aa,aj,ab,Int.reduceNeg,reduceCtorEq,Nat.reduceLT,Nat.reduceEqDiff,Fs,ha.lenI,hL]
 |some i=>
  rw[kg hd]
  simp only[hd,reduceCtorEq,if_false,Option.some.injEq,forall_eq']at hL
  simp(maxDischargeDepth:=6) only[qF,ae,ah,aa,aj,ab,Int.reduceNeg,reduceCtorEq,Nat.reduceLT,Nat.reduceEqDiff,Fs,ha.lenI,hL]
theorem OL{lh:aQ aB}{sh:List aB}{keep:Bool}{f k g wm:Nat}{cs:List T}{bx:Bool}(h:aq lh k=⟨g,.cells cs wm bx⟩)(hc:cs.all froz1=true):fzV lh sh keep (.fn f [] [.ptr .L k g 0])=some (.fn f [] [.vp cs],[(.L,k,⟨g,.cells cs cs.length bx⟩)]):=by
 unfold fzV aU
 have hk:(keep&&Sp.L==Sp.S)=false:=by cases keep <;> rfl
 have h':(St.mk .nil lh sh).get .L k=⟨g,.cells cs wm bx⟩:=h
 have hm:bC (fz false 6) cs= .ret (cs,[]):=by
  clear h h'
  induction cs with
  |nil=>rfl
  |cons c cs ih=>
   rw[List.all_cons,Bool.and_eq_true]at hc
   simp only[bC,mj hc.1,ih hc.2,Q.bind,List.append_nil]
 have hs:fz keep 8 (T.fn f [] [T.ptr .L k g 0])=(bC (fz keep 7) []).bind fun p=>(bC (fz keep 7) [T.ptr .L k g 0]).bind fun q=>Q.ret (T.fn f p.1 q.1,p.2++q.2):=rfl
 have hp:fz keep 7 (T.ptr .L k g 0)=if(keep&&Sp.L==Sp.S)=true then Q.ret (T.ptr .L k g 0,[])else Q.rd .L k fun e=>
   if e.g=g then match e.ob with
    | .cells cs _ bx=>(bC (fz false 6) (cs.drop 0)).bind fun q=> .ret (.vp q.1,q.2++ [(.L,k,⟨g,.cells cs cs.length bx⟩)])
    |_=> .fail
   else .fail:=rfl
 rw[hs]
 simp only[bC,Q.bind,hp,hk,Bool.false_eq_true,if_false,Q.run,h',if_true,List.drop_zero,hm,List.nil_append,List.append_nil]
end Go.Proofs.YtfenhjpkomldcaaGreat
