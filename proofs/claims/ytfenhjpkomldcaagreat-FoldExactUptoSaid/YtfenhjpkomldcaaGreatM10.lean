/- The program's reduce at literals. The program's reduce. The program's reduce. A literal, cloned. The simplifier's search for a constant. Conditions: the theorems' own. -/
import Derived.Test.YtfenhjpkomldcaaGreatM9
import Derived.KernelRfl
set_option maxRecDepth 100000
set_option linter.unusedSimpArgs false
set_option linter.unusedVariables false
set_option maxHeartbeats 16000000
namespace Go.Proofs.YtfenhjpkomldcaaGreat
open Go Go.Ev
theorem Ho{lh:aQ aA}{sh:List aA}{keep:Bool}{k g wm:Nat}{cs:List T}{bx:Bool}(h:aE lh k=⟨g,.cells cs wm bx⟩)(hc:cs.all froz1=true):fzV lh sh keep (.ptr .L k g 0)=some (.vp cs,[(.L,k,⟨g,.cells cs cs.length bx⟩)]):=by
 unfold fzV aM
 have hk:(keep&&Sp.L==Sp.S)=false:=by cases keep <;> rfl
 show Q.run _ _ (if(keep&&Sp.L==Sp.S)=true then _ else _)=_
 rw[hk]
 simp only[Bool.false_eq_true,if_false,Q.run]
 have h':(St.mk .nil lh sh).get .L k=⟨g,.cells cs wm bx⟩:=h
 rw[h']
 simp only[if_true,List.drop_zero]
 have:bl (fz false 7) cs= .ret (cs,[]):=by
  clear h h'
  induction cs with
  |nil=>rfl
  |cons c cs ih=>
   rw[List.all_cons,Bool.and_eq_true]at hc
   simp only[bl,j0 hc.1,ih hc.2,Q.bind,List.append_nil]
 rw[this]
 rfl
theorem x9{y:Ex}(h:y.op=1∨y.op=2∨y.op=3)(hb:bd y.num):Qa [] (gl y)∧(gl y).val []=y.num:=by
 rw[j4,if_pos h]
 exact⟨(pj _ _).2 (.inl ⟨rfl,hb⟩),by rw[Fm.val_eq];rfl⟩
theorem Hp{scope k:Int}{y:Ex}(h:FK scope k y)(hl:isLit y=true):Qa [] (gl y)∧(gl y).val []=jo y∧y.na∧(y.op=7→0<y.args.length):=by
 obtain⟨kH,_,h7⟩:=h.lit hl
 obtain⟨h1,h2,aX,gr,iA,jC⟩:=h.node
 have h7':y.op=7→0<y.args.length:=fun e=>(h7 e).1
 have ij:=se kH
 rw[lL y h7',Bool.or_eq_true,Bool.and_eq_true,decide_eq_true_eq,decide_eq_true_eq,decide_eq_true_eq]at hl
 rw[vD y h7']at ij ⊢
 have Qb:y.op≠6→y.args.length=0→y.na:=fun h6 hz=>(Ex.na_eq y).2 ⟨h6,by rw[List.length_eq_zero_iff.1 hz];trivial⟩
 have hz:y.op≤6→y.args.length=0:=fun h=>by simpa[aW,h]using aX
 by_cases e4:y.op=4
 ·rw[if_pos e4]at ij ⊢
  rw[j4,if_neg (by omega),if_pos e4]
  exact⟨(pj _ _).2 (.inl ⟨rfl,ij⟩),by rw[Fm.val_eq];rfl,Qb (by omega) (hz (by omega)),fun e=>by omega⟩
 rw[if_neg e4]at ij ⊢
 by_cases e5:y.op=5
 ·rw[if_pos e5]at ij ⊢
  rw[j4,if_neg (by omega),if_neg e4,if_pos e5]
  exact⟨(pj _ _).2 (.inl ⟨rfl,ij⟩),by rw[Fm.val_eq];rfl,Qb (by omega) (hz (by omega)),fun e=>by omega⟩
 rw[if_neg e5]at ij ⊢
 by_cases e7:y.op=7
 ·rw[if_pos e7]at ij ⊢
  have tB:(jq y).op=1∨(jq y).op=2:=by rcases hl with hl|hl <;> omega
  have hlen:y.args.length=1:=by rw[e7]at aX;simpa[aW]using aX
  obtain⟨z,NK⟩: ∃z,y.args= [z]:=by
   match hy:y.args,hlen with
   | [z],_=>exact⟨z,rfl⟩
  have FC:jq y=z:=by unfold jq;rw[NK];rfl
  rw[FC]at tB ij ⊢
  have hbz:bd z.num:=by have:=(h7 e7).2;rw[FC]at this;exact this
  obtain⟨f1,f2⟩:=x9 (y:=z) (by omega) hbz
  rw[j4,if_neg (by omega),if_neg e4,if_neg e5,NK,e7]
  have hwz:z.wf=true:=by rw[NK,fG,Bool.and_eq_true]at jC;exact jC.1
  obtain⟨_,_,UG,_⟩:=er hwz
  have Zk:z.args.length=0:=by rcases tB with e|e <;> rw[e]at UG <;> simpa[aW]using UG
  have jX:dp [] (cC [z])= [z.num]:=by rw[cC,cC,dp,dp,f2]
  refine⟨(pj _ _).2 (.inr (.inr ⟨(by decide:(7:Int)≤7),(by decide:(7:Int)≤22),rfl,c5 (show 1≤100000 by decide),⟨f1,trivial⟩, ?_⟩)), ?_, ?_,fun _=>by simp⟩
  ·show Qc 7 (dp [] (cC [z]))
   rw[jX]
   exact⟨fun v hv=>by rw[List.mem_singleton]at hv;rw[hv];exact hbz,fun h=>absurd h (by decide),fun h=>absurd h (by decide)⟩
  ·rw[Fm.val_eq]
   show oG 7 (dp [] (cC [z]))= -z.num
   rw[jX];rfl
  ·exact(Ex.na_eq y).2 ⟨by omega,by rw[NK];exact⟨(Ex.na_eq z).2 ⟨by omega,by rw[List.length_eq_zero_iff.1 Zk];trivial⟩,trivial⟩⟩
 ·rw[if_neg e7]at ij ⊢
  have Zl:y.op=1∨y.op=2∨y.op=3:=by rcases hl with hl|hl <;> omega
  obtain⟨f1,f2⟩:=x9 Zl ij
  exact⟨f1,f2,Qb (by omega) (hz (by omega)),fun e=>absurd e e7⟩
theorem ub{scope:Int}: ∀{ts:List Int} {ys:List Ex},uc scope ts ys→ys.all isLit=true→vE [] (cC ys)∧dp [] (cC ys)=ys.map jo∧NL ys
 | [],[],_,_=>⟨trivial,rfl,trivial⟩
 |t::ts,y::ys,h,ha=>by
  rw[List.all_cons,Bool.and_eq_true]at ha
  obtain⟨a1,a2,a3,_⟩:=Hp h.1 ha.1
  obtain⟨b1,b2,b3⟩:=ub h.2 ha.2
  refine⟨⟨a1,b1⟩, ?_,⟨a3,b3⟩⟩
  rw[cC,dp,a2,b2];rfl
def oo(lT kT:T)(m:List (List Nat×List T)):List aA:=
 [⟨1,.map (m.map fun p=>sK p.1) (m.map fun p=>T.agg p.2) false⟩,⟨1,.cells [lT,.mp .S 0 1,kT] 0 true⟩]
section
variable(lT kT:T)(m:List (List Nat×List T))
theorem sm0:ch (oo lT kT m) 0=⟨1,.map (m.map fun p=>sK p.1) (m.map fun p=>T.agg p.2) false⟩:=nr rfl
theorem Zm:ch (oo lT kT m) 1=⟨1,.cells [lT,.mp .S 0 1,kT] 0 true⟩:=nr rfl
theorem Zn(m':List (List Nat×List T)):fO (oo lT kT m) 0 ⟨1,.map (m'.map fun p=>sK p.1) (m'.map fun p=>T.agg p.2) false⟩=oo lT kT m':=nr rfl
end
def yb(cs:List T):Prop:=(∃op num,cs= [.i .i64 op,.i .i64 num,.s [],.nilsl])∨ ∃ex op num,cs= [.i .i64 7,.i .i64 0,.s [],.sl [.i .i64 op,.i .i64 num,.s [],.nilsl] 1 ex]
theorem Hq(k n:Int)(hn:bd n): ∃cs,aa pE 148 [.i .i64 k,.i .i64 n] []=some (.agg cs,[])∧bj (ew k n) cs∧yb cs:=by
 rw[aD Mu (by simp[qV])]
 unfold ew
 have hw:=mZ hn
 by_cases h4:k=4
 ·subst h4
  by_cases h0:n=0
  ·simp(maxDischargeDepth:=6) only[qF,ah,ai,ab,aj,ae,ak,Int.reduceNeg,aG,splice,aF,Nat.reduceAdd,reduceCtorEq,Nat.reduceLT,Nat.reduceLeDiff,Nat.reduceEqDiff,Int.reduceLT,Int.reduceEq,qV,h0];exact⟨_,rfl,bO _ _ _ cD,.inl ⟨_,_,rfl⟩⟩
  ·simp(maxDischargeDepth:=6) only[qF,ah,ai,ab,aj,ae,ak,aG,splice,aF,Nat.reduceAdd,reduceCtorEq,Nat.reduceLT,Nat.reduceLeDiff,Nat.reduceEqDiff,Int.reduceEq,qV,h0];exact⟨_,rfl,bO _ _ _ cD,.inl ⟨_,_,rfl⟩⟩
 by_cases h3:k=3
 ·subst h3
  simp(maxDischargeDepth:=6) only[qF,ah,ai,ab,aj,ae,ak,aG,splice,aF,Nat.reduceAdd,reduceCtorEq,Nat.reduceLT,Nat.reduceLeDiff,Nat.reduceEqDiff,Int.reduceEq,qV];exact⟨_,rfl,bO _ _ _ cD,.inl ⟨_,_,rfl⟩⟩
 by_cases h2:k=2
 ·subst h2
  by_cases h0:n<0
  ·simp(maxDischargeDepth:=6) only[qF,ah,ai,ab,aj,ae,ak,aG,dH,dQ,splice,aF,repl,Nat.reduceAdd,reduceCtorEq,Nat.reduceLT,Nat.reduceLeDiff,Nat.reduceEqDiff,Int.reduceEq,qV,h0,hw];exact⟨_,rfl,vF _ _,.inr ⟨_,_,_,rfl⟩⟩
  ·simp(maxDischargeDepth:=6) only[qF,ah,ai,ab,aj,ae,ak,aG,dH,dQ,splice,aF,repl,Nat.reduceAdd,reduceCtorEq,Nat.reduceLT,Nat.reduceLeDiff,Nat.reduceEqDiff,Int.reduceEq,qV,h0];exact⟨_,rfl,bO _ _ _ cD,.inl ⟨_,_,rfl⟩⟩
 ·by_cases h0:n<0
  ·simp(maxDischargeDepth:=6) only[qF,ah,ai,ab,aj,ae,ak,aG,dH,dQ,splice,aF,repl,Nat.reduceAdd,reduceCtorEq,Nat.reduceLT,Nat.reduceLeDiff,Nat.reduceEqDiff,qV,h2,h3,h4,h0,hw];exact⟨_,rfl,vF _ _,.inr ⟨_,_,_,rfl⟩⟩
  ·simp(maxDischargeDepth:=6) only[qF,ah,ai,ab,aj,ae,ak,aG,dH,dQ,splice,aF,repl,Nat.reduceAdd,reduceCtorEq,Nat.reduceLT,Nat.reduceLeDiff,Nat.reduceEqDiff,qV,h2,h3,h4,h0];exact⟨_,rfl,bO _ _ _ cD,.inl ⟨_,_,rfl⟩⟩
section
variable(lT kT:T)(BJ:froz kT=true)
include BJ
theorem DK{scope op k:Int}{ts:List Int}{ys:List Ex}(kZ:uc scope ts ys)(aU:ys.all isLit=true)(h7:7≤op)(Aq:op≤22)(aX:aW op ys.length=true)(hr:dk op ts=k)(hk:k≠0)(hn:aR ys<100000)(a:T)(cc:List T)(ha:aN a ys.length cc)(hx:aL ys cc)(m:List (List Nat×List T)):
  ∃cs,aa pE 100 [.ptr .S 1 1 0,.agg [.i .i64 op,.i .i64 0,.s [],a]] (oo lT kT m)=some (.agg cs,oo lT kT m)∧bj (ew k (oG op (ys.map jo))) cs∧yb cs:=by
 have hnd:=jD op ys a cc ha hx
 obtain⟨q1,q2,q3⟩:=ub kZ aU
 obtain⟨kH,lr⟩:=lits kZ aU
 have hlen:=kZ.len
 obtain⟨hv,my⟩:=yc kH h7 Aq (by rw[hlen];exact aX) hr hk
 have sM:=bE ys
 have Hr:BK ys:=fun y hy h=>by
  have:y.wf=true:=gL.1 kZ.wf y hy
  obtain⟨_,_,Hs,_⟩:=er this
  rw[h]at Hs;simp[aW]at Hs;omega
 have fX:=vG ys Hr a cc ha hx (c5 (by omega))
 rw[aU]at fX
 obtain⟨cf,sf,mK⟩:=Qd kT BJ 0 (.mk op 0 [] ys) _ hnd (by rw[Ex.nodes_eq];show 1+aR ys≤100000;omega) ((Ex.na_eq _).2 ⟨by show op≠6;omega,q3⟩)
 have UH:gl (.mk op 0 [] ys)= .mk op 0 (cC ys):=by
  rw[j4]
  show(if op=1∨op=2∨op=3 then _ else if op=4 then _ else if op=5 then _ else _)=_
  rw[if_neg (by omega),if_neg (by omega),if_neg (by omega)];rfl
 rw[UH]at mK
 obtain⟨fa,fc,rfl,jl,NM⟩:=mK.cells
 have dq:(cC ys).length=ys.length:=by rw[gv];simp
 have hval:=Qe [] .nilsl (Or.inl ⟨rfl,rfl,rfl⟩) (.mk op 0 (cC ys)) fa fc [] jl NM ((pj _ _).2 (.inr (.inr ⟨h7,Aq,by show aW op (cC ys).length=true;rw[dq];exact aX,by show(cC ys).length≤gi;rw[dq];exact c5 (by omega),q1,by show Qc op (dp [] (cC ys));rw[q2];exact hv⟩)))
 have hvv:(Fm.mk op 0 (cC ys)).val []=oG op (ys.map jo):=by
  rw[Fm.val_eq]
  show(if op=1 then _ else if op=6 then _ else oG op (dp [] (cC ys)))=_
  rw[if_neg (by omega),if_neg (by omega),q2]
 rw[hvv]at hval
 have hko:=UI (.mk op 0 [] ys) _ hnd (FK.mk (by omega) Aq (by omega) aX kZ hr hk).1
 rw[La lr h7 Aq (by rw[hlen];exact aX) hr hk]at hko
 obtain⟨cs,sg,fF,hT⟩:=Hq k (oG op (ys.map jo)) (se my)
 have hfz:froz (.fn 147 [] [])=true:=rfl
 have hc3:([T.i .i64 op,T.i .i64 0,fa]:List T).all froz1=true:=by simp[kG,jl.froz1]
 have Zo:=fun lh sh keep (h:aE lh 5=⟨1,.cells [.i .i64 op,.i .i64 0,fa] 0 true⟩)=>Ho (sh:=sh) (keep:=keep) h hc3
 change aa pE 92 [.vp [.i .i64 op,.i .i64 0,fa],.nilsl] []=_ at hval
 change aa pE 91 [kT,.i .i64 0,.agg [.i .i64 op,.i .i64 0,.s [],a]] []=some (.agg [.i .i64 op,.i .i64 0,fa],[])at sf
 rw[aD jR (by simp[gf])]
 generalize oG op (ys.map jo)=v at*
 obtain⟨la,lc,rfl,ny,wu⟩:=fF.cells
 simp(maxDischargeDepth:=6) only[qF,ah,ai,ab,aj,ae,ak,splice,Nat.reduceAdd,reduceCtorEq,Nat.reduceLT,Nat.reduceEqDiff,bV,gX,aV,gf,fX,js,ha.froz,ha.froz1,hfz,Zm,BJ,sf,R3,R4,jl.froz1,hko,qX,hval,Yg,Zo,sg,Sw,ny.froz1]
 exact⟨_,rfl,fF,hT⟩
end
end Go.Proofs.YtfenhjpkomldcaaGreat
namespace Go.Proofs.YtfenhjpkomldcaaGreat
open Go Go.Ev
theorem Ht{ys:List Ex}(h:fG ys=true):BK ys:=fun y hy h7=>by
 obtain⟨_,_,Hs,_⟩:=er (gL.1 h y hy)
 rw[h7]at Hs;simp[aW]at Hs;omega
theorem BL{d:Nat}{fr:Fr}{lh:aQ aA}{sh:List aA}(z:Ex)(b:T)(hb:froz1 b=true):ar pE (aa pE) d ⟨fr,lh,sh⟩ 153 [.agg [.i .i64 z.op,.i .i64 z.num,.s z.name,b]]=some (.b (jd z),⟨fr,lh,sh⟩):=by
 rw[Sz (by simp[j2,kG,l8,hb]),ye _ z b (.inl rfl)];rfl
theorem Hu{d:Nat}{fr:Fr}{lh:aQ aA}{sh:List aA}(z:Ex)(b:T)(hb:froz1 b=true):ar pE (aa pE) d ⟨fr,lh,sh⟩ 154 [.agg [.i .i64 z.op,.i .i64 z.num,.s z.name,b]]=some (.b (lM z),⟨fr,lh,sh⟩):=by
 rw[SA (by simp[j2,kG,l8,hb]),BM _ z b (.inl rfl)];rfl
section
variable(lT kT:T)(m:List (List Nat×List T))
theorem BN(x:Ex)(Fs:isLit x=false)(hw:x.wf=true)(a:T)(cc:List T)(ha:aN a 1 cc)(hx:aL [x] cc):
  ∃cs,aa pE 100 [.ptr .S 1 1 0,.agg [.i .i64 19,.i .i64 0,.s [],a]] (oo lT kT m)=some (.agg cs,oo lT kT m)∧bj (if x.op=19 then x.args.headD (bz 0 0)else .mk 19 0 [] [x]) cs:=by
 have fX:=vG [x] (Ht (by rw[fG,hw];rfl)) a cc ha hx (c5 (by simp))
 rw[show([x]:List Ex).all isLit=false by simp[Fs]]at fX
 obtain⟨b0,r0,bB,⟨cb,fu,oq⟩,kJ,lp⟩:=lj (xs:= [x]) ha hx 0 (by simp) 0 rfl
 simp only[List.getElem_cons_zero]at bB lp fu oq
 have hn:=jD 19 [x] a cc ha hx
 have hfz:froz (.fn 147 [] [])=true:=rfl
 rw[aD jR (by simp[gf])]
 by_cases m4:x.op=19
 ·rw[if_pos m4]
  have hlen:0<x.args.length:=by
   obtain⟨_,_,Hs,_⟩:=er hw
   rw[m4]at Hs;simp[aW]at Hs;omega
  obtain⟨b1,r1,bK,_,jl,gG⟩:=lj fu oq 0 hlen 0 rfl
  have hh:x.args.headD (bz 0 0)=x.args[0]:=by
   generalize x.args=l at hlen
   cases l with
   |nil=>simp at hlen
   |cons y ys=>rfl
  rw[hh]
  simp(maxDischargeDepth:=6) only[qF,ah,ai,ab,aj,ae,ak,splice,Nat.reduceAdd,reduceCtorEq,Nat.reduceLT,Nat.reduceLeDiff,Nat.reduceEqDiff,Int.reduceEq,gf,fX,js,ha.froz,hfz,bB,m4,bK,jl]
  exact⟨_,rfl,gG⟩
 ·rw[if_neg m4]
  simp(maxDischargeDepth:=6) only[qF,ah,ai,ab,aj,ae,ak,splice,Nat.reduceAdd,reduceCtorEq,Nat.reduceLT,Nat.reduceLeDiff,Nat.reduceEqDiff,Int.reduceEq,gf,fX,js,ha.froz,hfz,ha.froz1,bB,m4]
  exact⟨_,rfl,hn⟩
theorem Lb(x y:Ex)(hl:([x,y]:List Ex).all isLit=false)(Zp:x.wf=true)(a:T)(cc:List T)(ha:aN a 2 cc)(hx:aL [x,y] cc):
  ∃cs,aa pE 151 [.ptr .S 1 1 0,.agg [.i .i64 22,.i .i64 0,.s [],a]] (oo lT kT m)=some (.agg cs,oo lT kT m)∧bj (pk 22 x y) cs:=by
 obtain⟨b0,r0,bB,⟨c0,UJ,sO⟩,kJ,lp⟩:=lj (xs:= [x,y]) ha hx 0 (by simp) 0 rfl
 obtain⟨b1,r1,bK,_,jl,gG⟩:=lj (xs:= [x,y]) ha hx 1 (by simp) 1 rfl
 simp only[List.getElem_cons_zero,List.getElem_cons_succ]at bB bK lp gG UJ sO
 have hn:=jD 22 [x,y] a cc ha hx
 have hk0:kept1 b0=true:=xN kJ
 rw[aD Mx (by simp[uJ])]
 show∃cs,_∧bj (if x.op=5∨y.op=4 then bz 4 0 else if x.op=4 then y else if y.op=5 then(if x.op=19 then x.args.headD (bz 0 0)else .mk 19 0 [] [x])else .mk 22 0 [] [x,y]) cs
 by_cases a5:x.op=5
 ·simp(maxDischargeDepth:=6) only[qF,ah,ai,ab,aj,ae,ak,aG,dH,dQ,splice,aF,repl,Nat.reduceAdd,reduceCtorEq,Nat.reduceLT,Nat.reduceLeDiff,Nat.reduceEqDiff,Int.reduceEq,bV,gX,aV,uJ,bB,bK,kJ,jl,a5,true_or]
  exact⟨_,rfl,bO _ _ _ cD⟩
 by_cases b4:y.op=4
 ·simp(maxDischargeDepth:=6) only[qF,ah,ai,ab,aj,ae,ak,aG,dH,dQ,splice,aF,repl,Nat.reduceAdd,reduceCtorEq,Nat.reduceLT,Nat.reduceLeDiff,Nat.reduceEqDiff,Int.reduceEq,bV,gX,aV,uJ,bB,bK,kJ,jl,a5,b4,or_true]
  exact⟨_,rfl,bO _ _ _ cD⟩
 by_cases a4:x.op=4
 ·simp(maxDischargeDepth:=6) only[qF,ah,ai,ab,aj,ae,ak,aG,dH,dQ,splice,aF,repl,Nat.reduceAdd,reduceCtorEq,Nat.reduceLT,Nat.reduceLeDiff,Nat.reduceEqDiff,Int.reduceEq,bV,gX,aV,uJ,bB,bK,kJ,jl,b4,a4,or_self]
  exact⟨_,rfl,gG⟩
 by_cases b5:y.op=5
 ·have Fs:isLit x=false:=by
   have hy:isLit y=true:=by rw[lL y (fun h=>absurd (h.symm.trans b5) (by decide)),b5];rfl
   simpa[hy]using hl
  obtain⟨cs,Qf,fF⟩:=BN lT kT m x Fs Zp (.sl [.i .i64 x.op,.i .i64 x.num,.s x.name,b0] 1 true) _ (Or.inr ⟨true,rfl⟩) (aL.one lp)
  obtain⟨la,lc,rfl,ny,wu⟩:=fF.cells
  rw[b5]at gG bK
  simp(maxDischargeDepth:=6) only[qF,ah,ai,ab,aj,ae,ak,aG,dH,dQ,splice,aF,repl,Nat.reduceAdd,reduceCtorEq,Nat.reduceLT,Nat.reduceLeDiff,Nat.reduceEqDiff,Int.reduceEq,bV,gX,aV,im,uJ,bB,bK,kJ,jl,a5,b5,a4,or_self,Qf,R8,ny.froz1]
  exact⟨_,rfl,fF⟩
 ·simp(maxDischargeDepth:=6) only[qF,ah,ai,ab,aj,ae,ak,aG,dH,dQ,splice,aF,repl,Nat.reduceAdd,reduceCtorEq,Nat.reduceLT,Nat.reduceLeDiff,Nat.reduceEqDiff,bV,gX,aV,uJ,bB,bK,kJ,jl,ha.froz1,a5,b4,a4,b5,or_self]
  exact⟨_,rfl,hn⟩
end
end Go.Proofs.YtfenhjpkomldcaaGreat
namespace Go.Proofs.YtfenhjpkomldcaaGreat
open Go Go.Ev
theorem yf{ys:List Ex}(h:ys.length=2): ∃x y,ys= [x,y]:=by
 match ys,h with
 | [x,y],_=>exact⟨x,y,rfl⟩
theorem UK{ys:List Ex}(h:ys.length=3): ∃x y z,ys= [x,y,z]:=by
 match ys,h with
 | [x,y,z],_=>exact⟨x,y,z,rfl⟩
theorem UL{ys:List Ex}(h:ys.length=1): ∃x,ys= [x]:=by
 match ys,h with
 | [x],_=>exact⟨x,rfl⟩
section
variable(lT kT:T)(m:List (List Nat×List T))
theorem Lc{op:Int}{ys:List Ex}(aU:ys.all isLit=false)(fy:fG ys=true)(h7:7≤op)(Aq:op≤22)(aX:aW op ys.length=true)(hn:aR ys<100000)(a:T)(cc:List T)(ha:aN a ys.length cc)(hx:aL ys cc):
  ∃cs,aa pE 100 [.ptr .S 1 1 0,.agg [.i .i64 op,.i .i64 0,.s [],a]] (oo lT kT m)=some (.agg cs,oo lT kT m)∧bj (mB op ys) cs:=by
 have sM:=bE ys
 have fX:=vG ys (Ht fy) a cc ha hx (c5 (by omega))
 rw[aU,Bool.not_false]at fX
 have hnd:=jD op ys a cc ha hx
 have hfz:froz (.fn 147 [] [])=true:=rfl
 have UM:froz (.fn 153 [] [])=true:=rfl
 have UN:froz (.fn 154 [] [])=true:=rfl
 have same: ∀vH,op=vH→(vH=7∨vH=12∨vH=13∨vH=15∨vH=16∨vH=17∨vH=18)→mB op ys= .mk op 0 [] ys:=by
  rintro vH rfl ho
  match ys with
  | []=>rfl
  | [x]=>show(if op=19∧x.op=19 then _ else _)=_;rw[if_neg (by omega)]
  | [x,y]=>
    rw[fY];unfold pk
    rw[if_neg (by omega),if_neg (by omega),if_neg (by omega),if_neg (by omega),if_neg (by omega),if_neg (by omega),if_neg (by omega)]
  | [x,y,z]=>show(if op=14 then _ else _)=_;rw[if_neg (by omega)]
  |_::_::_::_::_=>rfl
 have gT:(op=7∨op=12∨op=13∨op=15∨op=16∨op=17∨op=18)→ ∃cs,aa pE 100 [.ptr .S 1 1 0,.agg [.i .i64 op,.i .i64 0,.s [],a]] (oo lT kT m)=some (.agg cs,oo lT kT m)∧bj (mB op ys) cs:=by
  intro ho
  rw[same op rfl ho,aD jR (by simp[gf])]
  rcases ho with rfl|rfl|rfl|rfl|rfl|rfl|rfl <;>
   (simp(maxDischargeDepth:=6) only[qF,ah,ai,ab,aj,ae,ak,splice,Nat.reduceAdd,reduceCtorEq,Nat.reduceLT,Nat.reduceEqDiff,Int.reduceEq,gf,fX,js,ha.froz,hfz,ha.froz1];exact⟨_,rfl,hnd⟩)
 rcases ed (show 1≤op by omega) Aq with rfl|rfl|rfl|rfl|rfl|rfl|rfl|rfl|rfl|rfl|rfl|rfl|rfl|rfl|rfl|rfl|rfl|rfl|rfl|rfl|rfl|rfl
 iterate 6 ·omega
 ·exact gT (by simp)
 ·obtain⟨x,y,rfl⟩:=yf (ys:=ys) (by simpa[aW]using aX)
  obtain⟨cs,hc,fF⟩:=kK 8 153 jd true (fun z b hb d fr lh sh=>BL z b hb) x y a cc ha hx
  obtain⟨la,lc,rfl,ny,wu⟩:=fF.cells
  rw[aD jR (by simp[gf])]
  simp(maxDischargeDepth:=6) only[qF,ah,ai,ab,aj,ae,ak,splice,Nat.reduceAdd,reduceCtorEq,Nat.reduceLT,Nat.reduceEqDiff,Int.reduceEq,gf,fX,js,ha.froz,hfz,ha.froz1,hc,AY,UM,ny.froz1]
  exact⟨_,rfl,by simpa[fY,pk]using fF⟩
 ·obtain⟨x,y,rfl⟩:=yf (ys:=ys) (by simpa[aW]using aX)
  obtain⟨cs,hc,fF⟩:=kK 9 153 jd false (fun z b hb d fr lh sh=>BL z b hb) x y a cc ha hx
  obtain⟨la,lc,rfl,ny,wu⟩:=fF.cells
  rw[aD jR (by simp[gf])]
  simp(maxDischargeDepth:=6) only[qF,ah,ai,ab,aj,ae,ak,splice,Nat.reduceAdd,reduceCtorEq,Nat.reduceLT,Nat.reduceEqDiff,Int.reduceEq,gf,fX,js,ha.froz,hfz,ha.froz1,hc,AY,UM,ny.froz1]
  exact⟨_,rfl,by simpa[fY,pk]using fF⟩
 ·obtain⟨x,y,rfl⟩:=yf (ys:=ys) (by simpa[aW]using aX)
  obtain⟨cs,hc,fF⟩:=kK 10 154 lM true (fun z b hb d fr lh sh=>Hu z b hb) x y a cc ha hx
  obtain⟨la,lc,rfl,ny,wu⟩:=fF.cells
  rw[aD jR (by simp[gf])]
  simp(maxDischargeDepth:=6) only[qF,ah,ai,ab,aj,ae,ak,splice,Nat.reduceAdd,reduceCtorEq,Nat.reduceLT,Nat.reduceEqDiff,Int.reduceEq,gf,fX,js,ha.froz,hfz,ha.froz1,hc,AY,UN,ny.froz1]
  exact⟨_,rfl,by simpa[fY,pk]using fF⟩
 ·obtain⟨x,y,rfl⟩:=yf (ys:=ys) (by simpa[aW]using aX)
  obtain⟨cs,hc,fF⟩:=kK 11 154 lM false (fun z b hb d fr lh sh=>Hu z b hb) x y a cc ha hx
  obtain⟨la,lc,rfl,ny,wu⟩:=fF.cells
  rw[aD jR (by simp[gf])]
  simp(maxDischargeDepth:=6) only[qF,ah,ai,ab,aj,ae,ak,splice,Nat.reduceAdd,reduceCtorEq,Nat.reduceLT,Nat.reduceEqDiff,Int.reduceEq,gf,fX,js,ha.froz,hfz,ha.froz1,hc,AY,UN,ny.froz1]
  exact⟨_,rfl,by simpa[fY,pk]using fF⟩
 ·exact gT (by simp)
 ·exact gT (by simp)
 ·obtain⟨x,y,z,rfl⟩:=UK (ys:=ys) (by simpa[aW]using aX)
  obtain⟨b0,r0,bB,_,kJ,lp⟩:=lj ha hx 0 (by simp) 0 rfl
  obtain⟨b1,r1,bK,_,jl,gG⟩:=lj ha hx 1 (by simp) 1 rfl
  obtain⟨b2,r2,si,_,NM,yX⟩:=lj ha hx 2 (by simp) 2 rfl
  simp only[List.getElem_cons_zero,List.getElem_cons_succ]at bB bK si lp gG yX
  rw[aD jR (by simp[gf])]
  show∃cs,_∧bj (if x.op=4 then y else if x.op=5 then z else .mk 14 0 [] [x,y,z]) cs
  by_cases a4:x.op=4
  ·simp(maxDischargeDepth:=6) only[qF,ah,ai,ab,aj,ae,ak,splice,Nat.reduceAdd,reduceCtorEq,Nat.reduceLT,Nat.reduceLeDiff,Nat.reduceEqDiff,Int.reduceEq,gf,fX,js,ha.froz,hfz,bB,bK,jl,a4]
   exact⟨_,rfl,gG⟩
  by_cases a5:x.op=5
  ·simp(maxDischargeDepth:=6) only[qF,ah,ai,ab,aj,ae,ak,splice,Nat.reduceAdd,reduceCtorEq,Nat.reduceLT,Nat.reduceLeDiff,Nat.reduceEqDiff,Int.reduceEq,gf,fX,js,ha.froz,hfz,bB,bK,si,NM,a5]
   exact⟨_,rfl,yX⟩
  ·simp(maxDischargeDepth:=6) only[qF,ah,ai,ab,aj,ae,ak,splice,Nat.reduceAdd,reduceCtorEq,Nat.reduceLT,Nat.reduceLeDiff,Nat.reduceEqDiff,Int.reduceEq,gf,fX,js,ha.froz,hfz,ha.froz1,bB,bK,si,a4,a5]
   exact⟨_,rfl,hnd⟩
 iterate 4 ·exact gT (by simp)
 ·obtain⟨x,rfl⟩:=UL (ys:=ys) (by simpa[aW]using aX)
  obtain⟨cs,h1,h2⟩:=BN lT kT m x (by simpa using aU) (by rw[fG,Bool.and_eq_true]at fy;exact fy.1) a cc ha hx
  refine⟨cs,h1, ?_⟩
  show bj (if(19:Int)=19∧x.op=19 then _ else _) cs
  simpa using h2
 ·obtain⟨x,y,rfl⟩:=yf (ys:=ys) (by simpa[aW]using aX)
  obtain⟨cs,hc,fF⟩:=p7 20 (.inl rfl) x y a cc ha hx
  obtain⟨la,lc,rfl,ny,wu⟩:=fF.cells
  rw[aD jR (by simp[gf])]
  simp(maxDischargeDepth:=6) only[qF,ah,ai,ab,aj,ae,ak,splice,Nat.reduceAdd,reduceCtorEq,Nat.reduceLT,Nat.reduceEqDiff,Int.reduceEq,gf,fX,js,ha.froz,hfz,ha.froz1,hc,Mw,ny.froz1]
  exact⟨_,rfl,fF⟩
 ·obtain⟨x,y,rfl⟩:=yf (ys:=ys) (by simpa[aW]using aX)
  obtain⟨cs,hc,fF⟩:=p7 21 (.inr rfl) x y a cc ha hx
  obtain⟨la,lc,rfl,ny,wu⟩:=fF.cells
  rw[aD jR (by simp[gf])]
  simp(maxDischargeDepth:=6) only[qF,ah,ai,ab,aj,ae,ak,splice,Nat.reduceAdd,reduceCtorEq,Nat.reduceLT,Nat.reduceEqDiff,Int.reduceEq,gf,fX,js,ha.froz,hfz,ha.froz1,hc,Mw,ny.froz1]
  exact⟨_,rfl,fF⟩
 ·obtain⟨x,y,rfl⟩:=yf (ys:=ys) (by simpa[aW]using aX)
  obtain⟨cs,hc,fF⟩:=Lb lT kT m x y aU (by rw[fG,Bool.and_eq_true]at fy;exact fy.1) a cc ha hx
  obtain⟨la,lc,rfl,ny,wu⟩:=fF.cells
  rw[aD jR (by simp[gf])]
  simp(maxDischargeDepth:=6) only[qF,ah,ai,ab,aj,ae,ak,splice,Nat.reduceAdd,reduceCtorEq,Nat.reduceLT,Nat.reduceEqDiff,Int.reduceEq,im,gf,fX,js,ha.froz,hfz,ha.kept1,hc,Sy,ny.froz1]
  exact⟨_,rfl,fF⟩
end
end Go.Proofs.YtfenhjpkomldcaaGreat
namespace Go.Proofs.YtfenhjpkomldcaaGreat
open Go Go.Ev
theorem Qg:aa pE 143 [.nilsl] []=some (.nilsl,[]):=bW (m:=20) (bU (by kernel_rfl))
theorem Ld{cs:List T}{n:Nat}{e:Bool}:mO .sl (.sl cs n e) .nilsl=some false:=rfl
theorem UO:mO .sl .nilsl .nilsl=some true:=rfl
theorem Qh(c0 c1 c2 c3:T)(ex:Bool):aa pE 143 [.sl [c0,c1,c2,c3] 1 ex] []=some (.sl [c0,c1,c2,c3] 1 false,[]):=by
 rw[PN Mm (by simp[Ey])]
 have hr:1*56≤roomy:=by decide
 simp(maxDischargeDepth:=6) only[qF,ah,ai,ab,aj,ae,ak,appW,dH,dQ,aF,repl,Nat.reduceAdd,reduceCtorEq,Nat.reduceLT,Nat.reduceLeDiff,Nat.reduceEqDiff,Ey,Ld,bne_self_eq_false,roomy]
 exact Ge (wm:=0) (by simp(maxDischargeDepth:=6) only[ab]) rfl (by decide)
theorem yg(op num:Int):aa pE 98 [.agg [.i .i64 op,.i .i64 num,.s [],.nilsl]] []=some (.agg [.i .i64 op,.i .i64 num,.s [],.nilsl],[]):=by
 rw[aD IV (by simp[Ow])]
 have h:=Qg
 simp(maxDischargeDepth:=6) only[qF,ah,ai,ab,aj,ae,ak,splice,Nat.reduceAdd,Nat.reduceLT,Nat.reduceEqDiff,Int.reduceLT,Ow,h,Mn,zU,fU,y8]
theorem Le(op num:Int)(ex:Bool):aa pE 98 [.agg [.i .i64 7,.i .i64 0,.s [],.sl [.i .i64 op,.i .i64 num,.s [],.nilsl] 1 ex]] []=some (.agg [.i .i64 7,.i .i64 0,.s [],.sl [.i .i64 op,.i .i64 num,.s [],.nilsl] 1 false],[]):=by
 rw[aD IV (by simp[Ow])]
 have h:=Qh (.i .i64 op) (.i .i64 num) (.s []) .nilsl ex
 have hl:=yg op num
 have aU:([T.i .i64 op,T.i .i64 num,T.s [],T.nilsl]:List T).all q7=true:=rfl
 have how:=fun d fr lh sh us=>C7 (d:=d) (len:=1) (us:=us) (ex:=false) (fr:=fr) (lh:=lh) (sh:=sh) aU (by simp)
 have hd:([T.i .i64 op,T.i .i64 num,T.s [],T.nilsl]:List T).length/1=4:=by simp
 simp only[hd]at how
 simp(maxDischargeDepth:=6) only[qF,ah,ai,ab,aj,ae,ak,Int.reduceAdd,Int.reduceNeg,splice,Nat.reduceAdd,Nat.reduceLT,Nat.reduceEqDiff,Int.reduceToNat,Int.reduceLE,Int.reduceLT,bV,aV,Ow,h,Mn,how,fU,y8,hl,R6,Yk]
theorem Hv{y:Ex}{cs:List T}(hT:yb cs)(hx:bj y cs): ∃mw,aa pE 98 [.agg cs] []=some (.agg mw,[])∧bj y mw∧yb mw:=by
 rcases hT with⟨op,num,rfl⟩|⟨ex,op,num,rfl⟩
 ·exact⟨_,yg op num,hx,.inl ⟨_,_,rfl⟩⟩
 ·refine⟨_,Le op num ex, ?_,.inr ⟨_,_,_,rfl⟩⟩
  obtain⟨a,cc,e,h1,h2⟩:=hx.cells
  simp only[List.cons.injEq,T.i.injEq,T.s.injEq,true_and,and_true]at e
  obtain⟨e1,e2,e3,e4⟩:=e
  have hlen:y.args.length=1∧cc= [.i .i64 op,.i .i64 num,.s [],.nilsl]:=by
   rcases h1 with⟨h,_⟩|⟨ex',h⟩
   ·rw[h]at e4;cases e4
   ·rw[h]at e4;injection e4 with q1 q2 q3;exact⟨q2.symm,q1.symm⟩
  have:=bj.of (x:=y) (a:= .sl [.i .i64 op,.i .i64 num,.s [],.nilsl] 1 false) (cc:=cc) (Or.inr ⟨false,by rw[hlen.1,hlen.2]⟩) h2
  rw[←e1,←e2,←e3]at this
  exact this
end Go.Proofs.YtfenhjpkomldcaaGreat
namespace Go.Proofs.YtfenhjpkomldcaaGreat
open Go Go.Ev
theorem DL(c:List Nat)(b0 b1 b2 b3:T)(s:List Nat)(h0:froz1 b0=true):aa pE 145 [.agg [.s c,b0,b1,b2,b3],.vp [.s s]] []=some (.b (decide (c=s)),[]):=by
 rw[aD Mp (by simp[Ez])]
 simp(maxDischargeDepth:=6) only[qF,ah,ai,ab,aj,ae,ak,reduceCtorEq,Nat.reduceLT,Nat.reduceEqDiff,Ez]
theorem Zq(l:Cs)(s:List Nat)(a:T)(cc:List T)(ha:aN a l.length cc)(hc:df l cc)(hs:l.length≤gi)(o:Out)(ho:o=if cN l s=none then .ext 0 else .ret)(fr:Fr)(lh:aQ aA)(sh:List aA)(h0:an fr 0=a)(h1:an fr 1= .fn 145 [] [.vp [.s s]])(h7:an fr 7= .i .i64 (l.length:Int))(h8:an fr 8= .i .i64 0):
  DC pE 19 (.loop fJ) ⟨fr,lh,sh⟩=some (o,⟨ev pE 19 fJ fr lh sh,eP pE 19 fJ fr lh sh,eJ pE 19 fJ fr lh sh⟩)∧
  ((∀i,cN l s=some i→an (ev pE 19 fJ fr lh sh) 4= .i .i64 (i:Int))∧eP pE 19 fJ fr lh sh=lh∧eJ pE 19 fJ fr lh sh=sh):=by
 refine a6 (P:=fun fr dj cq=>(∀i,cN l s=some i→an fr 4= .i .i64 (i:Int))∧dj=lh∧cq=sh) (bt (fun k st=> ∃fr:Fr,st=⟨fr,lh,sh⟩∧an fr 0=a∧an fr 1= .fn 145 [] [.vp [.s s]]∧an fr 7= .i .i64 (l.length:Int)∧an fr 8= .i .i64 (k:Int)∧k≤l.length∧ ∀j (h:j<k) (hl:j<l.length),l[j].1≠s) _ l.length ?_ ?_ 0 _ (Nat.zero_le _) ⟨fr,rfl,h0,h1,h7,h8,Nat.zero_le _,by simp⟩)
 ·rintro k _ hk ⟨fr,rfl,h0,h1,h7,h8,qz,iE⟩
  have dN:(k:Int)<l.length:=by omega
  have hw:=cE (k:=k) (by omega)
  have hd:=j5 k qz iE
  rw[List.drop_eq_getElem_cons hk,cN]at hd
  obtain⟨b,cb,r,cQ,fu,_,_⟩:=fZ ha hc k hk
  have aB:=DL l[k].1 (.i .i64 l[k].2.op) (.i .i64 l[k].2.num) (.s l[k].2.name) b s rfl
  by_cases kg:l[k].1=s
  ·right
   rw[if_pos kg]at hd
   rw[decide_eq_true kg]at aB
   simp only[Option.map_some,Nat.zero_add]at hd
   simp(maxDischargeDepth:=6) only[qF,ah,ai,ab,aj,ae,fV,reduceCtorEq,Nat.reduceLT,Nat.reduceLeDiff,Nat.reduceEqDiff,fJ,h0,h1,h7,h8,dN,cQ,aB,Mq,fu.froz1]
   refine⟨_,_,(by simp:Out.ret≠ .nrm),rfl,by rw[ho,hd];rfl,fun i hi=> ?_,rfl,rfl⟩
   rw[hd]at hi
   cases hi
   simp(maxDischargeDepth:=6) only[ab]
  ·left
   rw[decide_eq_false kg]at aB
   simp(maxDischargeDepth:=6) only[qF,ah,ai,ab,aj,ae,fV,reduceCtorEq,Nat.reduceLT,Nat.reduceLeDiff,Nat.reduceEqDiff,fJ,h0,h1,h7,h8,dN,cQ,hw,aB,Mq,fu.froz1]
   refine⟨_,rfl,_,rfl, ?_, ?_, ?_, ?_,by omega, ?_⟩
   all_goals first|(simp(maxDischargeDepth:=6) only[ab,ae,reduceCtorEq,Nat.reduceEqDiff,h0,h1,h7];done)|skip
   intro j hj hl
   by_cases e:j=k
   ·subst e;exact kg
   ·exact iE j (by omega) hl
 ·rintro _ ⟨fr,rfl,h0,h1,h7,h8,qz,iE⟩
  have hd:=j5 l.length qz iE
  rw[List.drop_length,cN]at hd
  simp(maxDischargeDepth:=6) only[ah,ai,ab,ae,ak,Nat.reduceLT,fJ,h7,h8,Int.lt_irrefl]
  refine⟨_,_,(by simp:Out.ext 0≠ .nrm),rfl,by rw[ho,hd];rfl,fun i hi=> ?_,rfl,rfl⟩
  rw[hd]at hi;cases hi
theorem Qi(l:Cs)(s:List Nat)(a:T)(cc:List T)(ha:aN a l.length cc)(hc:df l cc)(hs:l.length≤gi):aa pE 144 [a,.fn 145 [] [.vp [.s s]]] []=some (.i .i64 (DM l s),[]):=by
 have hL:=fun fr lh sh=>Zq l s a cc ha hc hs _ rfl fr lh sh
 rw[aD Mo (by simp[Cj])]
 cases hd:cN l s with
 |none=>
  rw[pn hd]
  simp only[hd,if_true,reduceCtorEq,false_implies,implies_true,true_and]at hL
  simp(maxDischargeDepth:=6) only[qF,ah,ai,ab,aj,ae,Int.reduceNeg,reduceCtorEq,Nat.reduceLT,Nat.reduceEqDiff,Cj,ha.lenI,hL]
 |some i=>
  rw[iL hd]
  simp only[hd,reduceCtorEq,if_false,Option.some.injEq,forall_eq']at hL
  simp(maxDischargeDepth:=6) only[qF,ah,ai,ab,aj,ae,Int.reduceNeg,reduceCtorEq,Nat.reduceLT,Nat.reduceEqDiff,Cj,ha.lenI,hL]
theorem Lf{lh:aQ aA}{sh:List aA}{keep:Bool}{f k g wm:Nat}{cs:List T}{bx:Bool}(h:aE lh k=⟨g,.cells cs wm bx⟩)(hc:cs.all froz1=true):fzV lh sh keep (.fn f [] [.ptr .L k g 0])=some (.fn f [] [.vp cs],[(.L,k,⟨g,.cells cs cs.length bx⟩)]):=by
 unfold fzV aM
 have hk:(keep&&Sp.L==Sp.S)=false:=by cases keep <;> rfl
 have h':(St.mk .nil lh sh).get .L k=⟨g,.cells cs wm bx⟩:=h
 have hm:bl (fz false 6) cs= .ret (cs,[]):=by
  clear h h'
  induction cs with
  |nil=>rfl
  |cons c cs ih=>
   rw[List.all_cons,Bool.and_eq_true]at hc
   simp only[bl,j0 hc.1,ih hc.2,Q.bind,List.append_nil]
 have hs:fz keep 8 (T.fn f [] [T.ptr .L k g 0])=(bl (fz keep 7) []).bind fun p=>(bl (fz keep 7) [T.ptr .L k g 0]).bind fun q=>Q.ret (T.fn f p.1 q.1,p.2++q.2):=rfl
 have hp:fz keep 7 (T.ptr .L k g 0)=if(keep&&Sp.L==Sp.S)=true then Q.ret (T.ptr .L k g 0,[])else Q.rd .L k fun e=>
   if e.g=g then match e.ob with
    | .cells cs _ bx=>(bl (fz false 6) (cs.drop 0)).bind fun q=> .ret (.vp q.1,q.2++ [(.L,k,⟨g,.cells cs cs.length bx⟩)])
    |_=> .fail
   else .fail:=rfl
 rw[hs]
 simp only[bl,Q.bind,hp,hk,Bool.false_eq_true,if_false,Q.run,h',if_true,List.drop_zero,hm,List.nil_append,List.append_nil]
end Go.Proofs.YtfenhjpkomldcaaGreat
