/- The reference's simplified form. Both Simplify. Conditions: the theorems' own. -/
import Derived.Test.YtfenhjpkomldcaaGreatM12
import Derived.KernelRfl
set_option maxRecDepth 100000
set_option linter.unusedSimpArgs false
set_option linter.unusedVariables false
set_option maxHeartbeats 16000000
namespace Go.Proofs.YtfenhjpkomldcaaGreat
open Go Go.Ev
theorem O0{lh:aQ aB}{sh:List aB}{v:T}{k n:Nat}{cs:List T}(h:be lh v k 4 n cs)(hn:n≤eG)(c0 c1 c2 c3:T)(ex:Bool):
  appW lh sh k 4 56 v (.sl [c0,c1,c2,c3] 1 ex)=some (vS lh sh k 4 56 v (.sl [c0,c1,c2,c3] 1 ex),pA lh sh k 4 56 v (.sl [c0,c1,c2,c3] 1 ex))∧be (pA lh sh k 4 56 v (.sl [c0,c1,c2,c3] 1 ex)) (vS lh sh k 4 56 v (.sl [c0,c1,c2,c3] 1 ex)) k 4 (n+1) (cs++ [c0,c1,c2,c3])∧ ∀j,j≠k→aq (pA lh sh k 4 56 v (.sl [c0,c1,c2,c3] 1 ex)) j=aq lh j:=
 be.appW h (m:=0) (by rw[yC];rfl) rfl (by unfold roomy;unfold eG at hn;omega)
theorem YE{x:Ex}(h:x.wf=true):bd x.num:=by
 obtain⟨_,_,_,gJ,_⟩:=fk h
 unfold iA at gJ
 unfold bd
 split at gJ
 ·omega
 ·split at gJ <;> omega
theorem E1{x:Ex}(h:x.wf=true):(x.op=7→0<x.args.length)∧(x.op=7→bd (k6 x).num):=by
 obtain⟨_,_,bo,_,_,lD⟩:=fk h
 have h1:x.op=7→0<x.args.length:=fun e=>by rw[e]at bo;simp[bm]at bo;omega
 refine⟨h1,fun e=> ?_⟩
 have:=h1 e
 unfold k6
 generalize x.args=l at this lD
 cases l with
 |nil=>simp at this
 |cons y ys=>rw[gT,Bool.and_eq_true]at lD;exact YE lD.1
def fR(ys:List Ex):List Int:=(ys.filter isLit).map kZ
theorem G5(ys:List Ex)(y:Ex):fR (ys++ [y])=fR ys++(if isLit y then [kZ y]else []):=by
 unfold fR
 rw[List.filter_append,List.map_append]
 cases h:isLit y <;> simp[h]
theorem KX(ys:List Ex):(fR ys).length≤ys.length:=by
 unfold fR;rw[List.length_map];exact List.length_filter_le _ _
theorem xG{ys:List Ex}:(fR ys).length=ys.length↔ys.all isLit=true:=by
 unfold fR;rw[List.length_map,List.length_filter_eq_length_iff,List.all_eq_true]
theorem G6{ys:List Ex}(h:ys.all isLit=true):fR ys=ys.map kZ:=by
 unfold fR;rw[List.filter_eq_self.2 (List.all_eq_true.1 h)]
def Z3(lh:aQ aB):T→aQ aB
 | .isl .L k g _ _ _=>match aq lh k with|⟨_,.cells cs _ _⟩=>cM lh k ⟨g,.cells cs cs.length false⟩|_=>lh
 |_=>lh
theorem O1{fr:Fr}{lh bp:aQ aB}{sh:List aB}{v:T}(h:bp=lh):(St.mk fr lh sh).ups (Rp bp v)=⟨fr,Z3 lh v,sh⟩:=by
 subst h
 cases v with
 |isl sp k g off len sz=>
  cases sp with
  |S=>rfl
  |L=>
   unfold Rp Z3
   simp only
   generalize aq bp k=e
   obtain⟨g',ob⟩:=e
   cases ob <;> rfl
 |_=>rfl
theorem KY{lh:aQ aB}{v:T}{k sz n:Nat}{cs:List T}(h:be lh v k sz n cs){j:Nat}(hj:j≠k):aq (Z3 lh v) j=aq lh j:=by
 rcases h with⟨_,rfl,_⟩|⟨g,wm,rfl,h2,_,_⟩
 ·rfl
 ·unfold Z3
  simp only[h2]
  exact aO _ _ hj
def lV(lh:aQ aB):T→List T
 | .isl .L k _ _ _ _=>Dc lh k
 |_=> []
theorem BA{lh:aQ aB}{k g wm q n:Nat}{bx:Bool}{c0 c1 c2:T}{P:List T→Prop}(h: ∃v,aq lh k=⟨g,.cells [c0,c1,c2,v] wm bx⟩∧ ∃ce,be lh v q 4 n ce∧P ce):
  aq lh k=⟨g,.cells [c0,c1,c2,dr lh k 3] wm bx⟩∧be lh (dr lh k 3) q 4 n (lV lh (dr lh k 3))∧P (lV lh (dr lh k 3)):=by
 obtain⟨v,h1,ce,h2,h3⟩:=h
 have e:dr lh k 3=v:=by rw[lB h1];rfl
 have e2:lV lh v=ce:=by
  rcases h2 with⟨_,rfl,rfl⟩|⟨g',Ec,rfl,h5,_,_⟩
  ·rfl
  ·unfold lV;exact yJ h5
 rw[e,e2]
 exact⟨h1,h2,h3⟩
section
variable(l:Cs)(lT vT:T)(cl:List T)(hl:aR lT l.length cl)(eA:dK l cl)(hlen:l.length≤eG)(gb:E0 l)(hv:aR vT l.length (ints (oj l l.length)))
def KZ(scope:Int)(y:Ex):Prop:= ∀k cs,bE y cs→y.nodes≤200→y.depth≤16→y.sm→y.wf=true→y.ty (xB l) scope=(k,0)→ ∃qB,ai pE 57 [vT,lT,.i .i64 scope,.agg cs] []=some (.agg qB,[])∧bE (cC l scope y) qB
include hl hv
theorem Ud(scope:Int)(xs:List Ex)(ih: ∀y∈xs,KZ l lT vT scope y)(a:T)(cc:List T)(ha:aR a xs.length cc)(hx:aK xs cc)(hn:a6 xs≤200)(hd:fC xs≤16)(hs:KS xs)(gK:gT xs=true)(ts:List Int)(cN:gS (xB l) scope xs= .ok ts)(op num:Int)(s:List Nat)(k14:T)(g zF:Nat)(c8:aB)(fr:Fr)(lh:aQ aB)(sh:List aB)
  (h0:ak fr 0=vT) (h1:ak fr 1=lT) (h2:ak fr 2= .i .i64 scope) (h7:ak fr 7= .ptr .L 7 g 0) (h8:ak fr 8= .ptr .L 8 1 0) (fj:ak fr 14=k14) (rA:ak fr 16= .ptr .L 16 zF 0) (sY:ak fr 17= .nilsl) (se:ak fr 18= .i .i64 0) (o7:aq lh 7=⟨g,.cells [.i .i64 op,.i .i64 num,.s s,a] 0 true⟩) (o8:aq lh 8=c8) (sZ:aq lh 16=⟨zF,.cells [.i .i64 op,.i .i64 0,.s [],.nilsl] 0 true⟩):
  DC pE 118 (.loop gG) ⟨fr,lh,sh⟩=some (.ext 0,⟨cz pE 118 gG fr lh sh,bK pE 118 gG fr lh sh,cw pE 118 gG fr lh sh⟩)∧
  (aq (bK pE 118 gG fr lh sh) 8=c8∧be (bK pE 118 gG fr lh sh) (ak (cz pE 118 gG fr lh sh) 17) 103 1 (fR (bJ l scope xs)).length (ints (fR (bJ l scope xs)))∧
    (∃v1,aq (bK pE 118 gG fr lh sh) 16=⟨zF,.cells [.i .i64 op,.i .i64 0,.s [],v1] 0 true⟩∧ ∃ce,be (bK pE 118 gG fr lh sh) v1 92 4 xs.length ce∧aK (bJ l scope xs) ce)∧cw pE 118 gG fr lh sh=sh):=by
 refine aD (P:=fun cO bp br=>aq bp 8=c8∧be bp (ak cO 17) 103 1 (fR (bJ l scope xs)).length (ints (fR (bJ l scope xs)))∧
   (∃v1,aq bp 16=⟨zF,.cells [.i .i64 op,.i .i64 0,.s [],v1] 0 true⟩∧ ∃ce,be bp v1 92 4 xs.length ce∧aK (bJ l scope xs) ce)∧br=sh)
  (aI (fun k st=> ∃(fr:Fr) (aX:aQ aB) (v1:T) (ce:List T),st=⟨fr,aX,sh⟩∧ak fr 0=vT∧ak fr 1=lT∧ak fr 2= .i .i64 scope∧ak fr 7= .ptr .L 7 g 0∧ak fr 16= .ptr .L 16 zF 0∧ak fr 18= .i .i64 (k:Int)∧aq aX 7=⟨g,.cells [.i .i64 op,.i .i64 num,.s s,a] 0 true⟩∧aq aX 8=c8∧aq aX 16=⟨zF,.cells [.i .i64 op,.i .i64 0,.s [],v1] 0 true⟩∧
    be aX v1 92 4 k ce∧aK (bJ l scope (xs.take k)) ce∧be aX (ak fr 17) 103 1 (fR (bJ l scope (xs.take k))).length (ints (fR (bJ l scope (xs.take k))))) _ xs.length ?_ ?_ 0 _ (Nat.zero_le _) ⟨fr,lh,.nilsl,[],rfl,h0,h1,h2,h7,rA,se,o7,o8,sZ,be.nil,aK.nil,by rw[sY];exact be.nil⟩)
 ·rintro k _ nN ⟨fr,aX,v1,ce,rfl,h0,h1,h2,h7,rA,se,o7,o8,sZ,B4,pk,zG⟩
  left
  have bt:(k:Int)<xs.length:=by omega
  have qK:=bX xs
  have Rw:=cT (List.getElem_mem nN)
  have hdk:=vi (List.getElem_mem nN)
  have hw:=aJ (k:=k) (cm (by omega))
  obtain⟨b,cb,rr,bh,cH,nA,hb⟩:=dm ha hx k nN
  obtain⟨t,ht⟩:=tO cN k nN
  obtain⟨cf,az,pW⟩:=ih xs[k] (List.getElem_mem nN) t _ hb (by omega) (by omega) (oS.1 hs _ (List.getElem_mem nN)) (jg.1 gK _ (List.getElem_mem nN)) ht
  have Z4:=Br l scope xs[k] (jg.1 gK _ (List.getElem_mem nN)) ht
  have vt:=O2 (cC l scope xs[k]) cf pW (E1 Z4.1).1 (E1 Z4.1).2
  have rv:bJ l scope (xs.take (k+1))=bJ l scope (xs.take k)++ [cC l scope xs[k]]:=by
   rw[List.take_succ_eq_append_getElem nN,nh,List.map_append,←nh];rfl
  rw[rv,G5]
  have zB:=KX (bJ l scope (xs.take k))
  rw[iT,List.length_take]at zB
  generalize cC l scope xs[k]=y at*
  obtain⟨fa,fc,rfl,fD,yT⟩:=pW.cells
  generalize hG:(aq aX 19).g+1=G
  generalize hH:cM (cM aX 19 ⟨G,.cells [.i .i64 0,.i .i64 0,.s [],.nilsl] 0 true⟩) 19 ⟨G,.cells [.i .i64 y.op,.i .i64 y.num,.s y.name,fa] 0 true⟩=mI
  have e7:aq mI 7=⟨g,.cells [.i .i64 op,.i .i64 num,.s s,a] 0 true⟩:=by rw[←hH,aO _ _ (by decide),aO _ _ (by decide),o7]
  have e8:aq mI 8=c8:=by rw[←hH,aO _ _ (by decide),aO _ _ (by decide),o8]
  have e16:aq mI 16=⟨zF,.cells [.i .i64 op,.i .i64 0,.s [],v1] 0 true⟩:=by rw[←hH,aO _ _ (by decide),aO _ _ (by decide),sZ]
  have e19:aq mI 19=⟨G,.cells [.i .i64 y.op,.i .i64 y.num,.s y.name,fa] 0 true⟩:=by rw[←hH,bV]
  have hP1:=B4.congr (bp:=mI) (by rw[←hH,aO _ _ (by decide),aO _ _ (by decide)])
  have hP2:=zG.congr (bp:=mI) (by rw[←hH,aO _ _ (by decide),aO _ _ (by decide)])
  have kP:=O0 hP1 (cm (by omega)) (sh:=sh) (T.i .i64 y.op) (T.i .i64 y.num) (T.s y.name) fa true
  generalize hN1:pA mI sh 92 4 56 v1 (.sl [T.i .i64 y.op,T.i .i64 y.num,T.s y.name,fa] 1 true)=rf at kP
  generalize hV1:vS mI sh 92 4 56 v1 (.sl [T.i .i64 y.op,T.i .i64 y.num,T.s y.name,fa] 1 true)=Z5 at kP
  obtain⟨YF,K0,K1⟩:=kP
  have f16:aq rf 16=⟨zF,.cells [.i .i64 op,.i .i64 0,.s [],v1] 0 true⟩:=by rw[K1 16 (by decide),e16]
  have f19:aq rf 19=⟨G,.cells [.i .i64 y.op,.i .i64 y.num,.s y.name,fa] 0 true⟩:=by rw[K1 19 (by decide),e19]
  generalize RE:cM rf 16 ⟨zF,.cells [.i .i64 op,.i .i64 0,.s [],Z5] 0 true⟩=Vc
  have i7:aq Vc 7=⟨g,.cells [.i .i64 op,.i .i64 num,.s s,a] 0 true⟩:=by rw[←RE,aO _ _ (by decide),K1 7 (by decide),e7]
  have i8:aq Vc 8=c8:=by rw[←RE,aO _ _ (by decide),K1 8 (by decide),e8]
  have i16:aq Vc 16=⟨zF,.cells [.i .i64 op,.i .i64 0,.s [],Z5] 0 true⟩:=by rw[←RE,bV]
  have i19:aq Vc 19=⟨G,.cells [.i .i64 y.op,.i .i64 y.num,.s y.name,fa] 0 true⟩:=by rw[←RE,aO _ _ (by decide),f19]
  have hQ1:=K0.congr (bp:=Vc) (by rw[←RE,aO _ _ (by decide)])
  have Z6:=hP2.congr (bp:=Vc) (by rw[←RE,aO _ _ (by decide),K1 103 (by decide)])
  have YG:=aK.append pk (aK.one pW)
  generalize sY:ak fr 17=v17 at zG hP2 Z6
  cases hly:isLit y with
  |true=>
   rw[hly,if_pos rfl]at vt
   generalize kZ y=q at vt ⊢
   have vZ:=iB Z6 (cm (by omega)) (sh:=sh) (T.i .i64 q) true
   simp(maxDischargeDepth:=6) only[qF,ae,ah,aa,aj,ab,an,dq,dw,splice,aH,repl,Nat.reduceAdd,reduceCtorEq,Nat.reduceLT,Nat.reduceLeDiff,Nat.reduceEqDiff,gG,h0,h1,h2,h7,rA,sY,se,o7,ha.lenI,bt,bh,hw,az,L8,cH.froz1,hv.froz,hl.froz,fD.froz1,hG,hH,e16,e19,hP1.notS,YF,K0.cells,K0.noTup,f16,RE,i19,vt,PO,Z6.notS,vZ.1]
   refine⟨_,rfl,_,_,Z5,_,rfl, ?_, ?_, ?_, ?_, ?_, ?_, ?_, ?_, ?_, ?_,YG, ?_⟩
   all_goals first|(simp(maxDischargeDepth:=6) only[aa,ab,reduceCtorEq,Nat.reduceEqDiff,h0,h1,h2,h7,rA];done)|skip
   ·rw[vZ.2.2 7 (by decide),i7]
   ·rw[vZ.2.2 8 (by decide),i8]
   ·rw[vZ.2.2 16 (by decide),i16]
   ·exact hQ1.congr (vZ.2.2 92 (by decide))
   ·simp(maxDischargeDepth:=6) only[aa,ab,Nat.reduceEqDiff]
    rw[List.length_append,my]
    exact vZ.2.1
  |false=>
   rw[hly]at vt
   simp(maxDischargeDepth:=6) only[qF,ae,ah,aa,aj,ab,an,dq,dw,splice,aH,repl,Nat.reduceAdd,reduceCtorEq,Nat.reduceLT,Nat.reduceLeDiff,Nat.reduceEqDiff,gG,h0,h1,h2,h7,rA,sY,se,o7,ha.lenI,bt,bh,hw,az,L8,cH.froz1,hv.froz,hl.froz,fD.froz1,hG,hH,e16,e19,hP1.notS,YF,K0.cells,K0.noTup,f16,RE,i19,vt,PO]
   refine⟨_,rfl,_,_,Z5,_,rfl, ?_, ?_, ?_, ?_, ?_, ?_,i7,i8,i16,hQ1,YG, ?_⟩
   all_goals first|(simp(maxDischargeDepth:=6) only[aa,ab,reduceCtorEq,Nat.reduceEqDiff,h0,h1,h2,h7,rA];done)|skip
   simp(maxDischargeDepth:=6) only[aa,ab,Nat.reduceEqDiff,sY]
   exact Z6
 ·rintro _ ⟨fr,aX,v1,ce,rfl,h0,h1,h2,h7,rA,se,o7,o8,sZ,B4,pk,zG⟩
  rw[List.take_length]at zG pk
  simp(maxDischargeDepth:=6) only[ae,ah,aa,aj,ab,an,Nat.reduceLT,Nat.reduceEqDiff,gG,h7,se,o7,ha.lenI,Int.lt_irrefl]
  refine⟨_,_,(by simp:Out.ext 0≠ .nrm),rfl,rfl,o8, ?_,⟨v1,sZ,ce,B4,pk⟩,rfl⟩
  simp(maxDischargeDepth:=6) only[aa,ab,Nat.reduceEqDiff]
  exact zG
include eA hlen gb
theorem K2(scope:Int)(x:Ex):KZ l lT vT scope x:=by
 induction x using Ex.ind with
 |h x ih=>
  intro k cs hx hn hd hs gK ht
  obtain⟨a,cc,rfl,ha,mH⟩:=hx.cells
  obtain⟨h1,h2,bo,gJ,jT,lD⟩:=fk gK
  have nO:=x.nodes_eq
  have hdd:=x.depth_eq
  rw[aG Sj (by simp[L4])]
  by_cases h6:x.op=6
  ·have ga:=qX scope x.name
   unfold lC at ga
   rw[Ex.ty_eq,if_pos h6]at ht
   by_cases hz:dI scope x.name=0
   ·rw[if_neg (by simp[hz])]at ht
    rw[if_pos hz,hz]at ga
    obtain⟨i,nG,wC,hvv,hti,_,_,j1,tq,ZT⟩:=sV ht
    have L0:=yY l x.name lT cl hl eA hlen
    rw[kg wC]at L0
    obtain⟨b,cb,r,bh,cH,nA,hb⟩:=dL hl eA i nG
    obtain⟨ex,rfl,wV,B1,y6⟩:=yZ l lT cl nG hl eA
    obtain⟨xF,sd⟩:=gb l[i] (List.getElem_mem nG)
    have lU:i≤l.length:=by omega
    have eo:(l.take i).length=i:=by rw[List.length_take,Nat.min_eq_left lU]
    have cN:=mz (l.take i) (.sl (List.take (i*5) cl) i (ex&&decide (i=l.length))) (cl.take (i*5)) (by rw[eo];exact wV) B1 (by rw[eo];omega) (vC l gb i) 0 l[i].2 _ hb xF sd
    rw[pR l lU,←tN l nG,tq]at cN
    have e1:=fun kk=>iU (ts:=oj l l.length) (by rw[gE];exact hv) (k:=i) (by rw[gE];exact nG) kk
    have e2:vV l x.name=(oj l l.length)[i]'(by rw[gE];exact nG):=by
     rw[ZT];simp[List.getD_eq_getElem?_getD,List.getElem?_eq_getElem (show i<(oj l l.length).length by rw[gE];exact nG)]
    have kN:cC l scope x=fo k (vV l x.name):=by
     unfold cC
     rw[Ex.fold_eq,if_pos h6,if_neg (by simp[hz])];unfold GX;rw[ht]
    obtain⟨c1,vt,ni⟩:=E2 k (vV l x.name) (vq j1) (fun h4=>by rw[h4]at j1;exact rh j1)
    rw[kN]
    rw[←e2]at e1
    generalize vV l x.name=w at*
    generalize fo k w=y at*
    obtain⟨ca,RB,rfl,kF,nz⟩:=ni.cells
    simp only at cN
    simp(maxDischargeDepth:=6) only[qF,ae,ah,aa,aj,ab,an,wv,uZ,splice,bH,Nat.reduceAdd,reduceCtorEq,Nat.reduceLT,Nat.reduceLeDiff,Nat.reduceEqDiff,Int.reduceEq,cq,L4,h6,ga,uj,L0,DT,hl.froz,bh,lU,y6,Nat.sub_zero,cN,rF,Il,cH.froz1,e1,vt,PM,kF.froz1]
    exact⟨_,rfl,ni⟩
   ·rw[if_neg hz]at ga
    have kN:cC l scope x=x:=by
     unfold cC
     rw[Ex.fold_eq,if_pos h6,if_pos hz]
    rw[kN]
    rw[h6]at hx
    simp(maxDischargeDepth:=6) only[qF,ae,ah,aa,aj,ab,an,splice,Nat.reduceAdd,reduceCtorEq,Nat.reduceLT,Nat.reduceEqDiff,L4,h6,ga,uj,ha.froz1]
    exact⟨_,rfl,hx⟩
  ·by_cases jU:x.args.length=0
   ·have kN:cC l scope x=x:=by
     unfold cC
     rw[Ex.fold_eq,if_neg h6,if_pos (by simp[List.length_eq_zero_iff.1 jU])]
    rw[kN]
    have uH:=ha.lenI
    rw[jU]at uH
    simp(maxDischargeDepth:=6) only[qF,ae,ah,aa,aj,ab,an,splice,Nat.reduceAdd,reduceCtorEq,Nat.reduceLT,Nat.reduceEqDiff,L4,h6,uH,ha.froz1]
    exact⟨_,rfl,hx⟩
   ·obtain⟨ts,je,hr,hk⟩:=ng ht h6
    have h7:=yW h1 bo jU
    have zB:=bX x.args
    have tu:x.args.length≤eG:=cm (by omega)
    have Z0:=((Ex.sm_eq x).1 hs).2
    have cN:=mz l lT cl hl eA hlen gb scope x _ hx (by omega) hs
    have htS:cV l scope x=(k,0):=by
     unfold cV
     rw[if_neg (by simp[G2 gK hn hd])];exact ht
    rw[htS]at cN
    have OU: ¬(x.args.length:Int)=0:=by omega
    have pB:xA scope ts (bJ l scope x.args):=sa (Dl (vw l)) scope lD je
    have CJ:=iT l scope x.args
    have kN:cC l scope x=if(bJ l scope x.args).all isLit then fo k (ry x.op ((bJ l scope x.args).map kZ))else pg x.op (bJ l scope x.args):=by
     unfold cC
     rw[Ex.fold_eq,if_neg h6,if_neg (by simp;intro h;rw[h]at jU;exact jU rfl),ht]
     rfl
    rw[kN]
    have vY:=fun fr lh sh h0 h1 h2 h7 h8 fj rA sY se o7 o8 sZ=>Ud l lT vT cl hl hv scope x.args (fun y hy=>ih y hy) a cc ha mH (by omega) (by omega) Z0 lD ts je x.op x.num x.name (.i .i64 k) 1 1 ⟨1,.cells [.i .i64 0,.i .i64 0,.s [],.nilsl] 0 true⟩ fr lh sh h0 h1 h2 h7 h8 fj rA sY se o7 o8 sZ
    have hL:=fun fr lh sh h0 h1 h2 h7 h8 fj rA sY se o7 o8 sZ=>And.intro (vY fr lh sh h0 h1 h2 h7 h8 fj rA sY se o7 o8 sZ).1 (And.intro (vY fr lh sh h0 h1 h2 h7 h8 fj rA sY se o7 o8 sZ).2.1 (And.intro (BA (vY fr lh sh h0 h1 h2 h7 h8 fj rA sY se o7 o8 sZ).2.2.2.1).1 (vY fr lh sh h0 h1 h2 h7 h8 fj rA sY se o7 o8 sZ).2.2.2.2))
    have hV:=fun fr lh sh h0 h1 h2 h7 h8 fj rA sY se o7 o8 sZ=>(vY fr lh sh h0 h1 h2 h7 h8 fj rA sY se o7 o8 sZ).2.2.1
    have hA:=fun fr lh sh h0 h1 h2 h7 h8 fj rA sY se o7 o8 sZ=>(BA (vY fr lh sh h0 h1 h2 h7 h8 fj rA sY se o7 o8 sZ).2.2.2.1).2
    have K3:=fun fr lh sh h0 h1 h2 h7 h8 fj rA sY se o7 o8 sZ=>(hV fr lh sh h0 h1 h2 h7 h8 fj rA sY se o7 o8 sZ).lenI
    have RF:=fun fr lh sh h0 h1 h2 h7 h8 fj rA sY se o7 o8 sZ=>(hA fr lh sh h0 h1 h2 h7 h8 fj rA sY se o7 o8 sZ).1.lenI
    cases bl:(bJ l scope x.args).all isLit with
    |true=>
     rw[if_pos rfl]
     have SU:=G6 bl
     have j1:=(lits pB bl).1
     have rz:=Bl j1 h7 h2 (by rw[pB.len,CJ];exact bo) hr hk
     have mh:(fR (bJ l scope x.args)).length=x.args.length:=by rw[xG.2 bl,CJ]
     rw[←SU]at rz ⊢
     have Dq:=xE x.op 0 (fR (bJ l scope x.args)) (kY x.args.length (ints (fR (bJ l scope x.args)))) (by rw[mh];exact jr (fun h0=>absurd h0 jU)) (by rw[mh];exact tu) h7 h2 (by rw[mh];exact bo) rz.1
     obtain⟨c1,vt,ni⟩:=E2 k (ry x.op (fR (bJ l scope x.args))) (vq rz.2) (fun h4=>by have:=rz.2;rw[h4]at this;exact rh this)
     have pU:=fun keep br fr lh sh h0 h1 h2 h7 h8 fj rA sY se o7 o8 sZ=>be.fzV (keep:=keep) (sh:=br) (hV fr lh sh h0 h1 h2 h7 h8 fj rA sY se o7 o8 sZ)
     rw[mh]at K3 pU
     generalize ry x.op (fR (bJ l scope x.args))=w at*
     generalize fo k w=y at*
     obtain⟨ca,RB,rfl,kF,nz⟩:=ni.cells
     simp(maxDischargeDepth:=6) only[qF,ae,ah,aa,aj,ab,an,Nat.reduceShiftRight,Nat.reduceMod,aF,splice,aH,Nat.reduceAdd,reduceCtorEq,Nat.reduceLT,Nat.reduceLeDiff,Nat.reduceEqDiff,L4,tY,h6,ha.lenI,OU,cN,rF,hl.froz,ha.froz1,hL,K3,RF,pU,Dq,Iu,vt,PM,kF.froz1,GK]
     exact⟨_,rfl,ni⟩
    |false=>
     rw[if_neg (by simp)]
     have mh: ¬((fR (bJ l scope x.args)).length:Int)=(x.args.length:Int):=by
      intro h
      have h':(fR (bJ l scope x.args)).length=(bJ l scope x.args).length:=by rw[CJ];omega
      rw[xG.1 h']at bl;cases bl
     have pU:=fun m keep br fr lh sh h0 h1 h2 h7 h8 fj rA sY se o7 o8 sZ=>be.fzW (m:=m) (keep:=keep) (sh:=br) (hA fr lh sh h0 h1 h2 h7 h8 fj rA sY se o7 o8 sZ).1
     simp(maxDischargeDepth:=6) only[qF,ae,ah,aa,aj,ab,an,Nat.reduceShiftRight,Nat.reduceMod,aF,splice,aH,Nat.reduceAdd,reduceCtorEq,Nat.reduceLT,Nat.reduceLeDiff,Nat.reduceEqDiff,L4,tY,h6,ha.lenI,OU,cN,rF,hl.froz,ha.froz1,hL,K3,RF,mh,pU,Wa]
     generalize hX:lV _ _=X
     have Ub:aK (bJ l scope x.args) X:=by
      rw[←hX]
      refine(hA _ _ _ ?_ ?_ ?_ ?_ ?_ ?_ ?_ ?_ ?_ ?_ ?_ ?_).2 <;> simp(maxDischargeDepth:=6) only[aa,ab,reduceCtorEq,Nat.reduceEqDiff]
     have hgz:=fun j hj fr lh sh h0 h1 h2 h7 h8 fj rA sY se o7 o8 sZ=>KY (j:=j) (hA fr lh sh h0 h1 h2 h7 h8 fj rA sY se o7 o8 sZ).1 hj
     obtain⟨c1,az,ni⟩:=OV pB.wf h7 h2 (by rw[CJ];exact bo) (kY x.args.length X) X (by rw[CJ];exact jr (fun h0=>absurd h0 jU)) Ub
     generalize pg x.op (bJ l scope x.args)=y at*
     obtain⟨ca,RB,rfl,kF,nz⟩:=ni.cells
     simp(maxDischargeDepth:=6) only[qF,ae,ah,aa,aj,ab,an,Nat.reduceShiftRight,Nat.reduceMod,splice,Nat.reduceAdd,reduceCtorEq,Nat.reduceEqDiff,tY,hL,az,O1,hgz,kF.froz1,GK]
     exact⟨_,rfl,ni⟩
end
end Go.Proofs.YtfenhjpkomldcaaGreat
namespace Go.Proofs.YtfenhjpkomldcaaGreat
open Go Go.Ev
def YH(r:Option (T×List aB)):Bool:=match r with|some (.vp cs,_)=>froz (.vp cs)|_=>false
theorem YI:YH (Jn pE 60 53 [.nilsl] [])=true:=by kernel_rfl
theorem YJ: ∃cs s,ai pE 53 [.nilsl] []=some (.vp cs,s)∧froz (.vp cs)=true:=by
 have h:=YI
 unfold YH at h
 split at h
 ·rename_i cs s e
  exact⟨cs,s,cd (bZ e),h⟩
 ·cases h
def eH(l:Cs)(scope:Int)(x:Ex):Ex×Int:=if(cV l scope x).2≠0 then(bN 0 0,(cV l scope x).2)else if aW (cC l scope x)≠0 then(bN 0 0,10)else(cC l scope x,0)
theorem YK(lT kT:T):qY lT kT []= [⟨1,.map [] [] false⟩,⟨1,.cells [lT,.mp .S 0 1,kT] 0 true⟩]:=rfl
theorem tP{l:Cs}{scope:Int}{x:Ex}(h:(cV l scope x).2=0):aW x=0∧x.ty (xB l) scope=((cV l scope x).1,0):=by
 unfold cV at h ⊢
 by_cases hv:aW x≠0
 ·rw[if_pos hv]at h;exact absurd h hv
 ·rw[if_neg hv]at h ⊢
  exact⟨by simpa using hv,Prod.ext rfl h⟩
theorem sf{l:Cs}{scope:Int}{x:Ex}(h:(cV l scope x).2=0)(hs:x.sm):FK scope (cV l scope x).1 (cC l scope x)∧(cC l scope x).nodes≤400∧(cC l scope x).sm∧(aW (cC l scope x)=0∨aW (cC l scope x)=10):=by
 obtain⟨hv,ht⟩:=tP h
 have hk:=Br l scope x (jt hv) ht
 have hn:=sW l scope x
 have hz:=(kO hv).1
 refine⟨hk,by omega,KT l scope x hs, ?_⟩
 unfold aW
 by_cases hb:vD (cC l scope x)
 ·rw[if_pos hb];exact .inr rfl
 ·rw[if_neg hb,if_pos hk.1];exact .inl rfl
section
variable(l:Cs)(lT:T)(cl:List T)(hl:aR lT l.length cl)(eA:dK l cl)(hlen:l.length≤eG)(gb:E0 l)
include hl eA hlen gb
theorem y8(scope:Int)(x:Ex)(cs:List T)(hx:bE x cs)(hn:0≤x.nodes)(hs:x.sm): ∃c1 s,ai pE 16 [lT,.i .i64 scope,.agg cs] []=some (.tup [.agg c1,.i .i64 (eH l scope x).2],s)∧bE (eH l scope x).1 c1:=by
 obtain⟨s0,cN⟩:=K4 l lT cl hl eA hlen gb scope x cs hx hn hs
 rw[aG VE (by simp[RW])]
 unfold eH
 obtain⟨a,cc,rfl,ha,mH⟩:=hx.cells
 by_cases h0:(cV l scope x).2=0
 ·rw[if_neg (by simp[h0])]
  obtain⟨hv,ht⟩:=tP h0
  obtain⟨Z4,uM,RD,dD⟩:=sf h0 hs
  obtain⟨kc,s1,hnc,hkf⟩:=YJ
  rw[←Dm]at ht
  obtain⟨c1,m',az,ni,_,_,_⟩:=EY l lT (.vp kc) hkf l.length (Nat.le_refl _) (OZ l lT (.vp kc) cl hl eA hlen gb hkf) scope x _ [] _ (fun s cs h=>by cases h) hx (kO hv).1 (jt hv) ht
  rw[YK]at az
  have mA:=fun z fr lh sh=>kh (z:=z) (fr:=fr) (lh:=lh) (sh:=sh) (cC l scope x) c1 ni (by omega) RD
  rw[h0]at cN
  generalize (cV l scope x).1=k at cN
  generalize hy:cC l scope x=y at*
  obtain⟨ca,cb,rfl,kF,nz⟩:=ni.cells
  have sy:=fun lh=>TO (lh:=lh) (sh:= [⟨1,.map [] [] false⟩,⟨1,.cells [.nilsl,.nilmp,.nilptr] 0 true⟩]) (k:=1) (g:=1) (g':=1) (off:=0) (m:=3) (wm:=0) (v:= .agg [lT,.mp .S 0 1,.vp kc]) (by simp[A1,hl.kept1,A3,A2]) rfl
  rcases dD with dD|dD
  ·rw[if_neg (by simp[dD])]
   rw[dD]at mA
   simp(maxDischargeDepth:=6) only[qF,ae,ah,aa,aj,ab,an,aF,splice,aH,Nat.reduceAdd,reduceCtorEq,Nat.reduceLT,Nat.reduceLeDiff,Nat.reduceEqDiff,Int.reduceEq,yM,fW,RW,cN,Sg,hl.froz,hl.cells,hl.noTup,ha.froz1,ha.kept1,hnc,VK,az,L7,kF.froz1,mA,sy]
   exact⟨_,_,rfl,ni⟩
  ·rw[if_pos (by simp[dD])]
   rw[dD]at mA
   simp(maxDischargeDepth:=6) only[qF,ae,ah,aa,aj,ab,an,aF,splice,aH,Nat.reduceAdd,reduceCtorEq,Nat.reduceLT,Nat.reduceLeDiff,Nat.reduceEqDiff,yM,fW,RW,cN,Sg,hl.froz,hl.cells,hl.noTup,ha.froz1,ha.kept1,hnc,VK,az,L7,mA,sy]
   exact⟨_,_,rfl,cE _ _ _ cp⟩
 ·rw[if_pos h0]
  generalize (cV l scope x).1=k at cN
  generalize (cV l scope x).2=e at*
  simp(maxDischargeDepth:=6) only[qF,ae,ah,aa,aj,ab,an,aF,splice,aH,Nat.reduceAdd,reduceCtorEq,Nat.reduceLT,Nat.reduceEqDiff,RW,cN,Sg,hl.froz,ha.froz1,h0]
  exact⟨_,_,rfl,cE _ _ _ cp⟩
theorem y9(scope:Int)(x:Ex)(cs:List T)(hx:bE x cs)(hn:0≤x.nodes)(hs:x.sm): ∃c1,ai pE 18 [lT,.i .i64 scope,.agg cs] []=some (.tup [.agg c1,.i .i64 (eH l scope x).2],[])∧bE (eH l scope x).1 c1:=by
 have cN:=mz l lT cl hl eA hlen gb scope x cs hx hn hs
 rw[aG Sc (by simp[RX])]
 unfold eH
 obtain⟨a,cc,rfl,ha,mH⟩:=hx.cells
 by_cases h0:(cV l scope x).2=0
 ·rw[if_neg (by simp[h0])]
  obtain⟨hv,ht⟩:=tP h0
  obtain⟨Z4,uM,RD,dD⟩:=sf h0 hs
  have pJ:=G0 l lT cl hl eA hlen gb
  have hO:aR (kY l.length (ints (oj l l.length))) l.length (ints (oj l l.length)):=jr fun h0=>by rw[h0];rfl
  obtain⟨c1,az,ni⟩:=K2 l lT (kY l.length (ints (oj l l.length))) cl hl eA hlen gb hO scope x _ _ hx (kO hv).1 (kO hv).2 hs (jt hv) ht
  have mA:=iW (cC l scope x) c1 ni RD
  rw[h0]at cN
  generalize (cV l scope x).1=k at cN
  generalize hy:cC l scope x=y at*
  obtain⟨ca,cb,rfl,kF,nz⟩:=ni.cells
  rcases dD with dD|dD
  ·rw[if_neg (by simp[dD])]
   rw[dD]at mA
   simp(maxDischargeDepth:=6) only[qF,ae,ah,aa,aj,ab,an,aF,splice,aH,Nat.reduceAdd,reduceCtorEq,Nat.reduceLT,Nat.reduceEqDiff,cq,iw,aZ,RX,cN,rF,hl.froz,ha.froz1,pJ,VN,VO,az,L8,VM,hO.froz,kF.froz1,mA,qe]
   exact⟨_,rfl,ni⟩
  ·rw[if_pos (by simp[dD])]
   rw[dD]at mA
   simp(maxDischargeDepth:=6) only[qF,ae,ah,aa,aj,ab,an,aF,splice,aH,Nat.reduceAdd,reduceCtorEq,Nat.reduceLT,Nat.reduceEqDiff,Int.reduceEq,cq,iw,aZ,RX,cN,rF,hl.froz,ha.froz1,pJ,VN,VO,az,L8,VM,hO.froz,kF.froz1,mA,qe]
   exact⟨_,rfl,cE _ _ _ cp⟩
 ·rw[if_pos h0]
  generalize (cV l scope x).1=k at cN
  generalize (cV l scope x).2=e at*
  simp(maxDischargeDepth:=6) only[qF,ae,ah,aa,aj,ab,an,aF,splice,aH,Nat.reduceAdd,reduceCtorEq,Nat.reduceLT,Nat.reduceEqDiff,RX,cN,rF,hl.froz,ha.froz1,h0]
  exact⟨_,rfl,cE _ _ _ cp⟩
end
theorem K5: ∃s,ai pE 20 [] []=some (.b true,s):=OA (m:=100) (v:= .b true) (by rw[←Jo];kernel_rfl)
end Go.Proofs.YtfenhjpkomldcaaGreat
