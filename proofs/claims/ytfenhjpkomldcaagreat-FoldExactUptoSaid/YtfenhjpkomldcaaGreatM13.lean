/- The reference's simplified form. Both Simplify. Conditions: the theorems' own. -/
import Derived.Test.YtfenhjpkomldcaaGreatM12
import Derived.KernelRfl
set_option maxRecDepth 100000
set_option linter.unusedSimpArgs false
set_option linter.unusedVariables false
set_option maxHeartbeats 16000000
namespace Go.Proofs.YtfenhjpkomldcaaGreat
open Go Go.Ev
theorem Lw{lh:aQ aA}{sh:List aA}{v:T}{k n:Nat}{cs:List T}(h:bG lh v k 4 n cs)(hn:n≤gi)(c0 c1 c2 c3:T)(ex:Bool):
  appW lh sh k 4 56 v (.sl [c0,c1,c2,c3] 1 ex)=some (Dv lh sh k 4 56 v (.sl [c0,c1,c2,c3] 1 ex),sN lh sh k 4 56 v (.sl [c0,c1,c2,c3] 1 ex))∧bG (sN lh sh k 4 56 v (.sl [c0,c1,c2,c3] 1 ex)) (Dv lh sh k 4 56 v (.sl [c0,c1,c2,c3] 1 ex)) k 4 (n+1) (cs++ [c0,c1,c2,c3])∧ ∀j,j≠k→aE (sN lh sh k 4 56 v (.sl [c0,c1,c2,c3] 1 ex)) j=aE lh j:=
 bG.appW h (m:=0) (by rw[zO];rfl) rfl (by unfold roomy;unfold gi at hn;omega)
theorem U0{x:Ex}(h:x.wf=true):bd x.num:=by
 obtain⟨_,_,_,gr,_⟩:=er h
 unfold ga at gr
 unfold bd
 split at gr
 ·omega
 ·split at gr <;> omega
theorem BX{x:Ex}(h:x.wf=true):(x.op=7→0<x.args.length)∧(x.op=7→bd (jq x).num):=by
 obtain⟨_,_,aX,_,_,jC⟩:=er h
 have h1:x.op=7→0<x.args.length:=fun e=>by rw[e]at aX;simp[aW]at aX;omega
 refine⟨h1,fun e=> ?_⟩
 have:=h1 e
 unfold jq
 generalize x.args=l at this jC
 cases l with
 |nil=>simp at this
 |cons y ys=>rw[fG,Bool.and_eq_true]at jC;exact U0 jC.1
def eW(ys:List Ex):List Int:=(ys.filter isLit).map jo
theorem DV(ys:List Ex)(y:Ex):eW (ys++ [y])=eW ys++(if isLit y then [jo y]else []):=by
 unfold eW
 rw[List.filter_append,List.map_append]
 cases h:isLit y <;> simp[h]
theorem HG(ys:List Ex):(eW ys).length≤ys.length:=by
 unfold eW;rw[List.length_map];exact List.length_filter_le _ _
theorem uj{ys:List Ex}:(eW ys).length=ys.length↔ys.all isLit=true:=by
 unfold eW;rw[List.length_map,List.length_filter_eq_length_iff,List.all_eq_true]
theorem DW{ys:List Ex}(h:ys.all isLit=true):eW ys=ys.map jo:=by
 unfold eW;rw[List.filter_eq_self.2 (List.all_eq_true.1 h)]
def Wd(lh:aQ aA):T→aQ aA
 | .isl .L k g _ _ _=>match aE lh k with|⟨_,.cells cs _ _⟩=>gh lh k ⟨g,.cells cs cs.length false⟩|_=>lh
 |_=>lh
theorem Lx{fr:Fr}{lh dj:aQ aA}{sh:List aA}{v:T}(h:dj=lh):(St.mk fr lh sh).ups (Hc dj v)=⟨fr,Wd lh v,sh⟩:=by
 subst h
 cases v with
 |isl sp k g off len sz=>
  cases sp with
  |S=>rfl
  |L=>
   unfold Hc Wd
   simp only
   generalize aE dj k=e
   obtain⟨g',ob⟩:=e
   cases ob <;> rfl
 |_=>rfl
theorem HH{lh:aQ aA}{v:T}{k sz n:Nat}{cs:List T}(h:bG lh v k sz n cs){j:Nat}(hj:j≠k):aE (Wd lh v) j=aE lh j:=by
 rcases h with⟨_,rfl,_⟩|⟨g,wm,rfl,h2,_,_⟩
 ·rfl
 ·unfold Wd
  simp only[h2]
  exact cK _ _ hj
def HI(lh:aQ aA):T→List T
 | .isl .L k _ _ _ _=>Ai lh k
 |_=> []
theorem yw{lh:aQ aA}{k g wm q n:Nat}{bx:Bool}{c0 c1 c2:T}{P:List T→Prop}(h: ∃v,aE lh k=⟨g,.cells [c0,c1,c2,v] wm bx⟩∧ ∃ce,bG lh v q 4 n ce∧P ce):
  aE lh k=⟨g,.cells [c0,c1,c2,rW lh k 3] wm bx⟩∧bG lh (rW lh k 3) q 4 n (HI lh (rW lh k 3))∧P (HI lh (rW lh k 3)):=by
 obtain⟨v,h1,ce,h2,h3⟩:=h
 have e:rW lh k 3=v:=by rw[vt h1];rfl
 have e2:HI lh v=ce:=by
  rcases h2 with⟨_,rfl,rfl⟩|⟨g',CF,rfl,h5,_,_⟩
  ·rfl
  ·unfold HI;exact BG h5
 rw[e,e2]
 exact⟨h1,h2,h3⟩
section
variable(l:Cs)(lT vT:T)(cl:List T)(hl:aN lT l.length cl)(dq:df l cl)(hlen:l.length≤gi)(j7:DQ l)(hv:aN vT l.length (ints (lO l l.length)))
def HJ(scope:Int)(y:Ex):Prop:= ∀k cs,bj y cs→y.nodes≤200→y.depth≤16→y.sm→y.wf=true→y.ty (ue l) scope=(k,0)→ ∃mw,aa pE 57 [vT,lT,.i .i64 scope,.agg cs] []=some (.agg mw,[])∧bj (bX l scope y) mw
include hl hv
theorem Qs(scope:Int)(xs:List Ex)(ih: ∀y∈xs,HJ l lT vT scope y)(a:T)(cc:List T)(ha:aN a xs.length cc)(hx:aL xs cc)(hn:aR xs≤200)(hd:eG xs≤16)(hs:Hz xs)(fy:fG xs=true)(ts:List Int)(dR:fE (ue l) scope xs= .ok ts)(op num:Int)(s:List Nat)(k14:T)(g IM:Nat)(c8:aA)(fr:Fr)(lh:aQ aA)(sh:List aA)
  (h0:an fr 0=vT) (h1:an fr 1=lT) (h2:an fr 2= .i .i64 scope) (h7:an fr 7= .ptr .L 7 g 0) (h8:an fr 8= .ptr .L 8 1 0) (ep:an fr 14=k14) (oI:an fr 16= .ptr .L 16 IM 0) (qb:an fr 17= .nilsl) (pt:an fr 18= .i .i64 0) (o7:aE lh 7=⟨g,.cells [.i .i64 op,.i .i64 num,.s s,a] 0 true⟩) (o8:aE lh 8=c8) (qc:aE lh 16=⟨IM,.cells [.i .i64 op,.i .i64 0,.s [],.nilsl] 0 true⟩):
  DC pE 118 (.loop fw) ⟨fr,lh,sh⟩=some (.ext 0,⟨ev pE 118 fw fr lh sh,eP pE 118 fw fr lh sh,eJ pE 118 fw fr lh sh⟩)∧
  (aE (eP pE 118 fw fr lh sh) 8=c8∧bG (eP pE 118 fw fr lh sh) (an (ev pE 118 fw fr lh sh) 17) 103 1 (eW (br l scope xs)).length (ints (eW (br l scope xs)))∧
    (∃v1,aE (eP pE 118 fw fr lh sh) 16=⟨IM,.cells [.i .i64 op,.i .i64 0,.s [],v1] 0 true⟩∧ ∃ce,bG (eP pE 118 fw fr lh sh) v1 92 4 xs.length ce∧aL (br l scope xs) ce)∧eJ pE 118 fw fr lh sh=sh):=by
 refine a6 (P:=fun g7 dj cq=>aE dj 8=c8∧bG dj (an g7 17) 103 1 (eW (br l scope xs)).length (ints (eW (br l scope xs)))∧
   (∃v1,aE dj 16=⟨IM,.cells [.i .i64 op,.i .i64 0,.s [],v1] 0 true⟩∧ ∃ce,bG dj v1 92 4 xs.length ce∧aL (br l scope xs) ce)∧cq=sh)
  (bt (fun k st=> ∃(fr:Fr) (dS:aQ aA) (v1:T) (ce:List T),st=⟨fr,dS,sh⟩∧an fr 0=vT∧an fr 1=lT∧an fr 2= .i .i64 scope∧an fr 7= .ptr .L 7 g 0∧an fr 16= .ptr .L 16 IM 0∧an fr 18= .i .i64 (k:Int)∧aE dS 7=⟨g,.cells [.i .i64 op,.i .i64 num,.s s,a] 0 true⟩∧aE dS 8=c8∧aE dS 16=⟨IM,.cells [.i .i64 op,.i .i64 0,.s [],v1] 0 true⟩∧
    bG dS v1 92 4 k ce∧aL (br l scope (xs.take k)) ce∧bG dS (an fr 17) 103 1 (eW (br l scope (xs.take k))).length (ints (eW (br l scope (xs.take k))))) _ xs.length ?_ ?_ 0 _ (Nat.zero_le _) ⟨fr,lh,.nilsl,[],rfl,h0,h1,h2,h7,oI,pt,o7,o8,qc,bG.nil,aL.nil,by rw[qb];exact bG.nil⟩)
 ·rintro k _ lr ⟨fr,dS,v1,ce,rfl,h0,h1,h2,h7,oI,pt,o7,o8,qc,y6,Ra,wz⟩
  left
  have dN:(k:Int)<xs.length:=by omega
  have nR:=bE xs
  have NP:=cB (List.getElem_mem lr)
  have hdk:=sa (List.getElem_mem lr)
  have hw:=cE (k:=k) (c5 (by omega))
  obtain⟨b,cb,rr,cQ,fu,oq,hb⟩:=dV ha hx k lr
  obtain⟨t,ht⟩:=qM dR k lr
  obtain⟨cf,aB,mK⟩:=ih xs[k] (List.getElem_mem lr) t _ hb (by omega) (by omega) (mg.1 hs _ (List.getElem_mem lr)) (gL.1 fy _ (List.getElem_mem lr)) ht
  have We:=yi l scope xs[k] (gL.1 fy _ (List.getElem_mem lr)) ht
  have sg:=Ly (bX l scope xs[k]) cf mK (BX We.1).1 (BX We.1).2
  have Eg:br l scope (xs.take (k+1))=br l scope (xs.take k)++ [bX l scope xs[k]]:=by
   rw[List.take_succ_eq_append_getElem lr,kM,List.map_append,←kM];rfl
  rw[Eg,DV]
  have sM:=HG (br l scope (xs.take k))
  rw[gw,List.length_take]at sM
  generalize bX l scope xs[k]=y at*
  obtain⟨fa,fc,rfl,jl,NM⟩:=mK.cells
  generalize hG:(aE dS 19).g+1=G
  generalize hH:gh (gh dS 19 ⟨G,.cells [.i .i64 0,.i .i64 0,.s [],.nilsl] 0 true⟩) 19 ⟨G,.cells [.i .i64 y.op,.i .i64 y.num,.s y.name,fa] 0 true⟩=NW
  have e7:aE NW 7=⟨g,.cells [.i .i64 op,.i .i64 num,.s s,a] 0 true⟩:=by rw[←hH,cK _ _ (by decide),cK _ _ (by decide),o7]
  have e8:aE NW 8=c8:=by rw[←hH,cK _ _ (by decide),cK _ _ (by decide),o8]
  have Zy:aE NW 16=⟨IM,.cells [.i .i64 op,.i .i64 0,.s [],v1] 0 true⟩:=by rw[←hH,cK _ _ (by decide),cK _ _ (by decide),qc]
  have Zz:aE NW 19=⟨G,.cells [.i .i64 y.op,.i .i64 y.num,.s y.name,fa] 0 true⟩:=by rw[←hH,jZ]
  have ZA:=y6.congr (dj:=NW) (by rw[←hH,cK _ _ (by decide),cK _ _ (by decide)])
  have hP2:=wz.congr (dj:=NW) (by rw[←hH,cK _ _ (by decide),cK _ _ (by decide)])
  have vM:=Lw ZA (c5 (by omega)) (sh:=sh) (T.i .i64 y.op) (T.i .i64 y.num) (T.s y.name) fa true
  generalize hN1:sN NW sh 92 4 56 v1 (.sl [T.i .i64 y.op,T.i .i64 y.num,T.s y.name,fa] 1 true)=ZB at vM
  generalize hV1:Dv NW sh 92 4 56 v1 (.sl [T.i .i64 y.op,T.i .i64 y.num,T.s y.name,fa] 1 true)=Wf at vM
  obtain⟨U1,HK,HL⟩:=vM
  have f16:aE ZB 16=⟨IM,.cells [.i .i64 op,.i .i64 0,.s [],v1] 0 true⟩:=by rw[HL 16 (by decide),Zy]
  have f19:aE ZB 19=⟨G,.cells [.i .i64 y.op,.i .i64 y.num,.s y.name,fa] 0 true⟩:=by rw[HL 19 (by decide),Zz]
  generalize NX:gh ZB 16 ⟨IM,.cells [.i .i64 op,.i .i64 0,.s [],Wf] 0 true⟩=Rk
  have i7:aE Rk 7=⟨g,.cells [.i .i64 op,.i .i64 num,.s s,a] 0 true⟩:=by rw[←NX,cK _ _ (by decide),HL 7 (by decide),e7]
  have i8:aE Rk 8=c8:=by rw[←NX,cK _ _ (by decide),HL 8 (by decide),e8]
  have i16:aE Rk 16=⟨IM,.cells [.i .i64 op,.i .i64 0,.s [],Wf] 0 true⟩:=by rw[←NX,jZ]
  have i19:aE Rk 19=⟨G,.cells [.i .i64 y.op,.i .i64 y.num,.s y.name,fa] 0 true⟩:=by rw[←NX,cK _ _ (by decide),f19]
  have hQ1:=HK.congr (dj:=Rk) (by rw[←NX,cK _ _ (by decide)])
  have Wg:=hP2.congr (dj:=Rk) (by rw[←NX,cK _ _ (by decide),HL 103 (by decide)])
  have U2:=aL.append Ra (aL.one mK)
  generalize qb:an fr 17=v17 at wz hP2 Wg
  cases hly:isLit y with
  |true=>
   rw[hly,if_pos rfl]at sg
   generalize jo y=q at sg ⊢
   have sS:=gb Wg (c5 (by omega)) (sh:=sh) (T.i .i64 q) true
   simp(maxDischargeDepth:=6) only[qF,ah,ai,ab,aj,ae,ak,dH,dQ,splice,aF,repl,Nat.reduceAdd,reduceCtorEq,Nat.reduceLT,Nat.reduceLeDiff,Nat.reduceEqDiff,fw,h0,h1,h2,h7,oI,qb,pt,o7,ha.lenI,dN,cQ,hw,aB,IT,fu.froz1,hv.froz,hl.froz,jl.froz1,hG,hH,Zy,Zz,ZA.notS,U1,HK.cells,HK.noTup,f16,NX,i19,sg,Mb,Wg.notS,sS.1]
   refine⟨_,rfl,_,_,Wf,_,rfl, ?_, ?_, ?_, ?_, ?_, ?_, ?_, ?_, ?_, ?_,U2, ?_⟩
   all_goals first|(simp(maxDischargeDepth:=6) only[ab,ae,reduceCtorEq,Nat.reduceEqDiff,h0,h1,h2,h7,oI];done)|skip
   ·rw[sS.2.2 7 (by decide),i7]
   ·rw[sS.2.2 8 (by decide),i8]
   ·rw[sS.2.2 16 (by decide),i16]
   ·exact hQ1.congr (sS.2.2 92 (by decide))
   ·simp(maxDischargeDepth:=6) only[ab,ae,Nat.reduceEqDiff]
    rw[List.length_append,j6]
    exact sS.2.1
  |false=>
   rw[hly]at sg
   simp(maxDischargeDepth:=6) only[qF,ah,ai,ab,aj,ae,ak,dH,dQ,splice,aF,repl,Nat.reduceAdd,reduceCtorEq,Nat.reduceLT,Nat.reduceLeDiff,Nat.reduceEqDiff,fw,h0,h1,h2,h7,oI,qb,pt,o7,ha.lenI,dN,cQ,hw,aB,IT,fu.froz1,hv.froz,hl.froz,jl.froz1,hG,hH,Zy,Zz,ZA.notS,U1,HK.cells,HK.noTup,f16,NX,i19,sg,Mb]
   refine⟨_,rfl,_,_,Wf,_,rfl, ?_, ?_, ?_, ?_, ?_, ?_,i7,i8,i16,hQ1,U2, ?_⟩
   all_goals first|(simp(maxDischargeDepth:=6) only[ab,ae,reduceCtorEq,Nat.reduceEqDiff,h0,h1,h2,h7,oI];done)|skip
   simp(maxDischargeDepth:=6) only[ab,ae,Nat.reduceEqDiff,qb]
   exact Wg
 ·rintro _ ⟨fr,dS,v1,ce,rfl,h0,h1,h2,h7,oI,pt,o7,o8,qc,y6,Ra,wz⟩
  rw[List.take_length]at wz Ra
  simp(maxDischargeDepth:=6) only[ah,ai,ab,aj,ae,ak,Nat.reduceLT,Nat.reduceEqDiff,fw,h7,pt,o7,ha.lenI,Int.lt_irrefl]
  refine⟨_,_,(by simp:Out.ext 0≠ .nrm),rfl,rfl,o8, ?_,⟨v1,qc,ce,y6,Ra⟩,rfl⟩
  simp(maxDischargeDepth:=6) only[ab,ae,Nat.reduceEqDiff]
  exact wz
include dq hlen j7
theorem HM(scope:Int)(x:Ex):HJ l lT vT scope x:=by
 induction x using Ex.ind with
 |h x ih=>
  intro k cs hx hn hd hs fy ht
  obtain⟨a,cc,rfl,ha,g5⟩:=hx.cells
  obtain⟨h1,h2,aX,gr,iA,jC⟩:=er fy
  have hnd:=x.nodes_eq
  have hdd:=x.depth_eq
  rw[aD OG (by simp[IN])]
  by_cases h6:x.op=6
  ·have gm:=sd scope x.name
   unfold k6 at gm
   rw[Ex.ty_eq,if_pos h6]at ht
   by_cases hz:dE scope x.name=0
   ·rw[if_neg (by simp[hz])]at ht
    rw[if_pos hz,hz]at gm
    obtain⟨i,lf,th,hvv,hti,_,_,kH,qx,V2⟩:=p8 ht
    have IL:=vL l x.name lT cl hl dq hlen
    rw[iL th]at IL
    obtain⟨b,cb,r,cQ,fu,oq,hb⟩:=fZ hl dq i lf
    obtain⟨ex,rfl,rj,sW,DR⟩:=BW l lT cl lf hl dq
    obtain⟨Rj,Qr⟩:=j7 l[i] (List.getElem_mem lf)
    have qz:i≤l.length:=by omega
    have dG:(l.take i).length=i:=by rw[List.length_take,Nat.min_eq_left qz]
    have dR:=oz (l.take i) (.sl (List.take (i*5) cl) i (ex&&decide (i=l.length))) (cl.take (i*5)) (by rw[dG];exact rj) sW (by rw[dG];omega) (yu l j7 i) 0 l[i].2 _ hb Rj Qr
    rw[sq l qz,←vK l lf,qx]at dR
    have e1:=fun kk=>gz (ts:=lO l l.length) (by rw[fv];exact hv) (k:=i) (by rw[fv];exact lf) kk
    have e2:sP l x.name=(lO l l.length)[i]'(by rw[fv];exact lf):=by
     rw[V2];simp[List.getD_eq_getElem?_getD,List.getElem?_eq_getElem (show i<(lO l l.length).length by rw[fv];exact lf)]
    have je:bX l scope x=ew k (sP l x.name):=by
     unfold bX
     rw[Ex.fold_eq,if_pos h6,if_neg (by simp[hz])];unfold DN;rw[ht]
    obtain⟨c1,sg,jO⟩:=BY k (sP l x.name) (se kH) (fun h4=>by rw[h4]at kH;exact oC kH)
    rw[je]
    rw[←e2]at e1
    generalize sP l x.name=w at*
    generalize ew k w=y at*
    obtain⟨ca,Wc,rfl,oX,wy⟩:=jO.cells
    simp only at dR
    simp(maxDischargeDepth:=6) only[qF,ah,ai,ab,aj,ae,ak,nV,mS,splice,bk,Nat.reduceAdd,reduceCtorEq,Nat.reduceLT,Nat.reduceLeDiff,Nat.reduceEqDiff,Int.reduceEq,bV,IN,h6,gm,uN,IL,AU,hl.froz,cQ,qz,DR,Nat.sub_zero,dR,wI,OF,fu.froz1,e1,sg,L9,oX.froz1]
    exact⟨_,rfl,jO⟩
   ·rw[if_neg hz]at gm
    have je:bX l scope x=x:=by
     unfold bX
     rw[Ex.fold_eq,if_pos h6,if_pos hz]
    rw[je]
    rw[h6]at hx
    simp(maxDischargeDepth:=6) only[qF,ah,ai,ab,aj,ae,ak,splice,Nat.reduceAdd,reduceCtorEq,Nat.reduceLT,Nat.reduceEqDiff,IN,h6,gm,uN,ha.froz1]
    exact⟨_,rfl,hx⟩
  ·by_cases iB:x.args.length=0
   ·have je:bX l scope x=x:=by
     unfold bX
     rw[Ex.fold_eq,if_neg h6,if_pos (by simp[List.length_eq_zero_iff.1 iB])]
    rw[je]
    have gH:=ha.lenI
    rw[iB]at gH
    simp(maxDischargeDepth:=6) only[qF,ah,ai,ab,aj,ae,ak,splice,Nat.reduceAdd,reduceCtorEq,Nat.reduceLT,Nat.reduceEqDiff,IN,h6,gH,ha.froz1]
    exact⟨_,rfl,hx⟩
   ·obtain⟨ts,gI,hr,hk⟩:=kL ht h6
    have h7:=vI h1 aX iB
    have sM:=bE x.args
    have qA:x.args.length≤gi:=c5 (by omega)
    have V9:=((Ex.sm_eq x).1 hs).2
    have dR:=oz l lT cl hl dq hlen j7 scope x _ hx (by omega) hs
    have htS:dT l scope x=(k,0):=by
     unfold dT
     rw[if_neg (by simp[DU fy hn hd])];exact ht
    rw[htS]at dR
    have Lp: ¬(x.args.length:Int)=0:=by omega
    have kZ:uc scope ts (br l scope x.args):=pq (As (sk l)) scope jC gI
    have zG:=gw l scope x.args
    have je:bX l scope x=if(br l scope x.args).all isLit then ew k (oG x.op ((br l scope x.args).map jo))else mB x.op (br l scope x.args):=by
     unfold bX
     rw[Ex.fold_eq,if_neg h6,if_neg (by simp;intro h;rw[h]at iB;exact iB rfl),ht]
     rfl
    rw[je]
    have qa:=fun fr lh sh h0 h1 h2 h7 h8 ep oI qb pt o7 o8 qc=>Qs l lT vT cl hl hv scope x.args (fun y hy=>ih y hy) a cc ha g5 (by omega) (by omega) V9 jC ts gI x.op x.num x.name (.i .i64 k) 1 1 ⟨1,.cells [.i .i64 0,.i .i64 0,.s [],.nilsl] 0 true⟩ fr lh sh h0 h1 h2 h7 h8 ep oI qb pt o7 o8 qc
    have hL:=fun fr lh sh h0 h1 h2 h7 h8 ep oI qb pt o7 o8 qc=>And.intro (qa fr lh sh h0 h1 h2 h7 h8 ep oI qb pt o7 o8 qc).1 (And.intro (qa fr lh sh h0 h1 h2 h7 h8 ep oI qb pt o7 o8 qc).2.1 (And.intro (yw (qa fr lh sh h0 h1 h2 h7 h8 ep oI qb pt o7 o8 qc).2.2.2.1).1 (qa fr lh sh h0 h1 h2 h7 h8 ep oI qb pt o7 o8 qc).2.2.2.2))
    have hV:=fun fr lh sh h0 h1 h2 h7 h8 ep oI qb pt o7 o8 qc=>(qa fr lh sh h0 h1 h2 h7 h8 ep oI qb pt o7 o8 qc).2.2.1
    have hA:=fun fr lh sh h0 h1 h2 h7 h8 ep oI qb pt o7 o8 qc=>(yw (qa fr lh sh h0 h1 h2 h7 h8 ep oI qb pt o7 o8 qc).2.2.2.1).2
    have HN:=fun fr lh sh h0 h1 h2 h7 h8 ep oI qb pt o7 o8 qc=>(hV fr lh sh h0 h1 h2 h7 h8 ep oI qb pt o7 o8 qc).lenI
    have NY:=fun fr lh sh h0 h1 h2 h7 h8 ep oI qb pt o7 o8 qc=>(hA fr lh sh h0 h1 h2 h7 h8 ep oI qb pt o7 o8 qc).1.lenI
    cases aU:(br l scope x.args).all isLit with
    |true=>
     rw[if_pos rfl]
     have Pc:=DW aU
     have kH:=(lits kZ aU).1
     have oH:=yc kH h7 h2 (by rw[kZ.len,zG];exact aX) hr hk
     have jX:(eW (br l scope x.args)).length=x.args.length:=by rw[uj.2 aU,zG]
     rw[←Pc]at oH ⊢
     have Ay:=ui x.op 0 (eW (br l scope x.args)) (jb x.args.length (ints (eW (br l scope x.args)))) (by rw[jX];exact gV (fun h0=>absurd h0 iB)) (by rw[jX];exact qA) h7 h2 (by rw[jX];exact aX) oH.1
     obtain⟨c1,sg,jO⟩:=BY k (oG x.op (eW (br l scope x.args))) (se oH.2) (fun h4=>by have:=oH.2;rw[h4]at this;exact oC this)
     have hfz:=fun keep cq fr lh sh h0 h1 h2 h7 h8 ep oI qb pt o7 o8 qc=>bG.fzV (keep:=keep) (sh:=cq) (hV fr lh sh h0 h1 h2 h7 h8 ep oI qb pt o7 o8 qc)
     rw[jX]at HN hfz
     generalize oG x.op (eW (br l scope x.args))=w at*
     generalize ew k w=y at*
     obtain⟨ca,Wc,rfl,oX,wy⟩:=jO.cells
     simp(maxDischargeDepth:=6) only[qF,ah,ai,ab,aj,ae,ak,Nat.reduceShiftRight,Nat.reduceMod,aG,splice,aF,Nat.reduceAdd,reduceCtorEq,Nat.reduceLT,Nat.reduceLeDiff,Nat.reduceEqDiff,IN,qS,h6,ha.lenI,Lp,dR,wI,hl.froz,ha.froz1,hL,HN,NY,hfz,Ay,EY,sg,L9,oX.froz1,K4]
     exact⟨_,rfl,jO⟩
    |false=>
     rw[if_neg (by simp)]
     have jX: ¬((eW (br l scope x.args)).length:Int)=(x.args.length:Int):=by
      intro h
      have h':(eW (br l scope x.args)).length=(br l scope x.args).length:=by rw[zG];omega
      rw[uj.1 h']at aU;cases aU
     have hfz:=fun m keep cq fr lh sh h0 h1 h2 h7 h8 ep oI qb pt o7 o8 qc=>bG.fzW (m:=m) (keep:=keep) (sh:=cq) (hA fr lh sh h0 h1 h2 h7 h8 ep oI qb pt o7 o8 qc).1
     simp(maxDischargeDepth:=6) only[qF,ah,ai,ab,aj,ae,ak,Nat.reduceShiftRight,Nat.reduceMod,aG,splice,aF,Nat.reduceAdd,reduceCtorEq,Nat.reduceLT,Nat.reduceLeDiff,Nat.reduceEqDiff,IN,qS,h6,ha.lenI,Lp,dR,wI,hl.froz,ha.froz1,hL,HN,NY,jX,hfz,Sf]
     generalize hX:HI _ _=X
     have Qp:aL (br l scope x.args) X:=by
      rw[←hX]
      refine(hA _ _ _ ?_ ?_ ?_ ?_ ?_ ?_ ?_ ?_ ?_ ?_ ?_ ?_).2 <;> simp(maxDischargeDepth:=6) only[ab,ae,reduceCtorEq,Nat.reduceEqDiff]
     have hgz:=fun j hj fr lh sh h0 h1 h2 h7 h8 ep oI qb pt o7 o8 qc=>HH (j:=j) (hA fr lh sh h0 h1 h2 h7 h8 ep oI qb pt o7 o8 qc).1 hj
     obtain⟨c1,aB,jO⟩:=Lq kZ.wf h7 h2 (by rw[zG];exact aX) (jb x.args.length X) X (by rw[zG];exact gV (fun h0=>absurd h0 iB)) Qp
     generalize mB x.op (br l scope x.args)=y at*
     obtain⟨ca,Wc,rfl,oX,wy⟩:=jO.cells
     simp(maxDischargeDepth:=6) only[qF,ah,ai,ab,aj,ae,ak,Nat.reduceShiftRight,Nat.reduceMod,splice,Nat.reduceAdd,reduceCtorEq,Nat.reduceEqDiff,qS,hL,aB,Lx,hgz,oX.froz1,K4]
     exact⟨_,rfl,jO⟩
end
end Go.Proofs.YtfenhjpkomldcaaGreat
namespace Go.Proofs.YtfenhjpkomldcaaGreat
open Go Go.Ev
def U3(r:Option (T×List aA)):Bool:=match r with|some (.vp cs,_)=>froz (.vp cs)|_=>false
theorem U4:U3 (FX pE 60 53 [.nilsl] [])=true:=by kernel_rfl
theorem U5: ∃cs s,aa pE 53 [.nilsl] []=some (.vp cs,s)∧froz (.vp cs)=true:=by
 have h:=U4
 unfold U3 at h
 split at h
 ·rename_i cs s e
  exact⟨cs,s,bW (bU e),h⟩
 ·cases h
def vN(l:Cs)(scope:Int)(x:Ex):Ex×Int:=if(dT l scope x).2≠0 then(bz 0 0,(dT l scope x).2)else if bF (bX l scope x)≠0 then(bz 0 0,10)else(bX l scope x,0)
theorem U6(lT kT:T):oo lT kT []= [⟨1,.map [] [] false⟩,⟨1,.cells [lT,.mp .S 0 1,kT] 0 true⟩]:=rfl
theorem vO{l:Cs}{scope:Int}{x:Ex}(h:(dT l scope x).2=0):bF x=0∧x.ty (ue l) scope=((dT l scope x).1,0):=by
 unfold dT at h ⊢
 by_cases hv:bF x≠0
 ·rw[if_pos hv]at h;exact absurd h hv
 ·rw[if_neg hv]at h ⊢
  exact⟨by simpa using hv,Prod.ext rfl h⟩
theorem pv{l:Cs}{scope:Int}{x:Ex}(h:(dT l scope x).2=0)(hs:x.sm):FK scope (dT l scope x).1 (bX l scope x)∧(bX l scope x).nodes≤400∧(bX l scope x).sm∧(bF (bX l scope x)=0∨bF (bX l scope x)=10):=by
 obtain⟨hv,ht⟩:=vO h
 have hk:=yi l scope x (gZ hv) ht
 have hn:=yk l scope x
 have hz:=(jf hv).1
 refine⟨hk,by omega,HA l scope x hs, ?_⟩
 unfold bF
 by_cases hb:sr (bX l scope x)
 ·rw[if_pos hb];exact .inr rfl
 ·rw[if_neg hb,if_pos hk.1];exact .inl rfl
section
variable(l:Cs)(lT:T)(cl:List T)(hl:aN lT l.length cl)(dq:df l cl)(hlen:l.length≤gi)(j7:DQ l)
include hl dq hlen j7
theorem Lz(scope:Int)(x:Ex)(cs:List T)(hx:bj x cs)(hn:0≤x.nodes)(hs:x.sm): ∃c1 s,aa pE 16 [lT,.i .i64 scope,.agg cs] []=some (.tup [.agg c1,.i .i64 (vN l scope x).2],s)∧bj (vN l scope x).1 c1:=by
 obtain⟨s0,dR⟩:=HO l lT cl hl dq hlen j7 scope x cs hx hn hs
 rw[aD RK (by simp[Og])]
 unfold vN
 obtain⟨a,cc,rfl,ha,g5⟩:=hx.cells
 by_cases h0:(dT l scope x).2=0
 ·rw[if_neg (by simp[h0])]
  obtain⟨hv,ht⟩:=vO h0
  obtain⟨We,oV,NV,hval⟩:=pv h0 hs
  obtain⟨kc,s1,hnc,hkf⟩:=U5
  rw[←Au]at ht
  obtain⟨c1,m',aB,jO,_,_,_⟩:=BU l lT (.vp kc) hkf l.length (Nat.le_refl _) (Lu l lT (.vp kc) cl hl dq hlen j7 hkf) scope x _ [] _ (fun s cs h=>by cases h) hx (jf hv).1 (gZ hv) ht
  rw[U6]at aB
  have LA:=fun z fr lh sh=>uk (z:=z) (fr:=fr) (lh:=lh) (sh:=sh) (bX l scope x) c1 jO (by omega) NV
  rw[h0]at dR
  generalize (dT l scope x).1=k at dR
  generalize hy:bX l scope x=y at*
  obtain⟨ca,cb,rfl,oX,wy⟩:=jO.cells
  have pI:=fun lh=>vo (lh:=lh) (sh:= [⟨1,.map [] [] false⟩,⟨1,.cells [.nilsl,.nilmp,.nilptr] 0 true⟩]) (k:=1) (g:=1) (g':=1) (off:=0) (m:=3) (wm:=0) (v:= .agg [lT,.mp .S 0 1,.vp kc]) (by simp[xK,hl.kept1,xM,xL]) rfl
  rcases hval with hval|hval
  ·rw[if_neg (by simp[hval])]
   rw[hval]at LA
   simp(maxDischargeDepth:=6) only[qF,ah,ai,ab,aj,ae,ak,aG,splice,aF,Nat.reduceAdd,reduceCtorEq,Nat.reduceLT,Nat.reduceLeDiff,Nat.reduceEqDiff,Int.reduceEq,pf,im,Og,dR,OC,hl.froz,hl.cells,hl.noTup,ha.froz1,ha.kept1,hnc,RQ,aB,IS,oX.froz1,LA,pI]
   exact⟨_,_,rfl,jO⟩
  ·rw[if_pos (by simp[hval])]
   rw[hval]at LA
   simp(maxDischargeDepth:=6) only[qF,ah,ai,ab,aj,ae,ak,aG,splice,aF,Nat.reduceAdd,reduceCtorEq,Nat.reduceLT,Nat.reduceLeDiff,Nat.reduceEqDiff,pf,im,Og,dR,OC,hl.froz,hl.cells,hl.noTup,ha.froz1,ha.kept1,hnc,RQ,aB,IS,LA,pI]
   exact⟨_,_,rfl,bO _ _ _ cD⟩
 ·rw[if_pos h0]
  generalize (dT l scope x).1=k at dR
  generalize (dT l scope x).2=e at*
  simp(maxDischargeDepth:=6) only[qF,ah,ai,ab,aj,ae,ak,aG,splice,aF,Nat.reduceAdd,reduceCtorEq,Nat.reduceLT,Nat.reduceEqDiff,Og,dR,OC,hl.froz,ha.froz1,h0]
  exact⟨_,_,rfl,bO _ _ _ cD⟩
theorem LB(scope:Int)(x:Ex)(cs:List T)(hx:bj x cs)(hn:0≤x.nodes)(hs:x.sm): ∃c1,aa pE 18 [lT,.i .i64 scope,.agg cs] []=some (.tup [.agg c1,.i .i64 (vN l scope x).2],[])∧bj (vN l scope x).1 c1:=by
 have dR:=oz l lT cl hl dq hlen j7 scope x cs hx hn hs
 rw[aD RL (by simp[Oh])]
 unfold vN
 obtain⟨a,cc,rfl,ha,g5⟩:=hx.cells
 by_cases h0:(dT l scope x).2=0
 ·rw[if_neg (by simp[h0])]
  obtain⟨hv,ht⟩:=vO h0
  obtain⟨We,oV,NV,hval⟩:=pv h0 hs
  have kz:=DS l lT cl hl dq hlen j7
  have hO:aN (jb l.length (ints (lO l l.length))) l.length (ints (lO l l.length)):=gV fun h0=>by rw[h0];rfl
  obtain⟨c1,aB,jO⟩:=HM l lT (jb l.length (ints (lO l l.length))) cl hl dq hlen j7 hO scope x _ _ hx (jf hv).1 (jf hv).2 hs (gZ hv) ht
  have LA:=pw (bX l scope x) c1 jO NV
  rw[h0]at dR
  generalize (dT l scope x).1=k at dR
  generalize hy:bX l scope x=y at*
  obtain⟨ca,cb,rfl,oX,wy⟩:=jO.cells
  rcases hval with hval|hval
  ·rw[if_neg (by simp[hval])]
   rw[hval]at LA
   simp(maxDischargeDepth:=6) only[qF,ah,ai,ab,aj,ae,ak,aG,splice,aF,Nat.reduceAdd,reduceCtorEq,Nat.reduceLT,Nat.reduceEqDiff,bV,gX,aV,Oh,dR,wI,hl.froz,ha.froz1,kz,RT,RU,aB,IT,RS,hO.froz,oX.froz1,LA,CA]
   exact⟨_,rfl,jO⟩
  ·rw[if_pos (by simp[hval])]
   rw[hval]at LA
   simp(maxDischargeDepth:=6) only[qF,ah,ai,ab,aj,ae,ak,aG,splice,aF,Nat.reduceAdd,reduceCtorEq,Nat.reduceLT,Nat.reduceEqDiff,Int.reduceEq,bV,gX,aV,Oh,dR,wI,hl.froz,ha.froz1,kz,RT,RU,aB,IT,RS,hO.froz,oX.froz1,LA,CA]
   exact⟨_,rfl,bO _ _ _ cD⟩
 ·rw[if_pos h0]
  generalize (dT l scope x).1=k at dR
  generalize (dT l scope x).2=e at*
  simp(maxDischargeDepth:=6) only[qF,ah,ai,ab,aj,ae,ak,aG,splice,aF,Nat.reduceAdd,reduceCtorEq,Nat.reduceLT,Nat.reduceEqDiff,Oh,dR,wI,hl.froz,ha.froz1,h0]
  exact⟨_,rfl,bO _ _ _ cD⟩
end
theorem HP: ∃s,aa pE 20 [] []=some (.b true,s):=K5 (m:=100) (v:= .b true) (by rw[←FY];kernel_rfl)
end Go.Proofs.YtfenhjpkomldcaaGreat
