/- The reference's Run; equal states. The laws' measure of a timetable and a contract; the sanity check. AutomatonSteps. The given arguments' trees. Conditions: the theorems' own. -/
import Derived.Test.YtblcbheipjeoeaaGreatM21
import Derived.KernelRfl
set_option maxRecDepth 100000
set_option linter.unusedSimpArgs false
set_option linter.unusedVariables false
set_option maxHeartbeats 16000000
namespace Go.Proofs.YtblcbheipjeoeaaGreat
open Go Go.Ev
theorem Hi{c:Ct}{fl:List Fl}{d:List (Int×Bool)}(h:EC c fl d=true): ∀i,i<d.length→EC c fl (d.drop i)=true
 |0,_=>h
 |i+1,hi=>by
  have:=Hi h i (by omega)
  rw[xX c fl hi,Bool.and_eq_true]at this
  exact this.2
section
variable(t:Tt)(c:Ct)(zT aT fT a7 a8 a9 a10 fB fA:T)(hT:uC t zT aT fT)(hC:xu c a7 a8 a9 a10 fB fA)(hN:S1 c)(hL: ∀f∈t.fl,f.nu.length≤kb)
include hC hN hT hL
theorem aiY(tZ:mQ t c=0)(d:List (Int×Bool))(h1:1≤d.length)(h6:d.length≤6)(gz: ∀k∈d,ry t.fl.length k.1=true)(Ra:EC c t.fl d=true)(s0:se)(Yn:s0=kF (zG t.fl d[0].1) d[0] (pt d[0]))(dT:T)(hd:Hd d dT)(fr:Fr)(lh:fC fg)(sh:List fg)(D:Option (Out×St))(a:T)(ha:mi s0 a)(x6:T)(e6:fg)
  (hD:DC pE 52 (.loop vi) ⟨fr,lh,sh⟩=D) (h2:an fr 2=dT) (h3:an fr 3= .ptr .L 3 1 0) (h4:an fr 4= .ptr .L 4 1 0) (zx:an fr 6=x6) (h9:an fr 9= .ptr .L 9 1 0) (nJ:an fr 10= .i .i64 0) (nR:an fr 11= .i .i64 1)
  (o3:be lh 3=⟨1,.cells [zT,aT,fT] 0 true⟩) (o4:be lh 4=⟨1,.cells (fX c a7 a8 a9 a10 fB fA) 0 true⟩) (o6:be lh 6=e6) (o9:be lh 9=⟨1,.cells (gv s0 a) 0 true⟩):
  ∃f' l' a',D=some (.ext 0,⟨f',l',sh⟩)∧an f' 6=x6∧an f' 9= .ptr .L 9 1 0∧an f' 10= .i .i64 0∧be l' 6=e6∧be l' 9=⟨1,.cells (gv (lW t.fl s0 d.tail) a') 0 true⟩∧mi (lW t.fl s0 d.tail) a':=by
 have hz:=V1 t c zT aT fT a7 a8 a9 a10 fB fA hT hC
 obtain⟨ht,hc⟩:=vN t c zT aT fT a7 a8 a9 a10 fB fA hT hC hN tZ
 have hcr:=Hc c hc
 have hinv:=EG c ⟨hcr.1,hcr.2.2.1⟩ t.fl (rq t ht).1 d h1 h6 gz Ra
 rw[←Yn]at hinv
 have hlI:=hd.choose_spec.1.lenI
 have main:=oD (E:=pE) (n:=52) (a:=vi) (fun k st=> ∃(fr:Fr) (lh:fC fg) (a:T),st=⟨fr,lh,sh⟩∧an fr 2=dT∧an fr 3= .ptr .L 3 1 0∧an fr 4= .ptr .L 4 1 0∧an fr 6=x6∧an fr 9= .ptr .L 9 1 0∧an fr 10= .i .i64 0∧an fr 11= .i .i64 ((k+1:Nat):Int)∧be lh 3=⟨1,.cells [zT,aT,fT] 0 true⟩∧be lh 4=⟨1,.cells (fX c a7 a8 a9 a10 fB fA) 0 true⟩∧be lh 6=e6∧be lh 9=⟨1,.cells (gv (lW t.fl s0 (d.tail.take k)) a) 0 true⟩∧mi (lW t.fl s0 (d.tail.take k)) a)
  (fun fR fH fL=>fL=sh∧an fR 6=x6∧an fR 9= .ptr .L 9 1 0∧an fR 10= .i .i64 0∧be fH 6=e6∧ ∃a',be fH 9=⟨1,.cells (gv (lW t.fl s0 d.tail) a') 0 true⟩∧mi (lW t.fl s0 d.tail) a') (.ext 0) (d.length-1) ?_ ?_ fr lh sh ⟨fr,lh,a,rfl,h2,h3,h4,zx,h9,nJ,nR,o3,o4,o6,o9,ha⟩
 ·obtain⟨e,p1,p2,p3,p4,p5,a',p6,p7⟩:=main
  rw[p1]at e
  exact⟨_,_,a',by rw[←hD];exact e,p2,p3,p4,p5,p6,p7⟩
 ·rintro k _ hk ⟨fr,lh,a,rfl,h2,h3,h4,zx,h9,nJ,nR,o3,o4,o6,o9,ha⟩
  have fK:((k+1:Nat):Int)<d.length:=by omega
  obtain⟨rr,fF⟩:=u9 hd (k+1) (by omega)
  have hI:=hinv k (by omega)
  have htl:k<d.tail.length:=by rw[List.length_tail];omega
  have Gb:d.tail[k]=d[k+1]:=by rw[List.getElem_tail]
  rw[x7 t.fl s0 htl,Gb]
  generalize lW t.fl s0 (d.tail.take k)=s at*
  obtain⟨q1,q2,q3,q4,q5⟩:=hI
  obtain⟨a',lX,tr⟩:=K0 t c zT aT fT a7 a8 a9 a10 fB fA hT hC hN hL s a ha (by omega) d[k+1]
  have hjn:=Hi Ra k (by omega)
  rw[xX c t.fl (by omega:k+1<d.length),Bool.and_eq_true]at hjn
  have hr:xZ t c s d[k+1]=(sU (zG t.fl s.lf) (zG t.fl d[k+1].1) d[k+1] s,0):=by
   unfold xZ
   rw[if_neg (by simp[tZ]),if_neg (by rw[q1];decide),if_neg (by rw[gz _ (List.getElem_mem (by omega:k+1<d.length))];decide),if_neg (by rw[q4,hjn.1];decide),if_neg (by omega)]
  rw[hr]at lX tr
  simp only at lX tr
  have hx:=tr.froz1
  have SO:=tr.cells
  have E2:=ha.froz1
  have hyc:=ha.cells
  generalize d[k+1]=y at*
  generalize sU (zG t.fl s.lf) (zG t.fl y.1) y s=s' at*
  have hw:=gl (k:=k+1) (by omega)
  unfold gv fX at lX
  unfold gv at o9
  unfold fX at o4
  simp(maxDischargeDepth:=6) only[qA,seval,gW,fU,vi,h2,h3,h4,h9,nJ,nR,o3,o4,o9,hlI,fK,hw,fF,lX,afo,alO,hx,E2,hz]
  exact qq ⟨_,_,a',rfl,by simp(maxDischargeDepth:=6) only[qA,seval,h2],by simp(maxDischargeDepth:=6) only[qA,seval,h3],by simp(maxDischargeDepth:=6) only[qA,seval,h4],by simp(maxDischargeDepth:=6) only[qA,seval,zx],by simp(maxDischargeDepth:=6) only[qA,seval,h9],by simp(maxDischargeDepth:=6) only[qA,seval],by simp(maxDischargeDepth:=6) only[qA,seval],by simp(maxDischargeDepth:=6) only[qA,seval,o3],by unfold fX;simp(maxDischargeDepth:=6) only[qA,seval,o4],by simp(maxDischargeDepth:=6) only[qA,seval,o6],by unfold gv;simp(maxDischargeDepth:=6) only[qA,seval],tr⟩
 ·rintro _ ⟨fr,lh,a,rfl,h2,h3,h4,zx,h9,nJ,nR,o3,o4,o6,o9,ha⟩
  rw[List.take_of_length_le (by rw[List.length_tail];omega)]at o9 ha
  have fK: ¬((d.length-1+1:Nat):Int)<d.length:=by omega
  simp(maxDischargeDepth:=6) only[qA,seval,vi,h2,nR,hlI,fK]
  exact po ⟨rfl,rfl,by simp(maxDischargeDepth:=6) only[qA,seval,zx],by simp(maxDischargeDepth:=6) only[qA,seval,h9],by simp(maxDischargeDepth:=6) only[qA,seval,nJ],o6,a,o9,ha⟩
theorem V5(d:List (Int×Bool))(dT:T)(hd:Hd d dT)(hlen:d.length≤1000): ∃a',fj pE 14 [.agg [zT,aT,fT],.agg (fX c a7 a8 a9 a10 fB fA),dT] []=some (.tup [.agg (gv (Bv t c d).1 a'),.i .i64 (Bv t c d).2],[])∧mi (Bv t c d).1 a':=by
 have hz:=V1 t c zT aT fT a7 a8 a9 a10 fB fA hT hC
 have YA:=hd.choose_spec.1.froz
 have RQ:=V4 t c zT aT fT a7 a8 a9 a10 fB fA hT hC hN hL d dT hd hlen
 rw[fx afp (by simp[Y3])]
 unfold Bv
 by_cases h:mQ t c=0
 ·rw[if_neg (by simp[h])]at RQ ⊢
  by_cases hs:xW c t.fl d=0
  ·rw[if_neg (by simp[hs])]
   rw[hs]at RQ
   obtain⟨g1,g2,g3,g4⟩:=KU hs
   obtain⟨ht,hc⟩:=vN t c zT aT fT a7 a8 a9 a10 fB fA hT hC hN h
   obtain⟨rr,fF⟩:=u9 hd 0 (by omega)
   have fF: ∀kk,tf dT (.i kk (0:Int)) 2=some (.vp (.i .i64 d[0].1:: .b d[0].2::rr)):=fF
   obtain⟨a',lX,tr⟩:=KZ t c zT aT fT a7 a8 a9 a10 fB fA hT hC hN hL d[0]
   have hr:nH t c d[0]=(kF (zG t.fl d[0].1) d[0] (pt d[0]),0):=by
    unfold nH
    rw[if_neg (by simp[h]),if_neg (by rw[g3 _ (List.getElem_mem (by omega:0<d.length))];decide)]
   rw[hr]at lX tr
   simp only at lX tr
   have hx:=tr.froz1
   have SO:=tr.cells
   obtain⟨s0,Yn⟩: ∃s0,s0=kF (zG t.fl d[0].1) d[0] (pt d[0]):=⟨_,rfl⟩
   have hh:d.headD (0,false)=d[0]:=by
    cases d with
    |nil=>simp at g1
    |cons k r=>rfl
   rw[hh,←Yn]
   rw[←Yn]at lX tr
   dsimp only
   unfold fX at lX RQ ⊢
   unfold gv at lX ⊢
   simp(maxDischargeDepth:=6) only[qA,seval,gW,AZ,fU,Y3,RQ,Zi,fF,lX,afn,alM,hx,hz,YA]
   generalize hD:DC pE 52 (.loop vi) _=D
   obtain⟨f',l',a2,rfl,h6,h9,nJ,o6,o9,Bw⟩:=aiY t c zT aT fT a7 a8 a9 a10 fB fA hT hC hN hL h d g1 g2 g3 g4 s0 Yn dT hd _ _ _ D a' tr (.ptr .L 6 1 0) ⟨1,.cells [.i .i64 0,.b false,.i .i64 0,.b false,.i .i64 0,.i .i64 0,.i .i64 0,.i .i64 0,.i .i64 0,.nilsl] 0 true⟩ hD (by simp(maxDischargeDepth:=6) only[qA,seval]) (by simp(maxDischargeDepth:=6) only[qA,seval]) (by simp(maxDischargeDepth:=6) only[qA,seval]) (by simp(maxDischargeDepth:=6) only[qA,seval]) (by simp(maxDischargeDepth:=6) only[qA,seval]) (by simp(maxDischargeDepth:=6) only[qA,seval]) (by simp(maxDischargeDepth:=6) only[qA,seval]) (by simp(maxDischargeDepth:=6) only[qA,seval]) (by unfold fX;simp(maxDischargeDepth:=6) only[qA,seval]) (by simp(maxDischargeDepth:=6) only[qA,seval]) (by unfold gv;simp(maxDischargeDepth:=6) only[qA,seval])
   have hy:=Bw.froz1
   have ZZ:=Bw.cells
   generalize lW t.fl s0 d.tail=s2 at*
   unfold gv at o9
   simp(maxDischargeDepth:=6) only[qA,seval,h6,h9,nJ,o6,o9,hy]
   exact⟨_,rfl,Bw⟩
  ·rw[if_pos hs]
   generalize xW c t.fl d=e at*
   refine⟨.nilsl, ?_,.inl ⟨rfl,rfl,rfl⟩⟩
   unfold fX gv oq at*
   simp(maxDischargeDepth:=6) only[qA,seval,Y3,RQ,Zi,hs,hz,YA]
 ·rw[if_pos h]at RQ ⊢
  generalize mQ t c=e at*
  refine⟨.nilsl, ?_,.inl ⟨rfl,rfl,rfl⟩⟩
  unfold fX gv oq at*
  simp(maxDischargeDepth:=6) only[qA,seval,Y3,RQ,Zi,h,hz,YA]
end
theorem btt:(true != true)=false:=nr rfl
theorem aiZ(L:List (List Nat))(u v:T)(hu:fD u L.length (L.map T.s))(hv:fD v L.length (L.map T.s))(hlen:L.length≤1000)(c2 c3:List T)(YC:c2[9]? =some u)(hc3:c3[9]? =some v)(fr:Fr)(lh:fC fg)(sh:List fg)
  (h2:an fr 2= .ptr .L 2 1 0) (h3:an fr 3= .ptr .L 3 1 0) (h5:an fr 5= .i .i64 0) (o2:be lh 2=⟨1,.cells c2 0 true⟩) (o3:be lh 3=⟨1,.cells c3 0 true⟩):
  DC pE 80 (.loop sn) ⟨fr,lh,sh⟩=some (.ext 0,⟨gr pE 80 sn fr lh sh,gp pE 80 sn fr lh sh,gn pE 80 sn fr lh sh⟩)∧(gn pE 80 sn fr lh sh=sh):=by
 refine oD (fun k st=> ∃(fr:Fr),st=⟨fr,lh,sh⟩∧an fr 2= .ptr .L 2 1 0∧an fr 3= .ptr .L 3 1 0∧an fr 5= .i .i64 (k:Int)) (fun fR fH fL=>fL=sh) _ L.length ?_ ?_ fr lh sh ⟨fr,rfl,h2,h3,h5⟩
 ·rintro k _ hk ⟨fr,rfl,h2,h3,h5⟩
  have fK:(k:Int)<L.length:=by omega
  have hw:=gl (k:=k) (by omega)
  obtain⟨r1,ia⟩:=u7 hu k hk
  obtain⟨r2,ib⟩:=u7 hv k hk
  simp(maxDischargeDepth:=6) only[qA,seval,sn,h2,h3,h5,o2,o3,YC,hc3,hu.lenI,fK,ia,ib,hw]
  exact qq ⟨_,rfl,by simp(maxDischargeDepth:=6) only[qA,seval,h2],by simp(maxDischargeDepth:=6) only[qA,seval,h3],by simp(maxDischargeDepth:=6) only[qA,seval]⟩
 ·rintro _ ⟨fr,rfl,h2,h3,h5⟩
  simp(maxDischargeDepth:=6) only[qA,seval,sn,h2,h5,o2,YC,hu.lenI,Int.lt_irrefl]
  exact po ⟨rfl,rfl⟩
theorem x8(s:se)(u v:T)(hu:mi s u)(hv:mi s v)(hlen:s.ty.length≤1000):fj pE 15 [.agg (gv s u),.agg (gv s v)] []=some (.b true,[]):=by
 have hL:=fun fr lh sh h2 h3 h5 o2 o3=>aiZ s.ty u v hu hv hlen (gv s u) (gv s v) rfl rfl fr lh sh h2 h3 h5 o2 o3
 have hlu:=hu.lenI
 have ZR:=hv.lenI
 rw[fx afq (by simp[c15])]
 unfold gv at*
 have ef: ∀(i:Int) (b:Bool),tB (.flat [.int,.bool]) (.agg [.i .i64 i,.b b]) (.agg [.i .i64 i,.b b])=some true:=fun i b=>by simp[tB,iq,jD]
 simp(maxDischargeDepth:=6) only[qA,seval,c15,hL,hlu,ZR,ef,btt]
end Go.Proofs.YtblcbheipjeoeaaGreat
namespace Go.Proofs.YtblcbheipjeoeaaGreat
open Go Go.Ev
structure TtA (t:Tt):Prop where
 z:(∀u∈t.zo,u.sh.length≤kb)∧t.zo.length≤kb
 a:t.ap.length≤kb
 f:t.fl.length≤kb∧ ∀u∈t.fl,u.nu.length≤kb
theorem aof(zT aT fT:T)(l:List Zo)(cc:List T)(h:fD zT l.length cc)(hr:fy HG l cc)(hlen:l.length≤kb)(fr:Fr)(lh:fC fg)(sh:List fg)
  (h1:an fr 1= .ptr .L 1 1 0) (h3:xy (an fr 3)=true) (h4:an fr 4= .i .i64 0) (o1:be lh 1=⟨1,.cells [zT,aT,fT] 0 true⟩):
  DC pE 38 (.loop rb) ⟨fr,lh,sh⟩=some (.ext 0,⟨gr pE 38 rb fr lh sh,gp pE 38 rb fr lh sh,gn pE 38 rb fr lh sh⟩)∧(xy (an (gr pE 38 rb fr lh sh) 3)=true∧gn pE 38 rb fr lh sh=sh):=by
 refine oD (fun k st=> ∃(fr:Fr),st=⟨fr,lh,sh⟩∧an fr 1= .ptr .L 1 1 0∧xy (an fr 3)=true∧an fr 4= .i .i64 (k:Int)) (fun fR fH fL=>xy (an fR 3)=true∧fL=sh) _ l.length ?_ ?_ fr lh sh ⟨fr,rfl,h1,h3,h4⟩
 ·rintro k _ hk ⟨fr,rfl,h1,h3,h4⟩
  have fK:(k:Int)<l.length:=by omega
  have hw:=mg (k:=k) (by omega)
  obtain⟨sT,sc,rr,fF,tj,_⟩:=GL h hr k hk
  obtain⟨n,hn⟩:=sQ h3
  simp(maxDischargeDepth:=6) only[qB,seval,rb,h1,hn,h4,o1,h.lenI,fK,fF,tj.lenI,hw]
  refine QR (fun _=> ?_) (fun _=> ?_)
  ·exact qq ⟨_,rfl,by simp(maxDischargeDepth:=6) only[qA,seval,h1],by simp(maxDischargeDepth:=6) only[qA,seval,nS],by simp(maxDischargeDepth:=6) only[qA,seval]⟩
  ·exact po ⟨rfl,by simp(maxDischargeDepth:=6) only[qA,seval,hn,nS],rfl⟩
 ·rintro _ ⟨fr,rfl,h1,h3,h4⟩
  simp(maxDischargeDepth:=6) only[qA,seval,rb,h1,h4,o1,h.lenI,Int.lt_irrefl]
  exact po ⟨rfl,by simp(maxDischargeDepth:=6) only[qA,seval,h3],rfl⟩
section
variable(t:Tt)(c:Ct)(zT aT fT a7 a8 a9 a10 fB fA:T)(hT:uC t zT aT fT)(hC:xu c a7 a8 a9 a10 fB fA)
theorem V6(hT:uC t zT aT fT)(hA:TtA t): ∃b,fj pE 38 [.agg [zT,aT,fT]] []=some (.b b,[]):=by
 obtain⟨⟨zc,z1,z2⟩,⟨ac,b1,b2⟩,⟨fc,f1,f2⟩⟩:=hT
 have hL:=fun fr lh sh h1 h3 h4 o1=>aof zT aT fT t.zo zc z1 z2 hA.z.2 fr lh sh h1 h3 h4 o1
 rw[fx afr (by simp[c38])]
 simp(maxDischargeDepth:=6) only[qA,seval,c38,hL,nS,z1.lenI,b1.lenI,f1.lenI]
 generalize hX:an (gr _ _ _ _ _ _) 3=X
 obtain⟨n,hn⟩: ∃n,X= .i .i64 n:=by
  rw[←hX]
  refine sQ (hL _ _ _ ?_ ?_ ?_ ?_).2.1 <;> simp(maxDischargeDepth:=6) only[qA,seval,nS]
 rw[hn]
 simp(maxDischargeDepth:=6) only[qA,seval]
 exact⟨_,rfl⟩
theorem RU(hT:uC t zT aT fT)(hA:TtA t)(hC:xu c a7 a8 a9 a10 fB fA)(hB:CtA c): ∃b,fj pE 7 [.agg [zT,aT,fT],.agg (fX c a7 a8 a9 a10 fB fA)] []=some (.b b,[]):=by
 have hz:=V1 t c zT aT fT a7 a8 a9 a10 fB fA hT hC
 obtain⟨b,h1⟩:=V6 t zT aT fT hT hA
 obtain⟨b',h2⟩:=Rf c a7 a8 a9 a10 fB fA hC hB
 obtain⟨_,_,⟨fc,f1,f2⟩⟩:=hT
 rw[fx fn7 (by simp[c7])]
 unfold fX at*
 by_cases qC:(t.fl.length:Int)≤12 <;> cases b
 all_goals
  simp(maxDischargeDepth:=6) only[qA,seval,c7,h1,h2,alS,alT,f1.lenI,qC,hz]
  exact⟨_,rfl⟩
end
end Go.Proofs.YtblcbheipjeoeaaGreat
namespace Go.Proofs.YtblcbheipjeoeaaGreat
open Go Go.Ev
def t0:Tt:=⟨[⟨[117,116,99],0,[]⟩,⟨[111,115,108,111],60,[(1441500,120),(1444000,60)]⟩,⟨[121,111,114,107],-300,[(1442900,-240)]⟩],[⟨[65,65,65],[117,116,99]⟩,⟨[66,66,66],[111,115,108,111]⟩,⟨[67,67,67],[121,111,114,107]⟩],[⟨[88,49],[65,65,65],[66,66,66],6000,6060,[98,55,51,55],0,0,0⟩]⟩
def YD:T:= .sl [.s [117,116,99],.i .i64 0,.nilsl,.s [111,115,108,111],.i .i64 60,.sl [.i .i64 1441500,.i .i64 120,.i .i64 1444000,.i .i64 60] 2 true,.s [121,111,114,107],.i .i64 (-300),.sl [.i .i64 1442900,.i .i64 (-240)] 1 true] 3 true
def YE:T:= .sl [.s [65,65,65],.s [117,116,99],.s [66,66,66],.s [111,115,108,111],.s [67,67,67],.s [121,111,114,107]] 3 true
def fT0:T:= .sl [.s [88,49],.s [65,65,65],.s [66,66,66],.i .i64 6000,.i .i64 6060,.s [98,55,51,55],.i .i64 0,.i .i64 0,.i .i64 0] 1 true
def c0:Ct:=⟨0,0,0,1440,0,0,0,[],[],[],[],[],[],0⟩
theorem ai0:uC t0 YD YE fT0:=
 ⟨⟨_,.inr ⟨true,rfl⟩,[_,_,_],_,rfl,⟨_,_,rfl,.inl ⟨rfl,rfl,rfl⟩,rfl⟩,[_,_,_],_,rfl,⟨_,_,rfl,.inr ⟨true,rfl⟩,[_,_],_,rfl,rfl,[_,_],_,rfl,rfl,rfl⟩,[_,_,_],[],rfl,⟨_,_,rfl,.inr ⟨true,rfl⟩,[_,_],_,rfl,rfl,rfl⟩,rfl⟩,
  ⟨_,.inr ⟨true,rfl⟩,[_,_],_,rfl,rfl,[_,_],_,rfl,rfl,[_,_],[],rfl,rfl,rfl⟩,
  ⟨_,.inr ⟨true,rfl⟩,[_,_,_,_,_,_,_,_,_],[],rfl,rfl,rfl⟩⟩
theorem ai2:xu c0 .nilsl .nilsl .nilsl .nilsl .nilsl .nilsl:=
 ⟨⟨[],.inl ⟨rfl,rfl,rfl⟩,by rw[show c0.cs= []from rfl,iR]⟩,⟨[],.inl ⟨rfl,rfl,rfl⟩,rfl⟩,⟨[],.inl ⟨rfl,rfl,rfl⟩,rfl⟩,⟨[],.inl ⟨rfl,rfl,rfl⟩,hH.nil⟩,⟨[],.inl ⟨rfl,rfl,rfl⟩,rfl⟩,⟨[],.inl ⟨rfl,rfl,rfl⟩,rfl⟩⟩
theorem ai3:S1 c0:=⟨fun u hu=>(by cases hu),fun u hu=>(by cases hu),fun u hu=>(by cases hu),fun u hu=>(by cases hu)⟩
theorem st0:nH t0 c0 (0,false)=(⟨0,false,0,false,1,0,60,0,1440,[[98,55,51,55]]⟩,0):=by kernel_rfl
theorem RV:fj pE 8 [] []=some (.b true,[]):=by
 have hz:fj pE 40 [] []=some (YD,[]):=by
  rw[fx afu (by simp[c40])]
  unfold YD
  simp(maxDischargeDepth:=6) only[qA,seval,repl,c40]
 have ha:fj pE 41 [] []=some (YE,[]):=by
  rw[fx afv (by simp[c41])]
  unfold YE
  simp(maxDischargeDepth:=6) only[qA,seval,repl,c41]
 obtain⟨a,s,hs,h2⟩:=KT t0 c0 YD YE fT0 .nilsl .nilsl .nilsl .nilsl .nilsl .nilsl ai0 ai2 ai3 (0,false)
 rw[st0]at hs h2
 have hl:=h2.lenI
 have hx:=h2.froz1
 have SO:=h2.cells
 unfold fX gv c0 at hs
 have q1:froz1 YD=true:=nr rfl
 have q2:froz1 YE=true:=nr rfl
 have q3:cellsOf YD= [YD]:=nr rfl
 have q4:cellsOf YE= [YE]:=nr rfl
 have q5:noTup YD=true:=nr rfl
 have q6:noTup YE=true:=nr rfl
 unfold fT0 at hs
 rw[fx fn8 (by simp[c8])]
 simp(maxDischargeDepth:=6) only[qA,seval,repl,c8,hz,ha,alU,alV,q1,q2,q3,q4,q5,q6,hs,dc9,hl]
theorem xl(f:Fl)(k:Int×Bool)(s:se)(n:Nat)(h:s.ty.length≤n):(kF f k s).ty.length≤n+1:=Nat.le_trans (abE f k s) (Nat.succ_le_succ h)
theorem Jh(t:Tt)(c:Ct)(k:Int×Bool):(nH t c k).1.ty.length≤1000:=by
 unfold nH
 split
 ·exact Nat.zero_le _
 ·split
  ·exact Nat.zero_le _
  ·exact Nat.le_trans (xl _ _ _ 0 (Nat.le_refl _)) (by decide)
theorem RW(t:Tt)(c:Ct)(s:se)(k:Int×Bool)(h:s.ty.length≤40):(xZ t c s k).1.ty.length≤1000:=by
 unfold xZ
 split
 ·exact Nat.zero_le _
 split
 ·exact Nat.zero_le _
 split
 ·exact Nat.zero_le _
 split
 ·exact Nat.zero_le _
 split
 ·exact Nat.zero_le _
 ·exact Nat.le_trans (xl _ _ _ 40 h) (by decide)
theorem Hj(fl:List Fl): ∀(d:List (Int×Bool)) (s:se) (n:Nat),s.ty.length≤n→(lW fl s d).ty.length≤n+d.length
 | [],s,n,h=>h
 |k::r,s,n,h=>by
  rw[lW,List.length_cons]
  have:=Hj fl r (sU (zG fl s.lf) (zG fl k.1) k s) (n+1) (xl _ _ _ n h)
  omega
theorem RX(t:Tt)(c:Ct)(d:List (Int×Bool))(h:d.length≤40):(Bv t c d).1.ty.length≤1000:=by
 unfold Bv
 split
 ·exact Nat.zero_le _
 split
 ·exact Nat.zero_le _
 ·refine Nat.le_trans (Hj _ _ _ 1 (xl _ _ _ 0 (Nat.le_refl _))) ?_
  rw[List.length_tail];omega
section
variable(t:Tt)(c:Ct)(zT aT fT a7 a8 a9 a10 fB fA:T)(hT:uC t zT aT fT)(hC:xu c a7 a8 a9 a10 fB fA)(hN:S1 c)(hA:TtA t)(hB:CtA c)
include hC hN hT hA hB
theorem RY(s:se)(a:T)(hs:mi s a)(k:Int×Bool)(d:List (Int×Bool))(dT:T)(hd:Hd d dT):fj pE 3 [.agg [zT,aT,fT],.agg (fX c a7 a8 a9 a10 fB fA),.agg (gv s a),.agg [.i .i64 k.1,.b k.2],dT] []=some (.b true,[]):=by
 have hz:=V1 t c zT aT fT a7 a8 a9 a10 fB fA hT hC
 obtain⟨b,hli⟩:=RU t c zT aT fT a7 a8 a9 a10 fB fA hT hA hC hB
 have haw:=RV
 have hx:=hs.froz1
 have SO:=hs.cells
 have hx3:=hs.lenI
 have hy:=hd.choose_spec.1.froz
 have ZZ:=hd.choose_spec.1.lenI
 rw[fx fn3 (by simp[c3])]
 cases b with
 |false=>
  unfold fX gv at*
  simp(maxDischargeDepth:=6) only[qA,seval,c3,hli,dc7,haw,dc8,hz]
 |true=>
 by_cases h1:(40:Int)<d.length
 ·unfold fX gv at*
  simp(maxDischargeDepth:=6) only[qA,seval,c3,hli,dc7,haw,dc8,h1,ZZ,hz]
 by_cases h2:(40:Int)<s.ty.length
 ·unfold fX gv at*
  simp(maxDischargeDepth:=6) only[qA,seval,c3,hli,dc7,haw,dc8,h1,h2,ZZ,hx3,hz]
 obtain⟨u1,r1,p1,i1⟩:=KT t c zT aT fT a7 a8 a9 a10 fB fA hT hC hN k
 obtain⟨v1,p2,i2⟩:=KZ t c zT aT fT a7 a8 a9 a10 fB fA hT hC hN hA.f.2 k
 obtain⟨u2,r2,p3,i3⟩:=V2 t c zT aT fT a7 a8 a9 a10 fB fA hT hC hN s a hs (by omega) k
 obtain⟨v2,p4,i4⟩:=K0 t c zT aT fT a7 a8 a9 a10 fB fA hT hC hN hA.f.2 s a hs (by omega) k
 obtain⟨u3,r3,p5,i5⟩:=V3 t c zT aT fT a7 a8 a9 a10 fB fA hT hC hN d dT hd (by omega)
 obtain⟨v3,p6,i6⟩:=V5 t c zT aT fT a7 a8 a9 a10 fB fA hT hC hN hA.f.2 d dT hd (by omega)
 have e1:=x8 _ u1 v1 i1 i2 (Jh t c k)
 have e2:=x8 _ u2 v2 i3 i4 (RW t c s k (by omega))
 have e3:=x8 _ u3 v3 i5 i6 (RX t c d (by omega))
 have f1:=i1.froz1;have f2:=i2.froz1;have f3:=i3.froz1;have f4:=i4.froz1;have f5:=i5.froz1;have f6:=i6.froz1
 have g1:=i1.cells;have g2:=i2.cells;have g3:=i3.cells;have g4:=i4.cells;have g5:=i5.cells;have g6:=i6.cells
 clear i1 i2 i3 i4 i5 i6
 generalize nH t c k=A1 at*
 generalize xZ t c s k=A2 at*
 generalize Bv t c d=A3 at*
 unfold fX gv at*
 simp(maxDischargeDepth:=6) only[qA,seval,c3,hli,dc7,haw,dc8,h1,h2,hy,ZZ,hx,hx3,hz,p1,p2,p3,p4,p5,p6,dc9,afn,alN,afo,alP,alQ,e1,e2,e3,alR,f1,f2,f3,f4,f5,f6]
end
end Go.Proofs.YtblcbheipjeoeaaGreat
namespace Go.Proofs.YtblcbheipjeoeaaGreat
open Go Go.Ev
def tyS:List TypeId:= [34,132,147,134,149,276,279,27,28,29,30,31,32,3,9,4,26,22,23,24,144,142,151,153,84,82,39,36,37,41]
theorem Bx:tyS.all (aaO Tryz.prog tyS)=true:=by kernel_rfl
theorem aoh:jb Tryz.prog 34=some [3,3,3,3,3,3,3,27,28,29,30,31,32,3]:=by kernel_rfl
theorem ai4:jb Tryz.prog 132=some [3,3,9,30]:=by kernel_rfl
theorem ai5:jb Tryz.prog 147=some [9,132]:=by kernel_rfl
theorem ai6:jb Tryz.prog 134=some [3,9,132]:=by kernel_rfl
theorem ai7:jb Tryz.prog 149=some [3,132]:=by kernel_rfl
theorem ai8:jb Tryz.prog 276=some [9,9,3,3]:=by kernel_rfl
theorem ai9:jb Tryz.prog 279=some [9,3,3]:=by kernel_rfl
theorem arS: [27,28,29,30,31,32].map (Ea Tryz.prog)= [147,134,149,132,276,279].map some:=by kernel_rfl
theorem ap4: [132,147,134,149,276,279].all (fun t=>decide (0<Tryz.prog.bytesOf t))=true:=by kernel_rfl
theorem ty3:Tryz.prog.underlying 3=some (.int .i64):=by kernel_rfl
theorem ty9:Tryz.prog.underlying 9=some .string:=by kernel_rfl
theorem Dj:reachBytes≤kb:=by decide
theorem iu: ∀{n:Nat} {ts:List T},iT Tryz.prog n 3 ts→ ∃x,ts= [.i .i64 x]
 |0,_,h=>h.elim
 |n+1,ts,h=>by unfold iT at h;rw[ty3]at h;exact h
theorem nI: ∀{n:Nat} {ts:List T},iT Tryz.prog n 9 ts→ ∃s,ts= [.s s]∧s.length≤kb
 |0,_,h=>h.elim
 |n+1,ts,h=>by
  unfold iT at h;rw[ty9]at h
  obtain⟨s,h1,h2⟩:=h
  exact⟨s,h1,Nat.le_trans h2 Dj⟩
theorem k8{α:Type}{R:α→List T→Prop}{Q:α→Prop}{K:List T→Prop}(hR: ∀p,K p→ ∃x,R x p∧Q x): ∀(len:Nat) (cc:List T),uY K len cc→ ∃xs:List α,xs.length=len∧fy R xs cc∧ ∀x∈xs,Q x
 |0,cc,h=>⟨[],rfl,h,by simp⟩
 |len+1,cc,h=>by
  obtain⟨p,r,rfl,h1,h2⟩:=h
  obtain⟨x,x1,x2⟩:=hR p h1
  obtain⟨xs,y1,y2,y3⟩:=k8 hR len r h2
  refine⟨x::xs,by rw[List.length_cons,y1],⟨p,r,rfl,x1,y2⟩,fun z hz=> ?_⟩
  rcases List.mem_cons.1 hz with rfl|hz
  ·exact x2
  ·exact y3 z hz
theorem ua: ∀{xs:List Ex} {cc:List T},fy jY xs cc→hH xs cc
 | [],cc,h=>by rw[hH];exact h
 |x::xs,cc,h=>by
  obtain⟨c,r,rfl,h1,h2⟩:=h
  exact hH.cons h1 (ua h2)
theorem By: ∀{xs:Cs} {cc:List T},fy (fun c cs=> ∃ex,cs=T.s c.1::ex∧jY c.2 ex) xs cc→iR xs cc
 | [],cc,h=>by rw[iR];exact h
 |x::xs,cc,h=>by
  obtain⟨c,r,rfl,⟨ex,rfl,h1⟩,h2⟩:=h
  rw[iR];exact⟨ex,r,rfl,h1,By h2⟩
theorem sg{t e:TypeId}(he:Ea Tryz.prog t=some e)(hp:0<Tryz.prog.bytesOf e): ∀{n:Nat} {ts:List T},iT Tryz.prog n t ts→ ∃m v len cc,n=m+1∧ts= [v]∧fD v len cc∧len≤kb∧uY (iT Tryz.prog m e) len cc
 |0,_,h=>h.elim
 |n+1,ts,h=>by
  obtain⟨v,len,cc,h1,h2,h3,h4⟩:=h.row he
  exact⟨n,v,len,cc,rfl,h1,h2,Nat.le_trans (Nat.le_mul_of_pos_right len hp) (Nat.le_trans h3 Dj),h4⟩
theorem YF: ∀(k n:Nat) (ts:List T),n≤k→iT Tryz.prog n 132 ts→ ∃x:Ex,jY x ts∧x.al∧x.sm
 |0,0,_,_,h=>h.elim
 |_+1,0,_,_,h=>h.elim
 |k+1,n+1,ts,hk,h=>by
  obtain⟨p1,r1,rfl,h1,p2,r2,rfl,h2,p3,r3,rfl,h3,p4,r4,rfl,h4,rfl⟩:=h.st ai4
  obtain⟨op,rfl⟩:=iu h1
  obtain⟨num,rfl⟩:=iu h2
  obtain⟨s,rfl,hs⟩:=nI h3
  obtain⟨m,v,len,cc,rfl,rfl,h5,h6,h7⟩:=sg (e:=132) (by kernel_rfl) (of_decide_eq_true (by kernel_rfl)) h4
  obtain⟨xs,y1,y2,y3⟩:=k8 (Q:=fun x:Ex=>x.al∧x.sm) (fun p hp=>YF k m p (by omega) hp) len cc h7
  subst y1
  exact⟨.mk op num s xs,by rw[jY];exact⟨v,cc,rfl,h5,ua y2⟩,by rw[Ex.al];exact⟨h6,Ek.2 fun x hx=>(y3 x hx).1⟩,by rw[Ex.sm];exact⟨hs,zI.2 fun x hx=>(y3 x hx).2⟩⟩
theorem K1{n:Nat}{ts:List T}(h:iT Tryz.prog n 132 ts): ∃x:Ex,jY x ts∧x.al∧HC x:=by
 obtain⟨x,h1,h2,h3⟩:=YF n n ts (Nat.le_refl _) h
 exact⟨x,h1,h2,Nat.zero_le _,h3⟩
theorem aja: ∀{n:Nat} {p:List T},iT Tryz.prog n 147 p→ ∃c:List Nat×Ex,(∃ex,p=T.s c.1::ex∧jY c.2 ex)∧c.2.al∧HC c.2
 |0,_,h=>h.elim
 |n+1,p,h=>by
  obtain⟨p1,r1,rfl,h1,p2,r2,rfl,h2,rfl⟩:=h.st ai5
  obtain⟨s,rfl,_⟩:=nI h1
  obtain⟨x,x1,x2⟩:=K1 h2
  exact⟨(s,x),⟨p2,by simp,x1⟩,x2⟩
theorem ajb: ∀{n:Nat} {p:List T},iT Tryz.prog n 134 p→ ∃u:Ru,Nz u p∧u.x.al∧HC u.x
 |0,_,h=>h.elim
 |n+1,p,h=>by
  obtain⟨p0,r0,rfl,h0,p1,r1,rfl,h1,p2,r2,rfl,h2,rfl⟩:=h.st ai6
  obtain⟨k,rfl⟩:=iu h0
  obtain⟨s,rfl,_⟩:=nI h1
  obtain⟨x,x1,x2⟩:=K1 h2
  obtain⟨a,cc,rfl,y⟩:=x1.cells
  exact⟨⟨k,s,x⟩,⟨a,cc,rfl,y⟩,x2⟩
theorem ajc: ∀{n:Nat} {p:List T},iT Tryz.prog n 149 p→ ∃u:Co,SU u p∧u.x.al∧HC u.x
 |0,_,h=>h.elim
 |n+1,p,h=>by
  obtain⟨p0,r0,rfl,h0,p2,r2,rfl,h2,rfl⟩:=h.st ai7
  obtain⟨k,rfl⟩:=iu h0
  obtain⟨x,x1,x2⟩:=K1 h2
  obtain⟨a,cc,rfl,y⟩:=x1.cells
  exact⟨⟨k,x⟩,⟨a,cc,rfl,y⟩,x2⟩
theorem ajd: ∀{n:Nat} {p:List T},iT Tryz.prog n 276 p→ ∃u:Li,Vo u p∧True
 |0,_,h=>h.elim
 |n+1,p,h=>by
  obtain⟨p0,r0,rfl,h0,p1,r1,rfl,h1,p2,r2,rfl,h2,p3,r3,rfl,h3,rfl⟩:=h.st ai8
  obtain⟨s,rfl,_⟩:=nI h0
  obtain⟨m,rfl,_⟩:=nI h1
  obtain⟨x,rfl⟩:=iu h2
  obtain⟨y,rfl⟩:=iu h3
  exact⟨⟨s,m,x,y⟩,rfl,trivial⟩
theorem aje: ∀{n:Nat} {p:List T},iT Tryz.prog n 279 p→ ∃u:Of,Ym u p∧True
 |0,_,h=>h.elim
 |n+1,p,h=>by
  obtain⟨p0,r0,rfl,h0,p1,r1,rfl,h1,p2,r2,rfl,h2,rfl⟩:=h.st ai9
  obtain⟨s,rfl,_⟩:=nI h0
  obtain⟨x,rfl⟩:=iu h1
  obtain⟨y,rfl⟩:=iu h2
  exact⟨⟨s,x,y⟩,rfl,trivial⟩
theorem ajf: ∀{n:Nat} {p:List T},iT Tryz.prog n 34 p→ ∃(c:Ct) (a7 a8 a9 a10 fB fA:T),p=fX c a7 a8 a9 a10 fB fA∧xu c a7 a8 a9 a10 fB fA∧CtA c∧S1 c
 |0,_,h=>h.elim
 |n+1,p,h=>by
  obtain⟨p0,r0,rfl,h0,p1,r1,rfl,h1,p2,r2,rfl,h2,p3,r3,rfl,h3,p4,r4,rfl,h4,p5,r5,rfl,h5,p6,r6,rfl,h6,p7,r7,rfl,h7,p8,r8,rfl,h8,p9,r9,rfl,h9,p10,r10,rfl,nJ,p11,r11,rfl,nR,p12,r12,rfl,qC,p13,r13,rfl,V7,rfl⟩:=h.st aoh
  obtain⟨x0,rfl⟩:=iu h0
  obtain⟨x1,rfl⟩:=iu h1
  obtain⟨x2,rfl⟩:=iu h2
  obtain⟨x3,rfl⟩:=iu h3
  obtain⟨x4,rfl⟩:=iu h4
  obtain⟨x5,rfl⟩:=iu h5
  obtain⟨x6,rfl⟩:=iu h6
  obtain⟨x13,rfl⟩:=iu V7
  obtain⟨m7,a7,l7,c7,_,rfl,i7,b7,j7⟩:=sg (e:=147) (by kernel_rfl) (of_decide_eq_true (by kernel_rfl)) h7
  obtain⟨m8,a8,l8,c8,_,rfl,i8,b8,j8⟩:=sg (e:=134) (by kernel_rfl) (of_decide_eq_true (by kernel_rfl)) h8
  obtain⟨m9,a9,l9,c9,_,rfl,i9,b9,j9⟩:=sg (e:=149) (by kernel_rfl) (of_decide_eq_true (by kernel_rfl)) h9
  obtain⟨m10,a10,l10,pw,_,rfl,i10,b10,rY⟩:=sg (e:=132) (by kernel_rfl) (of_decide_eq_true (by kernel_rfl)) nJ
  obtain⟨m11,fB,l11,pX,_,rfl,i11,b11,tu⟩:=sg (e:=276) (by kernel_rfl) (of_decide_eq_true (by kernel_rfl)) nR
  obtain⟨m12,fA,l12,qD,_,rfl,i12,b12,tT⟩:=sg (e:=279) (by kernel_rfl) (of_decide_eq_true (by kernel_rfl)) qC
  obtain⟨v7,rfl,w7,q7⟩:=k8 (fun p hp=>aja hp) l7 c7 j7
  obtain⟨v8,rfl,w8,q8⟩:=k8 (fun p hp=>ajb hp) l8 c8 j8
  obtain⟨v9,rfl,w9,q9⟩:=k8 (fun p hp=>ajc hp) l9 c9 j9
  obtain⟨v10,rfl,w10,q10⟩:=k8 (fun p hp=>K1 hp) l10 pw rY
  obtain⟨v11,rfl,w11,_⟩:=k8 (fun p hp=>ajd hp) l11 pX tu
  obtain⟨v12,rfl,w12,_⟩:=k8 (fun p hp=>aje hp) l12 qD tT
  refine⟨⟨x0,x1,x2,x3,x4,x5,x6,v7,v8,v9,v10,v11,v12,x13⟩,a7,a8,a9,a10,fB,fA,rfl,⟨⟨_,i7,By w7⟩,⟨_,i8,w8⟩,⟨_,i9,w9⟩,⟨_,i10,ua w10⟩,⟨_,i11,w11⟩,⟨_,i12,w12⟩⟩, ?_, ?_⟩
  ·exact⟨⟨fun u hu=>(q7 u hu).1,b7⟩,⟨fun u hu=>(q8 u hu).1,b8⟩,⟨fun u hu=>(q9 u hu).1,b9⟩,⟨fun u hu=>(q10 u hu).1,b10⟩,b11,b12⟩
  ·exact⟨fun u hu=>(q7 u hu).2,fun u hu=>(q8 u hu).2,fun u hu=>(q9 u hu).2,fun u hu=>(q10 u hu).2⟩
theorem aoi:jb Tryz.prog 26=some [22,23,24]:=by kernel_rfl
theorem ajg:jb Tryz.prog 144=some [9,3,142]:=by kernel_rfl
theorem ajh:jb Tryz.prog 151=some [3,3]:=by kernel_rfl
theorem aji:jb Tryz.prog 153=some [9,9]:=by kernel_rfl
theorem aoj:jb Tryz.prog 84=some [9,9,9,3,3,9,82]:=by kernel_rfl
theorem aok:QL Tryz.prog 82=some (3,3):=by kernel_rfl
theorem aol:jb Tryz.prog 39=some [36,36,3,3,3,3,3,37]:=by kernel_rfl
theorem aom:jb Tryz.prog 36=some [3,4]:=by kernel_rfl
theorem ty4:Tryz.prog.underlying 4=some .bool:=by kernel_rfl
theorem V8: ∀{n:Nat} {ts:List T},iT Tryz.prog n 4 ts→ ∃x,ts= [.b x]
 |0,_,h=>h.elim
 |n+1,ts,h=>by unfold iT at h;rw[ty4]at h;exact h
theorem ajj: ∀{n:Nat} {p:List T},iT Tryz.prog n 151 p→ ∃u:Int×Int,NA u p∧True
 |0,_,h=>h.elim
 |n+1,p,h=>by
  obtain⟨p0,r0,rfl,h0,p1,r1,rfl,h1,rfl⟩:=h.st ajh
  obtain⟨x,rfl⟩:=iu h0
  obtain⟨y,rfl⟩:=iu h1
  exact⟨(x,y),rfl,trivial⟩
theorem ajk: ∀{n:Nat} {p:List T},iT Tryz.prog n 144 p→ ∃u:Zo,HG u p∧u.sh.length≤kb
 |0,_,h=>h.elim
 |n+1,p,h=>by
  obtain⟨p0,r0,rfl,h0,p1,r1,rfl,h1,p2,r2,rfl,h2,rfl⟩:=h.st ajg
  obtain⟨s,rfl,_⟩:=nI h0
  obtain⟨x,rfl⟩:=iu h1
  obtain⟨m,v,len,cc,rfl,rfl,h5,h6,h7⟩:=sg (e:=151) (by kernel_rfl) (of_decide_eq_true (by kernel_rfl)) h2
  obtain⟨xs,rfl,y2,_⟩:=k8 (fun p hp=>ajj hp) len cc h7
  exact⟨⟨s,x,xs⟩,⟨v,cc,rfl,h5,y2⟩,h6⟩
theorem ajl: ∀{n:Nat} {p:List T},iT Tryz.prog n 153 p→ ∃u:Ap,IW u p∧True
 |0,_,h=>h.elim
 |n+1,p,h=>by
  obtain⟨p0,r0,rfl,h0,p1,r1,rfl,h1,rfl⟩:=h.st aji
  obtain⟨x,rfl,_⟩:=nI h0
  obtain⟨y,rfl,_⟩:=nI h1
  exact⟨⟨x,y⟩,rfl,trivial⟩
theorem ajm: ∀{n:Nat} {p:List T},iT Tryz.prog n 82 p→ ∃x y z:Int,p= [.i .i64 x,.i .i64 y,.i .i64 z]
 |0,_,h=>h.elim
 |n+1,p,h=>by
  obtain⟨p0,r0,rfl,h0,p1,r1,rfl,h1,p2,r2,rfl,h2,rfl⟩:=h.arr aok
  obtain⟨x,rfl⟩:=iu h0
  obtain⟨y,rfl⟩:=iu h1
  obtain⟨z,rfl⟩:=iu h2
  exact⟨x,y,z,rfl⟩
theorem ajn: ∀{n:Nat} {p:List T},iT Tryz.prog n 84 p→ ∃u:Fl,SX u p∧u.nu.length≤kb
 |0,_,h=>h.elim
 |n+1,p,h=>by
  obtain⟨p0,r0,rfl,h0,p1,r1,rfl,h1,p2,r2,rfl,h2,p3,r3,rfl,h3,p4,r4,rfl,h4,p5,r5,rfl,h5,p6,r6,rfl,h6,rfl⟩:=h.st aoj
  obtain⟨x0,rfl,l0⟩:=nI h0
  obtain⟨x1,rfl,_⟩:=nI h1
  obtain⟨x2,rfl,_⟩:=nI h2
  obtain⟨x3,rfl⟩:=iu h3
  obtain⟨x4,rfl⟩:=iu h4
  obtain⟨x5,rfl,_⟩:=nI h5
  obtain⟨a,b,c,rfl⟩:=ajm h6
  exact⟨⟨x0,x1,x2,x3,x4,x5,a,b,c⟩,rfl,l0⟩
theorem ajo: ∀{n:Nat} {p:List T},iT Tryz.prog n 26 p→ ∃(t:Tt) (zT aT fT:T),p= [zT,aT,fT]∧uC t zT aT fT∧TtA t
 |0,_,h=>h.elim
 |n+1,p,h=>by
  obtain⟨p0,r0,rfl,h0,p1,r1,rfl,h1,p2,r2,rfl,h2,rfl⟩:=h.st aoi
  obtain⟨m0,v0,l0,c0,_,rfl,i0,b0,j0⟩:=sg (e:=144) (by kernel_rfl) (of_decide_eq_true (by kernel_rfl)) h0
  obtain⟨m1,v1,l1,c1,_,rfl,i1,b1,j1⟩:=sg (e:=153) (by kernel_rfl) (of_decide_eq_true (by kernel_rfl)) h1
  obtain⟨m2,v2,l2,c2,_,rfl,i2,b2,j2⟩:=sg (e:=84) (by kernel_rfl) (of_decide_eq_true (by kernel_rfl)) h2
  obtain⟨zs,rfl,w0,q0⟩:=k8 (fun p hp=>ajk hp) l0 c0 j0
  obtain⟨aps,rfl,w1,_⟩:=k8 (fun p hp=>ajl hp) l1 c1 j1
  obtain⟨fs,rfl,w2,q2⟩:=k8 (fun p hp=>ajn hp) l2 c2 j2
  exact⟨⟨zs,aps,fs⟩,v0,v1,v2,rfl,⟨⟨_,i0,w0⟩,⟨_,i1,w1⟩,⟨_,i2,w2⟩⟩,⟨⟨q0,b0⟩,b1,b2,q2⟩⟩
theorem K2: ∀{n:Nat} {p:List T},iT Tryz.prog n 36 p→ ∃u:Int×Bool,VQ u p∧True
 |0,_,h=>h.elim
 |n+1,p,h=>by
  obtain⟨p0,r0,rfl,h0,p1,r1,rfl,h1,rfl⟩:=h.st aom
  obtain⟨x,rfl⟩:=iu h0
  obtain⟨y,rfl⟩:=V8 h1
  exact⟨(x,y),rfl,trivial⟩
theorem ajp: ∀{n:Nat} {p:List T},iT Tryz.prog n 9 p→ ∃u:List Nat,(p= [.s u])∧True:=fun h=>by
 obtain⟨s,h,_⟩:=nI h
 exact⟨s,h,trivial⟩
theorem RZ: ∀{xs:List (List Nat)} {cc:List T},fy (fun u p=>p= [T.s u]) xs cc→cc=xs.map T.s
 | [],cc,h=>h
 |x::xs,cc,h=>by
  obtain⟨c,r,rfl,rfl,h2⟩:=h
  rw[RZ h2];rfl
theorem abF: ∀{n:Nat} {p:List T},iT Tryz.prog n 39 p→ ∃(s:se) (a:T),p=gv s a∧mi s a
 |0,_,h=>h.elim
 |n+1,p,h=>by
  obtain⟨p0,r0,rfl,h0,p1,r1,rfl,h1,p2,r2,rfl,h2,p3,r3,rfl,h3,p4,r4,rfl,h4,p5,r5,rfl,h5,p6,r6,rfl,h6,p7,r7,rfl,h7,rfl⟩:=h.st aol
  obtain⟨x0,rfl,_⟩:=K2 h0
  obtain⟨x1,rfl,_⟩:=K2 h1
  obtain⟨x2,rfl⟩:=iu h2
  obtain⟨x3,rfl⟩:=iu h3
  obtain⟨x4,rfl⟩:=iu h4
  obtain⟨x5,rfl⟩:=iu h5
  obtain⟨x6,rfl⟩:=iu h6
  obtain⟨m,v,len,cc,rfl,rfl,i,b,j⟩:=sg (e:=9) (by kernel_rfl) (of_decide_eq_true (by kernel_rfl)) h7
  obtain⟨xs,rfl,w,_⟩:=k8 (fun p hp=>ajp hp) len cc j
  rw[RZ w]at i
  exact⟨⟨x0.1,x0.2,x1.1,x1.2,x2,x3,x4,x5,x6,xs⟩,v,rfl,i⟩
theorem ajq: ∀{n:Nat} {p:List T},iT Tryz.prog n 41 p→ ∃(d:List (Int×Bool)) (v:T),p= [v]∧Hd d v
 |0,_,h=>h.elim
 |n+1,p,h=>by
  obtain⟨m,v,len,cc,_,rfl,i,b,j⟩:=sg (e:=36) (by kernel_rfl) (of_decide_eq_true (by kernel_rfl)) h
  obtain⟨xs,rfl,w,_⟩:=k8 (fun p hp=>K2 hp) len cc j
  exact⟨xs,v,rfl,cc,i,w⟩
theorem Na{n0 n1 n2 n3 n4:Nat}{p0 p1 p2 p3 p4:List T}(h0:iT Tryz.prog n0 26 p0)(h1:iT Tryz.prog n1 34 p1)(h2:iT Tryz.prog n2 39 p2)(h3:iT Tryz.prog n3 36 p3)(h4:iT Tryz.prog n4 41 p4):
  ∃dT,p4= [dT]∧fj pE 3 [.agg p0,.agg p1,.agg p2,.agg p3,dT] []=some (.b true,[]):=by
 obtain⟨t,zT,aT,fT,rfl,hT,hA⟩:=ajo h0
 obtain⟨c,a7,a8,a9,a10,fB,fA,rfl,hC,hB,hN⟩:=ajf h1
 obtain⟨s,a,rfl,hs⟩:=abF h2
 obtain⟨k,hk,_⟩:=K2 h3
 obtain⟨d,dT,rfl,hd⟩:=ajq h4
 rw[VQ]at hk
 subst hk
 exact⟨dT,rfl,RY t c zT aT fT a7 a8 a9 a10 fB fA hT hC hN hA hB s a hs k d dT hd⟩
end Go.Proofs.YtblcbheipjeoeaaGreat
