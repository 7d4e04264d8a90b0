/- Walks of functions of the program and of the reference, and their plain laws, part 9. Conditions: the theorems' own. -/
import Derived.Test.YtcpceiclnbmgiaaGreatM8
import Derived.KernelRfl
set_option maxRecDepth 100000
set_option linter.unusedSimpArgs false
set_option linter.unusedVariables false
set_option maxHeartbeats 16000000
namespace Go.Proofs.YtcpceiclnbmgiaaGreat
open Go Go.Ev
theorem En{α β:Type}[DecidableEq α]{s:α}: ∀{m:List (α×β)},s∉m.map Prod.fst→iy m s=none
 | [],_=>rfl
 |p::m,h=>by
  rw[List.map_cons,List.mem_cons,not_or]at h
  rw[iy,if_neg h.1,En h.2]
theorem Mr.fz{z:Zo}{c:List T}(h:Mr z c):c.all froz1=true∧c.length=3:=by
 obtain⟨a,r,rfl,i,_⟩:=h
 exact⟨by simp[i.froz1,Ha,ym],rfl⟩
def Ms(i:List Zo)(m:List (List Nat×List T)):Prop:= ∀p∈m,∃z∈i,z.nm=p.1∧Mr z p.2
theorem PT{l:List (List Nat)}(i:l.Nodup){k:Nat}(hk:k<l.length):l[k]∉l.take k:=by
 intro r
 obtain⟨j,D,e⟩:=List.getElem_of_mem r
 rw[List.length_take]at D
 rw[List.getElem_take]at e
 exact List.pairwise_iff_getElem.1 i j k (by omega) hk (by omega) e
theorem nwz(l:List Zo)(Z:(l.map Zo.nm).Nodup)(a:T)(cc:List T)(ha:IsSl a l.length cc)(hc:hZ Mr l cc)(hlen:l.length≤100)(X c3 Kf F:b8)(fr:Fr)(lh:gW b8)(sh:List b8)
  (J:an fr 9= .mp .L 38 1) (r:an fr 40=a) (Ww:an fr 41= .i .i64 (l.length:Int)) (D:an fr 42= .i .i64 0) (K:b7 lh 2=X) (N:b7 lh 3=c3) (O:b7 lh 35=Kf) (U:b7 lh 37=F) (Kg:b7 lh 38=⟨1,.map [] [] false⟩):
  wJ 232 oy fr lh sh (.ext 0)∧
  (b7 (nE pE 232 oy fr lh sh) 2=X∧b7 (nE pE 232 oy fr lh sh) 3=c3∧b7 (nE pE 232 oy fr lh sh) 35=Kf∧b7 (nE pE 232 oy fr lh sh) 37=F∧(∃m,b7 (nE pE 232 oy fr lh sh) 38=⟨1,.map (m.map fun p=>sK p.1) (m.map fun p=>T.agg p.2) false⟩∧Ms l m∧m.map Prod.fst=l.map Zo.nm)∧oi pE 232 oy fr lh sh=sh):=by
 refine jv (P:=fun jA V iE=>b7 V 2=X∧b7 V 3=c3∧b7 V 35=Kf∧b7 V 37=F∧(∃m,b7 V 38=⟨1,.map (m.map fun p=>sK p.1) (m.map fun p=>T.agg p.2) false⟩∧Ms l m∧m.map Prod.fst=l.map Zo.nm)∧iE=sh)
  (jR (fun k st=> ∃(fr:Fr) (H:gW b8) (m:List (List Nat×List T)),st=⟨fr,H,sh⟩∧m.map Prod.fst=(l.map Zo.nm).take k∧Ms l m∧an fr 9= .mp .L 38 1∧an fr 40=a∧an fr 41= .i .i64 (l.length:Int)∧an fr 42= .i .i64 (k:Int)∧b7 H 2=X∧b7 H 3=c3∧b7 H 35=Kf∧b7 H 37=F∧b7 H 38=⟨1,.map (m.map fun p=>sK p.1) (m.map fun p=>T.agg p.2) false⟩) _ l.length ?_ ?_ 0 _ (Nat.zero_le _) ⟨fr,lh,[],rfl,by simp,(fun p hp=>by cases hp),J,r,Ww,D,K,N,O,U,Kg⟩)
 ·rintro k _ hk ⟨fr,H,m,rfl,Y,I,J,r,Ww,D,K,N,O,U,Kg⟩
  left
  have iP:(k:Int)<l.length:=by omega
  have hw:=iJ (k:=k) (by omega)
  obtain⟨W,sc,rr,iU,vF,EJ⟩:=afQ ha hc k hk
  have Ws:k<(l.map Zo.nm).length:=by simpa using hk
  have xc:iy m l[k].nm=none:=En (by rw[Y];have:=PT Z Ws;rwa [List.getElem_map]at this)
  have nO:qj (.one .str) (.s l[k].nm) (.agg [.s l[k].nm,.i .i64 l[k].o,W]) (m.map fun p=>sK p.1) (m.map fun p=>T.agg p.2)=_:=yq (kT:=sK) (vT:=T.agg) E1 m l[k].nm [.s l[k].nm,.i .i64 l[k].o,W] xc
  have hzr: ∃z∈l,z.nm=l[k].nm∧Mr z [.s l[k].nm,.i .i64 l[k].o,W]:=⟨l[k],List.getElem_mem hk,rfl,W,sc,rfl,vF,EJ⟩
  have YV:(l.map Zo.nm).take (k+1)=(l.map Zo.nm).take k++ [l[k].nm]:=by rw[List.take_succ_eq_append_getElem Ws,List.getElem_map]
  rw[YV]
  generalize l[k]=z at*
  simp only[qA,seval,oy,J,r,Ww,D,Kg,iP,iU,hw,th,Bd,nO,vF.froz1]
  refine⟨_,rfl,_,_,m++ [(z.nm,[.s z.nm,.i .i64 z.o,W])],rfl, ?_, ?_, ?_, ?_, ?_, ?_, ?_, ?_, ?_, ?_, ?_⟩
  ·rw[List.map_append,Y];rfl
  ·intro p hp
   rcases List.mem_append.1 hp with hp|hp
   ·exact I p hp
   ·rw[List.mem_singleton.1 hp];exact hzr
  all_goals (simp only[qA,seval,J,r,Ww,K,N,O,U])
 ·rintro _ ⟨fr,H,m,rfl,Y,I,J,r,Ww,D,K,N,O,U,Kg⟩
  simp only[qA,seval,oy,Ww,D,Int.lt_irrefl]
  exact⟨_,_,ui,rfl,rfl,K,N,O,U,⟨m,Kg,I,by rw[Y,List.take_of_length_le (by simp)]⟩,rfl⟩
def l7(i r D:T)(c:Ct)(F H I J hU K:T)(N:List T):List T:=i::r::D::(jE c F H I J hU K++ .mp .L 35 1::N)
theorem yG{α β:Type}[DecidableEq α]{s:α}{v:β}: ∀{m:List (α×β)},iy m s=some v→(s,v)∈m
 | [],h=>by cases h
 |p::m,h=>by
  rw[iy]at h
  split at h
  ·rename_i e;injection h with h;subst h;rw[e];exact List.mem_cons_self ..
  ·exact List.mem_cons_of_mem _ (yG h)
theorem Au{α β:Type}[DecidableEq α]{s:α}: ∀{m:List (α×β)},s∈m.map Prod.fst→ ∃v,iy m s=some v
 | [],h=>by cases h
 |p::m,h=>by
  rw[iy]
  split
  ·exact⟨_,rfl⟩
  ·rename_i e
   rw[List.map_cons,List.mem_cons]at h
   rcases h with h|h
   ·exact absurd h e
   ·exact Au h
def Rk(i:List Zo)(r:List Ap)(q:List (List Nat×List T)):Prop:= ∀p∈q,∃u∈r,u.cd=p.1∧ ∃z∈i,z.nm=u.zn∧Mr z p.2
theorem adg{r:List Zo}{m:List (List Nat×List T)}(H:Ms r m)(I:m.map Prod.fst=r.map Zo.nm)(s:List Nat)(hs:s∈r.map Zo.nm): ∃v,(∃z∈r,z.nm=s∧Mr z v)∧na (.one .str) (m.map fun p=>sK p.1) (m.map fun p=>T.agg p.2) (.s s) (.agg [.s [],.i .i64 0,.nilsl]) false=some (.agg v)∧v.all froz1=true∧v.length=3:=by
 have D:=Ou (kT:=sK) (vT:=T.agg) E1 (fun _=>rfl) m s (.agg [.s [],.i .i64 0,.nilsl])
 obtain⟨v,h⟩:=Au (by rw[I];exact hs)
 rw[h]at D
 obtain⟨z,J,K,F⟩:=H _ (yG h)
 exact⟨v,⟨z,J,K,F⟩,D,F.fz⟩
theorem nwa(l:List Ap)(hnd:(l.map Ap.cd).Nodup)(a:T)(cc:List T)(ha:IsSl a l.length cc)(hc:hZ ApR l cc)(hlen:l.length≤100)(F:List Zo)(m:List (List Nat×List T))(J:Ms F m∧m.map Prod.fst=F.map Zo.nm)(hzn: ∀u∈l,u.zn∈F.map Zo.nm)(X Y Z:T)(c:Ct)(a7 a8 a9 gX hU gZ:T)(vs:List T)(c2 c3:b8)(fr:Fr)(lh:gW b8)(sh:List b8)
  (K:an fr 8= .ptr .L 37 1 0) (N:an fr 9= .mp .L 38 1) (Su:an fr 52=a) (I:an fr 53= .i .i64 (l.length:Int)) (O:an fr 54= .i .i64 0) (U:b7 lh 2=c2) (V:b7 lh 3=c3) (W:b7 lh 35=⟨1,.map [] [] false⟩) (r:b7 lh 37=⟨1,.cells (l7 X Y Z c a7 a8 a9 gX hU gZ vs) 0 true⟩) (Kg:b7 lh 38=⟨1,.map (m.map fun p=>sK p.1) (m.map fun p=>T.agg p.2) false⟩):
  wJ 232 pD fr lh sh (.ext 2)∧
  (b7 (nE pE 232 pD fr lh sh) 2=c2∧b7 (nE pE 232 pD fr lh sh) 3=c3∧b7 (nE pE 232 pD fr lh sh) 37=⟨1,.cells (l7 X Y Z c a7 a8 a9 gX hU gZ vs) 0 true⟩∧(∃q,b7 (nE pE 232 pD fr lh sh) 35=⟨1,.map (q.map fun p=>sK p.1) (q.map fun p=>T.agg p.2) false⟩∧Rk F l q∧q.map Prod.fst=l.map Ap.cd)∧oi pE 232 pD fr lh sh=sh):=by
 refine jv (P:=fun jA iI iE=>b7 iI 2=c2∧b7 iI 3=c3∧b7 iI 37=⟨1,.cells (l7 X Y Z c a7 a8 a9 gX hU gZ vs) 0 true⟩∧(∃q,b7 iI 35=⟨1,.map (q.map fun p=>sK p.1) (q.map fun p=>T.agg p.2) false⟩∧Rk F l q∧q.map Prod.fst=l.map Ap.cd)∧iE=sh)
  (jR (fun k st=> ∃(fr:Fr) (D:gW b8) (q:List (List Nat×List T)),st=⟨fr,D,sh⟩∧q.map Prod.fst=(l.map Ap.cd).take k∧Rk F l q∧an fr 8= .ptr .L 37 1 0∧an fr 9= .mp .L 38 1∧an fr 52=a∧an fr 53= .i .i64 (l.length:Int)∧an fr 54= .i .i64 (k:Int)∧b7 D 2=c2∧b7 D 3=c3∧b7 D 37=⟨1,.cells (l7 X Y Z c a7 a8 a9 gX hU gZ vs) 0 true⟩∧b7 D 38=⟨1,.map (m.map fun p=>sK p.1) (m.map fun p=>T.agg p.2) false⟩∧b7 D 35=⟨1,.map (q.map fun p=>sK p.1) (q.map fun p=>T.agg p.2) false⟩) _ l.length ?_ ?_ 0 _ (Nat.zero_le _) ⟨fr,lh,[],rfl,by simp,(fun p hp=>by cases hp),K,N,Su,I,O,U,V,r,Kg,W⟩)
 ·rintro k _ hk ⟨fr,D,q,rfl,hq,H,K,N,Su,I,O,U,V,r,Kg,W⟩
  left
  have iP:(k:Int)<l.length:=by omega
  have hw:=iJ (k:=k) (by omega)
  obtain⟨rr,iU⟩:=afR ha hc k hk
  have Ws:k<(l.map Ap.cd).length:=by simpa using hk
  have xc:iy q l[k].cd=none:=En (by rw[hq];have:=PT hnd Ws;rwa [List.getElem_map]at this)
  obtain⟨v,hzv,lQ,LH,Sn⟩:=adg J.1 J.2 l[k].zn (hzn _ (List.getElem_mem hk))
  have hqv: ∃u∈l,u.cd=l[k].cd∧ ∃z∈F,z.nm=u.zn∧Mr z v:=⟨l[k],List.getElem_mem hk,rfl,hzv⟩
  have nO:qj (.one .str) (.s l[k].cd) (.agg v) (q.map fun p=>sK p.1) (q.map fun p=>T.agg p.2)=_:=yq (kT:=sK) (vT:=T.agg) E1 q l[k].cd v xc
  have YV:(l.map Ap.cd).take (k+1)=(l.map Ap.cd).take k++ [l[k].cd]:=by rw[List.take_succ_eq_append_getElem Ws,List.getElem_map]
  rw[YV]
  generalize l[k]=z at*
  unfold l7 jE at r ⊢
  simp only[List.cons_append,List.nil_append]at r ⊢
  simp only[qA,seval,jq,ig,pD,K,N,Su,I,O,W,r,Kg,iP,iU,hw,ju,lQ,LH,th,Bd,nO]
  refine⟨_,rfl,_,_,q++ [(z.cd,v)],rfl, ?_, ?_, ?_, ?_, ?_, ?_, ?_, ?_, ?_, ?_, ?_, ?_⟩
  ·rw[List.map_append,hq];rfl
  ·intro p hp
   rcases List.mem_append.1 hp with hp|hp
   ·exact H p hp
   ·rw[List.mem_singleton.1 hp];exact hqv
  all_goals (simp only[qA,seval,K,N,Su,I,U,V,r,Kg])
 ·rintro _ ⟨fr,D,q,rfl,hq,H,K,N,Su,I,O,U,V,r,Kg,W⟩
  simp only[qA,seval,pD,I,O,Int.lt_irrefl]
  exact⟨_,_,ui,rfl,rfl,U,V,r,⟨q,W,H,by rw[hq,List.take_of_length_le (by simp)]⟩,rfl⟩
theorem YW{n:Nat}(h:n≤1000):(n+1)*56≤roomy:=by unfold roomy;omega
theorem akY:56≤roomy:=by unfold roomy;omega
def ml(i r D F H c3 cr I:T):List T:= [.nilsl,i,r,D,.nilsl,F,H,c3,cr,I]
def m7(i r D F H c3 cr:T)(I J K N O U V:RL):List (Nat×T×RL):= [(4,i,I),(4,r,J),(4,D,K),(3,F,N),(3,H,O),(3,c3,U),(3,cr,V)]
def yy(c:Ct)(j:Int)(k:Nat):RL:=((c.ru.take k).filter fun u=>u.sc==j).map fun u=>(u.nm,comp (pJ c.cs) u.sc u.x)
def Bz(c:Ct)(j:Int)(k:Nat):RL:=((c.co.take k).filter fun u=>u.sc==j).map fun u=>([],comp (pJ c.cs) u.sc u.x)
def Sr(c:Ct)(k:Nat):RL:=(c.cr.take k).map fun u=>([],comp (pJ c.cs) 1 u)
theorem Eo(c:Ct)(j:Int){k:Nat}(hk:k<c.ru.length):yy c j (k+1)=if c.ru[k].sc=j then yy c j k++ [(c.ru[k].nm,comp (pJ c.cs) c.ru[k].sc c.ru[k].x)]else yy c j k:=by
 grind [yy,List.take_succ_eq_append_getElem]
theorem Ep(c:Ct)(j:Int){k:Nat}(hk:k<c.co.length):Bz c j (k+1)=if c.co[k].sc=j then Bz c j k++ [([],comp (pJ c.cs) c.co[k].sc c.co[k].x)]else Bz c j k:=by
 grind [Bz,List.take_succ_eq_append_getElem]
theorem Wu(c:Ct){k:Nat}(hk:k<c.cr.length):Sr c (k+1)=Sr c k++ [([],comp (pJ c.cs) 1 c.cr[k])]:=by
 grind [Sr,List.take_succ_eq_append_getElem]
theorem aBB:ll [] 0 (m7 .nilsl .nilsl .nilsl .nilsl .nilsl .nilsl .nilsl [] [] [] [] [] [] []):=by
 have r: ∀p∈m7 .nilsl .nilsl .nilsl .nilsl .nilsl .nilsl .nilsl [] [] [] [] [] [] [],p.2=(.nilsl,[]):=by
  simp_all[m7,List.mem_cons,List.not_mem_nil]
 exact⟨fun p D=> .inl (by rw[r p D];exact⟨rfl,rfl⟩),fun i j hi F _=> .inl (by rw[r _ (List.getElem_mem hi)];rfl)⟩
def Rj(l:Cs)(i:Int)(x:Ex):Prop:=(i=1∨i=2∨i=3)∧jo x=0∧ ∃k,x.ty (Ls l) i=(k,0)
theorem nwr(c:Ct)(N a8:T)(c7 c8:List T)(i7:IsSl N c.cs.length c7)(j7:lS c.cs c7)(i8:IsSl a8 c.ru.length c8)(j8:hZ Sv c.ru c8)(hlen:c.ru.length≤40)(tV: ∀u∈c.ru,Rj c.cs u.sc u.x)(zT aT fT a9 gX hU gZ nb:T)(c2 c3 Kf:b8)(DG:List (Nat×Int))(Al:od c.cs DG)(fr:Fr)(lh:gW b8)(sh:List b8)(lC:sh=ln N (je c.cs c.cs.length) DG [])
  (I:an fr 8= .ptr .L 37 1 0) (J:an fr 14= .ptr .S 2 1 0) (Kh:an fr 73=a8) (If:an fr 74= .i .i64 (c.ru.length:Int)) (Sw:an fr 75= .i .i64 0) (V:b7 lh 2=c2) (W:b7 lh 3=c3) (X:b7 lh 35=Kf) (K:b7 lh 37=⟨1,.cells (l7 zT aT fT c N a8 a9 gX hU gZ (ml .nilsl .nilsl .nilsl .nilsl .nilsl .nilsl .nilsl nb)) 0 true⟩):
  wJ 232 mn fr lh sh (.ext 4)∧
  (b7 (nE pE 232 mn fr lh sh) 2=c2∧b7 (nE pE 232 mn fr lh sh) 3=c3∧b7 (nE pE 232 mn fr lh sh) 35=Kf∧ ∃(R:List b8) (kn:List (Nat×Int)) (D F H:T),oi pE 232 mn fr lh sh=ln N (je c.cs c.cs.length) kn R∧od c.cs kn∧ll R 40 (m7 D F H .nilsl .nilsl .nilsl .nilsl (yy c 1 c.ru.length) (yy c 2 c.ru.length) (yy c 3 c.ru.length) [] [] [] [])∧b7 (nE pE 232 mn fr lh sh) 37=⟨1,.cells (l7 zT aT fT c N a8 a9 gX hU gZ (ml D F H .nilsl .nilsl .nilsl .nilsl nb)) 0 true⟩):=by
 refine jv (P:=fun jA iI iE=>b7 iI 2=c2∧b7 iI 3=c3∧b7 iI 35=Kf∧ ∃(R:List b8) (kn:List (Nat×Int)) (D F H:T),iE=ln N (je c.cs c.cs.length) kn R∧od c.cs kn∧ll R 40 (m7 D F H .nilsl .nilsl .nilsl .nilsl (yy c 1 c.ru.length) (yy c 2 c.ru.length) (yy c 3 c.ru.length) [] [] [] [])∧b7 iI 37=⟨1,.cells (l7 zT aT fT c N a8 a9 gX hU gZ (ml D F H .nilsl .nilsl .nilsl .nilsl nb)) 0 true⟩)
  (jR (fun k st=> ∃(fr:Fr) (kV:gW b8) (R:List b8) (kn:List (Nat×Int)) (D F H:T),st=⟨fr,kV,ln N (je c.cs c.cs.length) kn R⟩∧od c.cs kn∧ll R k (m7 D F H .nilsl .nilsl .nilsl .nilsl (yy c 1 k) (yy c 2 k) (yy c 3 k) [] [] [] [])∧an fr 8= .ptr .L 37 1 0∧an fr 14= .ptr .S 2 1 0∧an fr 73=a8∧an fr 74= .i .i64 (c.ru.length:Int)∧an fr 75= .i .i64 (k:Int)∧b7 kV 2=c2∧b7 kV 3=c3∧b7 kV 35=Kf∧b7 kV 37=⟨1,.cells (l7 zT aT fT c N a8 a9 gX hU gZ (ml D F H .nilsl .nilsl .nilsl .nilsl nb)) 0 true⟩) _ c.ru.length ?_ ?_ 0 _ (Nat.zero_le _) ⟨fr,lh,[],DG,.nilsl,.nilsl,.nilsl,by rw[lC],Al,aBB,I,J,Kh,If,Sw,V,W,X,K⟩)
 ·rintro k _ hk ⟨fr,kV,R,kn,D,F,H,rfl,pR,O,I,J,Kh,If,Sw,V,W,X,K⟩
  left
  have iP:(k:Int)<c.ru.length:=by omega
  have hw:=iJ (k:=k) (by omega)
  obtain⟨b,cb,rr,iU,mP,hb⟩:=La i8 j8 k hk
  obtain⟨mF,hval,t,zh⟩:=tV c.ru[k] (List.getElem_mem hk)
  have DH:=(oL hval).1
  obtain⟨cf,jM,gU,zY,oe,_⟩:=Hl c.cs N R c.cs.length (Nat.le_refl _) (Hm c.cs N R c7 i7 j7) c.ru[k].sc (.inr mF) c.ru[k].x t kn _ pR hb DH (nZ hval) (by rw[DI];exact zh)
  have oR:=BW (pJ c.cs) c.ru[k].sc c.ru[k].x
  have Y:=Eo c 1 hk
  have Z:=Eo c 2 hk
  have s3:=Eo c 3 hk
  generalize c.ru[k]=u at*
  generalize comp (pJ c.cs) u.sc u.x=y at*
  obtain⟨r,fc,rfl,Bx,hf2⟩:=zY.cells
  have H9:Zb (u.nm,y) [.s u.nm,.i .i64 y.op,.i .i64 y.num,r]:=⟨_,rfl,zY⟩
  have yx:zi 4 [(u.nm,y)] [.s u.nm,.i .i64 y.op,.i .i64 y.num,r]:=by
   have:=(zi.nil 4).app4 (u.nm,y) _ H9 (by show y.sz≤1000;omega)
   grind
  have Ey:=akY
  have aHJ:k≤40:=by omega
  unfold l7 jE ml at K ⊢
  simp only[List.cons_append,List.nil_append]at K ⊢
  rcases mF with mF|mF|mF <;> rw[mF]at iU gU
  ·have U:=O.1 (4,D,yy c 1 k) (by simp[m7])
   rw[if_pos mF]at Y
   rw[if_neg (by rw[mF];decide)]at Z s3
   rcases U with⟨my,AU⟩|⟨i,g,n,cs,hv,hE,hi,hn,hB,hfz⟩
   ·simp only at my AU
    subst my
    rw[AU,List.nil_append]at Y
    have vJ:=(O.mono (Nat.le_succ k)).new (by omega) 0 (by simp[m7]) (sz:=4) rfl [.s u.nm,.i .i64 y.op,.i .i64 y.num,r] rfl _ yx
    simp only[qA,seval,kS,repl,jq,ig,lR,jO,mn,I,J,Kh,If,Sw,K,iP,iU,hw,gU,qI,rq,mP.kept1,Bx.froz1,jH,jZ,iz,jk,iD,jC,sx,F3,Ey]
    refine⟨_,rfl,_,_,iu R R.length ⟨1,.cells [.s u.nm,.i .i64 y.op,.i .i64 y.num,r] 0 false⟩,jM,.isl .S (R.length+7) 1 0 1 4,F,H,rfl,oe,(by rw[Y,Z,s3];exact vJ), ?_, ?_, ?_, ?_, ?_, ?_, ?_, ?_, ?_⟩
    all_goals (simp only[qA,seval,I,J,Kh,If,V,W,X])
   ·simp only at hv
    subst hv
    have Am:=O.app 0 (by simp[m7]) (sz:=4) rfl rfl hE hi hn hB [.s u.nm,.i .i64 y.op,.i .i64 y.num,r] rfl _ (hfz.app4 (u.nm,y) [.s u.nm,.i .i64 y.op,.i .i64 y.num,r] H9 (by show y.sz≤1000;omega)) (g+1)
    have vK:(n+1)*56≤roomy:=YW (by omega)
    simp only[qA,seval,kS,repl,jq,ig,lR,jO,mn,I,J,Kh,If,Sw,K,iP,iU,hw,gU,qI,rq,mP.kept1,Bx.froz1,jH,jZ,iz,jf,iD,jD,iO,F2,sx,F3,hE,hn,vK]
    refine⟨_,rfl,_,_,iu R i ⟨g+1,.cells (cs++ [.s u.nm,.i .i64 y.op,.i .i64 y.num,r]) 0 false⟩,jM,.isl .S (i+7) (g+1) 0 (n+1) 4,F,H,rfl,oe,(by rw[Y,Z,s3];exact Am), ?_, ?_, ?_, ?_, ?_, ?_, ?_, ?_, ?_⟩
    all_goals (simp only[qA,seval,I,J,Kh,If,V,W,X])
  ·have U:=O.1 (4,F,yy c 2 k) (by simp[m7])
   rw[if_pos mF]at Z
   rw[if_neg (by rw[mF];decide)]at Y s3
   rcases U with⟨my,AU⟩|⟨i,g,n,cs,hv,hE,hi,hn,hB,hfz⟩
   ·simp only at my AU
    subst my
    rw[AU,List.nil_append]at Z
    have vJ:=(O.mono (Nat.le_succ k)).new (by omega) 1 (by simp[m7]) (sz:=4) rfl [.s u.nm,.i .i64 y.op,.i .i64 y.num,r] rfl _ yx
    simp only[qA,seval,kS,repl,jq,ig,lR,jO,mn,I,J,Kh,If,Sw,K,iP,iU,hw,gU,qI,rq,mP.kept1,Bx.froz1,jH,jZ,iz,jk,iD,jC,sx,F3,Ey]
    refine⟨_,rfl,_,_,iu R R.length ⟨1,.cells [.s u.nm,.i .i64 y.op,.i .i64 y.num,r] 0 false⟩,jM,D,.isl .S (R.length+7) 1 0 1 4,H,rfl,oe,(by rw[Y,Z,s3];exact vJ), ?_, ?_, ?_, ?_, ?_, ?_, ?_, ?_, ?_⟩
    all_goals (simp only[qA,seval,I,J,Kh,If,V,W,X])
   ·simp only at hv
    subst hv
    have Am:=O.app 1 (by simp[m7]) (sz:=4) rfl rfl hE hi hn hB [.s u.nm,.i .i64 y.op,.i .i64 y.num,r] rfl _ (hfz.app4 (u.nm,y) [.s u.nm,.i .i64 y.op,.i .i64 y.num,r] H9 (by show y.sz≤1000;omega)) (g+1)
    have vK:(n+1)*56≤roomy:=YW (by omega)
    simp only[qA,seval,kS,repl,jq,ig,lR,jO,mn,I,J,Kh,If,Sw,K,iP,iU,hw,gU,qI,rq,mP.kept1,Bx.froz1,jH,jZ,iz,jf,iD,jD,iO,F2,sx,F3,hE,hn,vK]
    refine⟨_,rfl,_,_,iu R i ⟨g+1,.cells (cs++ [.s u.nm,.i .i64 y.op,.i .i64 y.num,r]) 0 false⟩,jM,D,.isl .S (i+7) (g+1) 0 (n+1) 4,H,rfl,oe,(by rw[Y,Z,s3];exact Am), ?_, ?_, ?_, ?_, ?_, ?_, ?_, ?_, ?_⟩
    all_goals (simp only[qA,seval,I,J,Kh,If,V,W,X])
  ·have U:=O.1 (4,H,yy c 3 k) (by simp[m7])
   rw[if_pos mF]at s3
   rw[if_neg (by rw[mF];decide)]at Y Z
   rcases U with⟨my,AU⟩|⟨i,g,n,cs,hv,hE,hi,hn,hB,hfz⟩
   ·simp only at my AU
    subst my
    rw[AU,List.nil_append]at s3
    have vJ:=(O.mono (Nat.le_succ k)).new (by omega) 2 (by simp[m7]) (sz:=4) rfl [.s u.nm,.i .i64 y.op,.i .i64 y.num,r] rfl _ yx
    simp only[qA,seval,kS,repl,jq,ig,lR,jO,mn,I,J,Kh,If,Sw,K,iP,iU,hw,gU,qI,rq,mP.kept1,Bx.froz1,jH,jZ,iz,jk,iD,jC,sx,F3,Ey]
    refine⟨_,rfl,_,_,iu R R.length ⟨1,.cells [.s u.nm,.i .i64 y.op,.i .i64 y.num,r] 0 false⟩,jM,D,F,.isl .S (R.length+7) 1 0 1 4,rfl,oe,(by rw[Y,Z,s3];exact vJ), ?_, ?_, ?_, ?_, ?_, ?_, ?_, ?_, ?_⟩
    all_goals (simp only[qA,seval,I,J,Kh,If,V,W,X])
   ·simp only at hv
    subst hv
    have Am:=O.app 2 (by simp[m7]) (sz:=4) rfl rfl hE hi hn hB [.s u.nm,.i .i64 y.op,.i .i64 y.num,r] rfl _ (hfz.app4 (u.nm,y) [.s u.nm,.i .i64 y.op,.i .i64 y.num,r] H9 (by show y.sz≤1000;omega)) (g+1)
    have vK:(n+1)*56≤roomy:=YW (by omega)
    simp only[qA,seval,kS,repl,jq,ig,lR,jO,mn,I,J,Kh,If,Sw,K,iP,iU,hw,gU,qI,rq,mP.kept1,Bx.froz1,jH,jZ,iz,jf,iD,jD,iO,F2,sx,F3,hE,hn,vK]
    refine⟨_,rfl,_,_,iu R i ⟨g+1,.cells (cs++ [.s u.nm,.i .i64 y.op,.i .i64 y.num,r]) 0 false⟩,jM,D,F,.isl .S (i+7) (g+1) 0 (n+1) 4,rfl,oe,(by rw[Y,Z,s3];exact Am), ?_, ?_, ?_, ?_, ?_, ?_, ?_, ?_, ?_⟩
    all_goals (simp only[qA,seval,I,J,Kh,If,V,W,X])
 ·rintro _ ⟨fr,kV,R,kn,D,F,H,rfl,pR,O,I,J,Kh,If,Sw,V,W,X,K⟩
  simp only[qA,seval,mn,If,Sw,Int.lt_irrefl]
  exact⟨_,_,ui,rfl,rfl,V,W,X,R,kn,D,F,H,rfl,pR,O.mono (by omega),K⟩
theorem Hn:40≤roomy:=by unfold roomy;omega
theorem BX{n:Nat}(h:n≤1000):(n+1)*40≤roomy:=by unfold roomy;omega
theorem tq{a b c x y z:T}:splice [a,b,c] 0 [x,y,z]= [x,y,z]:=rfl
theorem mD{a b c x y z:T}: ∀(cs:List T),splice (cs++ [a,b,c]) cs.length [x,y,z]=cs++ [x,y,z]
 | []=>rfl
 |u::cs=>by rw[List.cons_append,List.cons_append,List.length_cons,splice,mD cs]
theorem tr{cs:List T}{a b c:T}:(cs++ [a,b,c]).length=cs.length+3:=by simp
theorem auq(c:Ct)(r O U V hU W X Y Z nb r1 r2 r3 c2 c3:T)(m:List (List Nat×Nat))(kn jM:List (Nat×Int))(R:List b8)(x:Ex)(b:T)(y:Fm)(F:T)(Br:Nat)(fr:Fr)(lh:gW b8)
  (SO:froz1 b=true) (Cl:kept1 b=true) (D:froz1 F=true) (N7:kept1 F=true)
  (gU:be pE 52 [.ptr .S 2 1 0,.i .i64 1,.agg [.i .i64 x.op,.i .i64 x.num,.s x.name,b]] (ln r m kn R)=some (.agg [.i .i64 y.op,.i .i64 y.num,F],ln r m jM R))
  (h8:an fr 8= .ptr .L 37 1 0) (jw:an fr 14= .ptr .S 2 1 0) (mM:an fr 18= .ptr .L 18 Br 0) (Cm:b7 lh 18=⟨Br,.cells [.i .i64 1,.i .i64 x.op,.i .i64 x.num,.s x.name,b] 0 true⟩) (H:b7 lh 37=⟨1,.cells (l7 X Y Z c r O U V hU W (ml r1 r2 r3 (.nilsl) c2 c3 .nilsl nb)) 0 true⟩) (I:fx) (J:I=re jc∨I=rf jc):
  ∃f1 K,DC pE 232 I ⟨fr,lh,ln r m kn R⟩=some (.nrm,⟨f1,K,ln r m jM (iu R R.length ⟨1,.cells [.i .i64 y.op,.i .i64 y.num,F] 0 false⟩)⟩)∧(∀k,(jU jc).contains k=false→k≠37→b7 K k=b7 lh k)∧b7 K 37=⟨1,.cells (l7 X Y Z c r O U V hU W (ml r1 r2 r3 (.isl .S (R.length+7) 1 0 1 3) c2 c3 .nilsl nb)) 0 true⟩:=by
 have Ey:=Hn
 unfold l7 jE ml at H ⊢
 simp only[List.cons_append,List.nil_append]at H ⊢
 rcases J with rfl|rfl
 ·
  simp only[qA,seval,kS,repl,jq,ig,lR,iY,jO,jc,re,h8,jw,mM,Cm,H,gU,qI,rq,Cl,D,jH,jZ,iz,jk,iD,jC,F2,sx,F3,Ey,jK,j1,tq,Nat.lt_succ_self]
  refine⟨_,_,rfl, ?_, ?_⟩
  ·intro k hk Er
   have N:k≠111:=by rintro rfl;exact absurd hk (by decide)
   repeat (first|rw[jh _ _ Er]|rw[jh _ _ N])
  ·simp only[qA,seval]
 ·
  simp only[qA,seval,kS,repl,jq,ig,lR,iY,jO,jc,rf,h8,jw,mM,Cm,H,gU,qI,rq,Cl,D,jH,jZ,iz,jk,iD,jC,F2,sx,F3,Ey,jK,j1,tq,Nat.lt_succ_self]
  refine⟨_,_,rfl, ?_, ?_⟩
  ·intro k hk Er
   have N:k≠111:=by rintro rfl;exact absurd hk (by decide)
   repeat (first|rw[jh _ _ Er]|rw[jh _ _ N])
  ·simp only[qA,seval]
theorem aur(c:Ct)(r O U V hU W X Y Z nb r1 r2 r3 c2 c3:T)(m:List (List Nat×Nat))(kn jM:List (Nat×Int))(R:List b8)(x:Ex)(b:T)(y:Fm)(F:T)(Br:Nat)(i g n:Nat)(cs:List T)(hE:gY R i=⟨g,.cells cs 0 false⟩)(hn:n*3=cs.length)(A2:n≤1000)(fr:Fr)(lh:gW b8)
  (SO:froz1 b=true) (Cl:kept1 b=true) (D:froz1 F=true) (N7:kept1 F=true)
  (gU:be pE 52 [.ptr .S 2 1 0,.i .i64 1,.agg [.i .i64 x.op,.i .i64 x.num,.s x.name,b]] (ln r m kn R)=some (.agg [.i .i64 y.op,.i .i64 y.num,F],ln r m jM R))
  (h8:an fr 8= .ptr .L 37 1 0) (jw:an fr 14= .ptr .S 2 1 0) (mM:an fr 18= .ptr .L 18 Br 0) (Cm:b7 lh 18=⟨Br,.cells [.i .i64 1,.i .i64 x.op,.i .i64 x.num,.s x.name,b] 0 true⟩) (H:b7 lh 37=⟨1,.cells (l7 X Y Z c r O U V hU W (ml r1 r2 r3 (.isl .S (i+7) g 0 n 3) c2 c3 .nilsl nb)) 0 true⟩) (I:fx) (J:I=re jc∨I=rf jc):
  ∃f1 K,DC pE 232 I ⟨fr,lh,ln r m kn R⟩=some (.nrm,⟨f1,K,ln r m jM (iu R i ⟨g+1,.cells (cs++ [.i .i64 y.op,.i .i64 y.num,F]) 0 false⟩)⟩)∧(∀k,(jU jc).contains k=false→k≠37→b7 K k=b7 lh k)∧b7 K 37=⟨1,.cells (l7 X Y Z c r O U V hU W (ml r1 r2 r3 (.isl .S (i+7) (g+1) 0 (n+1) 3) c2 c3 .nilsl nb)) 0 true⟩:=by
 have vK:(n+1)*40≤roomy:=BX A2
 unfold l7 jE ml at H ⊢
 simp only[List.cons_append,List.nil_append]at H ⊢
 rcases J with rfl|rfl
 ·
  simp only[qA,seval,kS,repl,jq,ig,lR,iY,jO,jc,re,h8,jw,mM,Cm,H,gU,qI,rq,Cl,D,jH,jZ,iz,jf,iD,jD,iO,F2,sx,F3,jK,j1,mD,tr,Nat.lt_succ_self,hE,hn,vK]
  refine⟨_,_,rfl, ?_, ?_⟩
  ·intro k hk Er
   have N:k≠111:=by rintro rfl;exact absurd hk (by decide)
   repeat (first|rw[jh _ _ Er]|rw[jh _ _ N])
  ·simp only[qA,seval]
 ·
  simp only[qA,seval,kS,repl,jq,ig,lR,iY,jO,jc,rf,h8,jw,mM,Cm,H,gU,qI,rq,Cl,D,jH,jZ,iz,jf,iD,jD,iO,F2,sx,F3,jK,j1,mD,tr,Nat.lt_succ_self,hE,hn,vK]
  refine⟨_,_,rfl, ?_, ?_⟩
  ·intro k hk Er
   have N:k≠111:=by rintro rfl;exact absurd hk (by decide)
   repeat (first|rw[jh _ _ Er]|rw[jh _ _ N])
  ·simp only[qA,seval]
theorem aus(c:Ct)(r O U V hU W X Y Z nb r1 r2 r3 c1 c3:T)(m:List (List Nat×Nat))(kn jM:List (Nat×Int))(R:List b8)(x:Ex)(b:T)(y:Fm)(F:T)(Br:Nat)(fr:Fr)(lh:gW b8)
  (SO:froz1 b=true) (Cl:kept1 b=true) (D:froz1 F=true) (N7:kept1 F=true)
  (gU:be pE 52 [.ptr .S 2 1 0,.i .i64 2,.agg [.i .i64 x.op,.i .i64 x.num,.s x.name,b]] (ln r m kn R)=some (.agg [.i .i64 y.op,.i .i64 y.num,F],ln r m jM R))
  (h8:an fr 8= .ptr .L 37 1 0) (jw:an fr 14= .ptr .S 2 1 0) (mM:an fr 18= .ptr .L 18 Br 0) (Cm:b7 lh 18=⟨Br,.cells [.i .i64 2,.i .i64 x.op,.i .i64 x.num,.s x.name,b] 0 true⟩) (H:b7 lh 37=⟨1,.cells (l7 X Y Z c r O U V hU W (ml r1 r2 r3 c1 (.nilsl) c3 .nilsl nb)) 0 true⟩) (I:fx) (J:I=re jc∨I=rf jc):
  ∃f1 K,DC pE 232 I ⟨fr,lh,ln r m kn R⟩=some (.nrm,⟨f1,K,ln r m jM (iu R R.length ⟨1,.cells [.i .i64 y.op,.i .i64 y.num,F] 0 false⟩)⟩)∧(∀k,(jU jc).contains k=false→k≠37→b7 K k=b7 lh k)∧b7 K 37=⟨1,.cells (l7 X Y Z c r O U V hU W (ml r1 r2 r3 c1 (.isl .S (R.length+7) 1 0 1 3) c3 .nilsl nb)) 0 true⟩:=by
 have Ey:=Hn
 unfold l7 jE ml at H ⊢
 simp only[List.cons_append,List.nil_append]at H ⊢
 rcases J with rfl|rfl
 ·
  simp only[qA,seval,kS,repl,jq,ig,lR,iY,jO,jc,re,h8,jw,mM,Cm,H,gU,qI,rq,Cl,D,jH,jZ,iz,jk,iD,jC,F2,sx,F3,Ey,jK,j1,tq,Nat.lt_succ_self]
  refine⟨_,_,rfl, ?_, ?_⟩
  ·intro k hk Er
   have N:k≠111:=by rintro rfl;exact absurd hk (by decide)
   repeat (first|rw[jh _ _ Er]|rw[jh _ _ N])
  ·simp only[qA,seval]
 ·
  simp only[qA,seval,kS,repl,jq,ig,lR,iY,jO,jc,rf,h8,jw,mM,Cm,H,gU,qI,rq,Cl,D,jH,jZ,iz,jk,iD,jC,F2,sx,F3,Ey,jK,j1,tq,Nat.lt_succ_self]
  refine⟨_,_,rfl, ?_, ?_⟩
  ·intro k hk Er
   have N:k≠111:=by rintro rfl;exact absurd hk (by decide)
   repeat (first|rw[jh _ _ Er]|rw[jh _ _ N])
  ·simp only[qA,seval]
theorem aut(c:Ct)(r O U V hU W X Y Z nb r1 r2 r3 c1 c3:T)(m:List (List Nat×Nat))(kn jM:List (Nat×Int))(R:List b8)(x:Ex)(b:T)(y:Fm)(F:T)(Br:Nat)(i g n:Nat)(cs:List T)(hE:gY R i=⟨g,.cells cs 0 false⟩)(hn:n*3=cs.length)(A2:n≤1000)(fr:Fr)(lh:gW b8)
  (SO:froz1 b=true) (Cl:kept1 b=true) (D:froz1 F=true) (N7:kept1 F=true)
  (gU:be pE 52 [.ptr .S 2 1 0,.i .i64 2,.agg [.i .i64 x.op,.i .i64 x.num,.s x.name,b]] (ln r m kn R)=some (.agg [.i .i64 y.op,.i .i64 y.num,F],ln r m jM R))
  (h8:an fr 8= .ptr .L 37 1 0) (jw:an fr 14= .ptr .S 2 1 0) (mM:an fr 18= .ptr .L 18 Br 0) (Cm:b7 lh 18=⟨Br,.cells [.i .i64 2,.i .i64 x.op,.i .i64 x.num,.s x.name,b] 0 true⟩) (H:b7 lh 37=⟨1,.cells (l7 X Y Z c r O U V hU W (ml r1 r2 r3 c1 (.isl .S (i+7) g 0 n 3) c3 .nilsl nb)) 0 true⟩) (I:fx) (J:I=re jc∨I=rf jc):
  ∃f1 K,DC pE 232 I ⟨fr,lh,ln r m kn R⟩=some (.nrm,⟨f1,K,ln r m jM (iu R i ⟨g+1,.cells (cs++ [.i .i64 y.op,.i .i64 y.num,F]) 0 false⟩)⟩)∧(∀k,(jU jc).contains k=false→k≠37→b7 K k=b7 lh k)∧b7 K 37=⟨1,.cells (l7 X Y Z c r O U V hU W (ml r1 r2 r3 c1 (.isl .S (i+7) (g+1) 0 (n+1) 3) c3 .nilsl nb)) 0 true⟩:=by
 have vK:(n+1)*40≤roomy:=BX A2
 unfold l7 jE ml at H ⊢
 simp only[List.cons_append,List.nil_append]at H ⊢
 rcases J with rfl|rfl
 ·
  simp only[qA,seval,kS,repl,jq,ig,lR,iY,jO,jc,re,h8,jw,mM,Cm,H,gU,qI,rq,Cl,D,jH,jZ,iz,jf,iD,jD,iO,F2,sx,F3,jK,j1,mD,tr,Nat.lt_succ_self,hE,hn,vK]
  refine⟨_,_,rfl, ?_, ?_⟩
  ·intro k hk Er
   have N:k≠111:=by rintro rfl;exact absurd hk (by decide)
   repeat (first|rw[jh _ _ Er]|rw[jh _ _ N])
  ·simp only[qA,seval]
 ·
  simp only[qA,seval,kS,repl,jq,ig,lR,iY,jO,jc,rf,h8,jw,mM,Cm,H,gU,qI,rq,Cl,D,jH,jZ,iz,jf,iD,jD,iO,F2,sx,F3,jK,j1,mD,tr,Nat.lt_succ_self,hE,hn,vK]
  refine⟨_,_,rfl, ?_, ?_⟩
  ·intro k hk Er
   have N:k≠111:=by rintro rfl;exact absurd hk (by decide)
   repeat (first|rw[jh _ _ Er]|rw[jh _ _ N])
  ·simp only[qA,seval]
theorem auu(c:Ct)(r O U V hU W X Y Z nb r1 r2 r3 c1 c2:T)(m:List (List Nat×Nat))(kn jM:List (Nat×Int))(R:List b8)(x:Ex)(b:T)(y:Fm)(F:T)(Br:Nat)(fr:Fr)(lh:gW b8)
  (SO:froz1 b=true) (Cl:kept1 b=true) (D:froz1 F=true) (N7:kept1 F=true)
  (gU:be pE 52 [.ptr .S 2 1 0,.i .i64 3,.agg [.i .i64 x.op,.i .i64 x.num,.s x.name,b]] (ln r m kn R)=some (.agg [.i .i64 y.op,.i .i64 y.num,F],ln r m jM R))
  (h8:an fr 8= .ptr .L 37 1 0) (jw:an fr 14= .ptr .S 2 1 0) (mM:an fr 18= .ptr .L 18 Br 0) (Cm:b7 lh 18=⟨Br,.cells [.i .i64 3,.i .i64 x.op,.i .i64 x.num,.s x.name,b] 0 true⟩) (H:b7 lh 37=⟨1,.cells (l7 X Y Z c r O U V hU W (ml r1 r2 r3 c1 c2 (.nilsl) .nilsl nb)) 0 true⟩) (I:fx) (J:I=re jc∨I=rf jc):
  ∃f1 K,DC pE 232 I ⟨fr,lh,ln r m kn R⟩=some (.nrm,⟨f1,K,ln r m jM (iu R R.length ⟨1,.cells [.i .i64 y.op,.i .i64 y.num,F] 0 false⟩)⟩)∧(∀k,(jU jc).contains k=false→k≠37→b7 K k=b7 lh k)∧b7 K 37=⟨1,.cells (l7 X Y Z c r O U V hU W (ml r1 r2 r3 c1 c2 (.isl .S (R.length+7) 1 0 1 3) .nilsl nb)) 0 true⟩:=by
 have Ey:=Hn
 unfold l7 jE ml at H ⊢
 simp only[List.cons_append,List.nil_append]at H ⊢
 rcases J with rfl|rfl
 ·
  simp only[qA,seval,kS,repl,jq,ig,lR,iY,jO,jc,re,h8,jw,mM,Cm,H,gU,qI,rq,Cl,D,jH,jZ,iz,jk,iD,jC,F2,sx,F3,Ey,jK,j1,tq,Nat.lt_succ_self]
  refine⟨_,_,rfl, ?_, ?_⟩
  ·intro k hk Er
   have N:k≠111:=by rintro rfl;exact absurd hk (by decide)
   repeat (first|rw[jh _ _ Er]|rw[jh _ _ N])
  ·simp only[qA,seval]
 ·
  simp only[qA,seval,kS,repl,jq,ig,lR,iY,jO,jc,rf,h8,jw,mM,Cm,H,gU,qI,rq,Cl,D,jH,jZ,iz,jk,iD,jC,F2,sx,F3,Ey,jK,j1,tq,Nat.lt_succ_self]
  refine⟨_,_,rfl, ?_, ?_⟩
  ·intro k hk Er
   have N:k≠111:=by rintro rfl;exact absurd hk (by decide)
   repeat (first|rw[jh _ _ Er]|rw[jh _ _ N])
  ·simp only[qA,seval]
theorem auv(c:Ct)(r O U V hU W X Y Z nb r1 r2 r3 c1 c2:T)(m:List (List Nat×Nat))(kn jM:List (Nat×Int))(R:List b8)(x:Ex)(b:T)(y:Fm)(F:T)(Br:Nat)(i g n:Nat)(cs:List T)(hE:gY R i=⟨g,.cells cs 0 false⟩)(hn:n*3=cs.length)(A2:n≤1000)(fr:Fr)(lh:gW b8)
  (SO:froz1 b=true) (Cl:kept1 b=true) (D:froz1 F=true) (N7:kept1 F=true)
  (gU:be pE 52 [.ptr .S 2 1 0,.i .i64 3,.agg [.i .i64 x.op,.i .i64 x.num,.s x.name,b]] (ln r m kn R)=some (.agg [.i .i64 y.op,.i .i64 y.num,F],ln r m jM R))
  (h8:an fr 8= .ptr .L 37 1 0) (jw:an fr 14= .ptr .S 2 1 0) (mM:an fr 18= .ptr .L 18 Br 0) (Cm:b7 lh 18=⟨Br,.cells [.i .i64 3,.i .i64 x.op,.i .i64 x.num,.s x.name,b] 0 true⟩) (H:b7 lh 37=⟨1,.cells (l7 X Y Z c r O U V hU W (ml r1 r2 r3 c1 c2 (.isl .S (i+7) g 0 n 3) .nilsl nb)) 0 true⟩) (I:fx) (J:I=re jc∨I=rf jc):
  ∃f1 K,DC pE 232 I ⟨fr,lh,ln r m kn R⟩=some (.nrm,⟨f1,K,ln r m jM (iu R i ⟨g+1,.cells (cs++ [.i .i64 y.op,.i .i64 y.num,F]) 0 false⟩)⟩)∧(∀k,(jU jc).contains k=false→k≠37→b7 K k=b7 lh k)∧b7 K 37=⟨1,.cells (l7 X Y Z c r O U V hU W (ml r1 r2 r3 c1 c2 (.isl .S (i+7) (g+1) 0 (n+1) 3) .nilsl nb)) 0 true⟩:=by
 have vK:(n+1)*40≤roomy:=BX A2
 unfold l7 jE ml at H ⊢
 simp only[List.cons_append,List.nil_append]at H ⊢
 rcases J with rfl|rfl
 ·
  simp only[qA,seval,kS,repl,jq,ig,lR,iY,jO,jc,re,h8,jw,mM,Cm,H,gU,qI,rq,Cl,D,jH,jZ,iz,jf,iD,jD,iO,F2,sx,F3,jK,j1,mD,tr,Nat.lt_succ_self,hE,hn,vK]
  refine⟨_,_,rfl, ?_, ?_⟩
  ·intro k hk Er
   have N:k≠111:=by rintro rfl;exact absurd hk (by decide)
   repeat (first|rw[jh _ _ Er]|rw[jh _ _ N])
  ·simp only[qA,seval]
 ·
  simp only[qA,seval,kS,repl,jq,ig,lR,iY,jO,jc,rf,h8,jw,mM,Cm,H,gU,qI,rq,Cl,D,jH,jZ,iz,jf,iD,jD,iO,F2,sx,F3,jK,j1,mD,tr,Nat.lt_succ_self,hE,hn,vK]
  refine⟨_,_,rfl, ?_, ?_⟩
  ·intro k hk Er
   have N:k≠111:=by rintro rfl;exact absurd hk (by decide)
   repeat (first|rw[jh _ _ Er]|rw[jh _ _ N])
  ·simp only[qA,seval]
theorem sJ{fr:Fr}{lh:gW b8}{sh SH:List b8}{X:b8}(A: ∀F,(F=re jc∨F=rf jc)→ ∃H r,DC pE 232 F ⟨fr,lh,sh⟩=some (.nrm,⟨H,r,SH⟩)∧(∀k,(jU jc).contains k=false→k≠37→b7 r k=b7 lh k)∧b7 r 37=X):
  ∃D i,DC pE 232 jc ⟨fr,lh,sh⟩=some (.nrm,⟨D,i,SH⟩)∧(∀k,(jU jc).contains k=false→an D k=an fr k)∧(∀k,(jU jc).contains k=false→k≠37→b7 i k=b7 lh k)∧b7 i 37=X:=by
 obtain⟨H,r,N,I,x1⟩:=A _ (.inl rfl)
 obtain⟨Y,Z,O,U,x2⟩:=A _ (.inr rfl)
 obtain⟨D,i,V,W,J⟩:=abG (by rfl) N O (fun k hk=>by
  by_cases h:k=37
  ·subst h;rw[x1,x2]
  ·rw[I k hk h,U k hk h])
 exact⟨D,i,V,W,fun j K h=>(J j K).trans (I j K h),(J 37 (by decide)).trans x1⟩
theorem aBC{fr:Fr}{lh:gW b8}{D:Option (Out×St)}(c:Ct)(J a8 a9 gX hU gZ zT aT fT nb X Y Z K N c3:T)(m:List (List Nat×Nat))(kn jM:List (Nat×Int))(R:List b8)(x:Ex)(b:T)(y:Fm)(r:T)(Br:Nat)(sc:Int)(k:Nat)(mF:sc=1∨sc=2∨sc=3)(hk:k≤900)(l1 l2 l3 k1 k2 k3:RL)(pZ:ll R k (m7 X Y Z K N c3 .nilsl l1 l2 l3 k1 k2 k3 []))(hy:n4 y [.i .i64 y.op,.i .i64 y.num,r])(oR:y.sz≤1000)
  (SO:froz1 b=true) (Cl:kept1 b=true) (I:froz1 r=true) (N7:kept1 r=true)
  (gU:be pE 52 [.ptr .S 2 1 0,.i .i64 sc,.agg [.i .i64 x.op,.i .i64 x.num,.s x.name,b]] (ln J m kn R)=some (.agg [.i .i64 y.op,.i .i64 y.num,r],ln J m jM R))
  (hD:DC pE 232 jc ⟨fr,lh,ln J m kn R⟩=D)
  (h8:an fr 8= .ptr .L 37 1 0) (jw:an fr 14= .ptr .S 2 1 0) (mM:an fr 18= .ptr .L 18 Br 0) (Cm:b7 lh 18=⟨Br,.cells [.i .i64 sc,.i .i64 x.op,.i .i64 x.num,.s x.name,b] 0 true⟩) (jQ:b7 lh 37=⟨1,.cells (l7 zT aT fT c J a8 a9 gX hU gZ (ml X Y Z K N c3 .nilsl nb)) 0 true⟩):
  ∃H F R' c1' c2' c3',D=some (.nrm,⟨H,F,ln J m jM R'⟩)∧ll R' (k+1) (m7 X Y Z c1' c2' c3' .nilsl l1 l2 l3 (if sc=1 then k1++ [([],y)]else k1) (if sc=2 then k2++ [([],y)]else k2) (if sc=3 then k3++ [([],y)]else k3) [])∧(∀k,(jU jc).contains k=false→an H k=an fr k)∧(∀k,(jU jc).contains k=false→k≠37→b7 F k=b7 lh k)∧b7 F 37=⟨1,.cells (l7 zT aT fT c J a8 a9 gX hU gZ (ml X Y Z c1' c2' c3' .nilsl nb)) 0 true⟩:=by
 have yx:zi 3 [([],y)] [.i .i64 y.op,.i .i64 y.num,r]:=by
  have:=(zi.nil 3).app3 ([],y) _ hy oR
  simpa using this
 rcases mF with rfl|rfl|rfl
 ·rcases pZ.1 (3,K,k1) (by simp[m7])with⟨my,AU⟩|⟨i,g,n,cs,hv,hE,hi,hn,hB,YX⟩
  ·simp only at my AU
   subst my AU
   have vJ:=(pZ.mono (Nat.le_succ k)).new (by omega) 3 (by simp[m7]) (sz:=3) rfl [.i .i64 y.op,.i .i64 y.num,r] rfl _ yx
   obtain⟨H,F,O,U,V,W⟩:=sJ (auq c J a8 a9 gX hU gZ zT aT fT nb X Y Z N c3 m kn jM R x b y r Br fr lh SO Cl I N7 gU h8 jw mM Cm jQ)
   exact⟨H,F,_,_,N,c3,hD.symm.trans O,vJ,U,V,W⟩
  ·simp only at hv
   subst hv
   have Am:=pZ.app 3 (by simp[m7]) (sz:=3) rfl rfl hE hi hn hB [.i .i64 y.op,.i .i64 y.num,r] rfl _ (YX.app3 ([],y) _ hy oR) (g+1)
   obtain⟨H,F,O,U,V,W⟩:=sJ (aur c J a8 a9 gX hU gZ zT aT fT nb X Y Z N c3 m kn jM R x b y r Br i g n cs hE hn (by omega) fr lh SO Cl I N7 gU h8 jw mM Cm jQ)
   exact⟨H,F,_,_,N,c3,hD.symm.trans O,Am,U,V,W⟩
 ·rcases pZ.1 (3,N,k2) (by simp[m7])with⟨my,AU⟩|⟨i,g,n,cs,hv,hE,hi,hn,hB,YX⟩
  ·simp only at my AU
   subst my AU
   have vJ:=(pZ.mono (Nat.le_succ k)).new (by omega) 4 (by simp[m7]) (sz:=3) rfl [.i .i64 y.op,.i .i64 y.num,r] rfl _ yx
   obtain⟨H,F,O,U,V,W⟩:=sJ (aus c J a8 a9 gX hU gZ zT aT fT nb X Y Z K c3 m kn jM R x b y r Br fr lh SO Cl I N7 gU h8 jw mM Cm jQ)
   exact⟨H,F,_,K,_,c3,hD.symm.trans O,vJ,U,V,W⟩
  ·simp only at hv
   subst hv
   have Am:=pZ.app 4 (by simp[m7]) (sz:=3) rfl rfl hE hi hn hB [.i .i64 y.op,.i .i64 y.num,r] rfl _ (YX.app3 ([],y) _ hy oR) (g+1)
   obtain⟨H,F,O,U,V,W⟩:=sJ (aut c J a8 a9 gX hU gZ zT aT fT nb X Y Z K c3 m kn jM R x b y r Br i g n cs hE hn (by omega) fr lh SO Cl I N7 gU h8 jw mM Cm jQ)
   exact⟨H,F,_,K,_,c3,hD.symm.trans O,Am,U,V,W⟩
 ·rcases pZ.1 (3,c3,k3) (by simp[m7])with⟨my,AU⟩|⟨i,g,n,cs,hv,hE,hi,hn,hB,YX⟩
  ·simp only at my AU
   subst my AU
   have vJ:=(pZ.mono (Nat.le_succ k)).new (by omega) 5 (by simp[m7]) (sz:=3) rfl [.i .i64 y.op,.i .i64 y.num,r] rfl _ yx
   obtain⟨H,F,O,U,V,W⟩:=sJ (auu c J a8 a9 gX hU gZ zT aT fT nb X Y Z K N m kn jM R x b y r Br fr lh SO Cl I N7 gU h8 jw mM Cm jQ)
   exact⟨H,F,_,K,N,_,hD.symm.trans O,vJ,U,V,W⟩
  ·simp only at hv
   subst hv
   have Am:=pZ.app 5 (by simp[m7]) (sz:=3) rfl rfl hE hi hn hB [.i .i64 y.op,.i .i64 y.num,r] rfl _ (YX.app3 ([],y) _ hy oR) (g+1)
   obtain⟨H,F,O,U,V,W⟩:=sJ (auv c J a8 a9 gX hU gZ zT aT fT nb X Y Z K N m kn jM R x b y r Br i g n cs hE hn (by omega) fr lh SO Cl I N7 gU h8 jw mM Cm jQ)
   exact⟨H,F,_,K,N,_,hD.symm.trans O,Am,U,V,W⟩
theorem nwc(c:Ct)(r I:T)(c7 c9:List T)(i7:IsSl r c.cs.length c7)(j7:lS c.cs c7)(i9:IsSl I c.co.length c9)(j9:hZ Zd c.co c9)(hlen:c.co.length≤40)(tV: ∀u∈c.co,Rj c.cs u.sc u.x)(X Y Z a8 gX hU gZ nb J K N:T)(k2 k3 ub:b8)(DG:List (Nat×Int))(Al:od c.cs DG)(R0:List b8)(l1 l2 l3:RL)(Ie:ll R0 40 (m7 J K N .nilsl .nilsl .nilsl .nilsl l1 l2 l3 [] [] [] []))(fr:Fr)(lh:gW b8)(sh:List b8)(lC:sh=ln r (je c.cs c.cs.length) DG R0)
  (h8:an fr 8= .ptr .L 37 1 0) (jw:an fr 14= .ptr .S 2 1 0) (Mt:an fr 105=I) (Ki:an fr 106= .i .i64 (c.co.length:Int)) (Kj:an fr 107= .i .i64 0) (o2:b7 lh 2=k2) (o3:b7 lh 3=k3) (mc:b7 lh 35=ub) (jQ:b7 lh 37=⟨1,.cells (l7 X Y Z c r a8 I gX hU gZ (ml J K N .nilsl .nilsl .nilsl .nilsl nb)) 0 true⟩):
  wJ 232 pz fr lh sh (.ext 6)∧
  (b7 (nE pE 232 pz fr lh sh) 2=k2∧b7 (nE pE 232 pz fr lh sh) 3=k3∧b7 (nE pE 232 pz fr lh sh) 35=ub∧ ∃(R:List b8) (kn:List (Nat×Int)) (F H c3:T),oi pE 232 pz fr lh sh=ln r (je c.cs c.cs.length) kn R∧od c.cs kn∧ll R 80 (m7 J K N F H c3 .nilsl l1 l2 l3 (Bz c 1 c.co.length) (Bz c 2 c.co.length) (Bz c 3 c.co.length) [])∧b7 (nE pE 232 pz fr lh sh) 37=⟨1,.cells (l7 X Y Z c r a8 I gX hU gZ (ml J K N F H c3 .nilsl nb)) 0 true⟩):=by
 refine jv (P:=fun W O iE=>b7 O 2=k2∧b7 O 3=k3∧b7 O 35=ub∧ ∃(R:List b8) (kn:List (Nat×Int)) (F H c3:T),iE=ln r (je c.cs c.cs.length) kn R∧od c.cs kn∧ll R 80 (m7 J K N F H c3 .nilsl l1 l2 l3 (Bz c 1 c.co.length) (Bz c 2 c.co.length) (Bz c 3 c.co.length) [])∧b7 O 37=⟨1,.cells (l7 X Y Z c r a8 I gX hU gZ (ml J K N F H c3 .nilsl nb)) 0 true⟩)
  (jR (fun k st=> ∃(fr:Fr) (U:gW b8) (R:List b8) (kn:List (Nat×Int)) (F H c3:T),st=⟨fr,U,ln r (je c.cs c.cs.length) kn R⟩∧od c.cs kn∧ll R (40+k) (m7 J K N F H c3 .nilsl l1 l2 l3 (Bz c 1 k) (Bz c 2 k) (Bz c 3 k) [])∧an fr 8= .ptr .L 37 1 0∧an fr 14= .ptr .S 2 1 0∧an fr 105=I∧an fr 106= .i .i64 (c.co.length:Int)∧an fr 107= .i .i64 (k:Int)∧b7 U 2=k2∧b7 U 3=k3∧b7 U 35=ub∧b7 U 37=⟨1,.cells (l7 X Y Z c r a8 I gX hU gZ (ml J K N F H c3 .nilsl nb)) 0 true⟩) _ c.co.length ?_ ?_ 0 _ (Nat.zero_le _) ⟨fr,lh,R0,DG,.nilsl,.nilsl,.nilsl,by rw[lC],Al,Ie,h8,jw,Mt,Ki,Kj,o2,o3,mc,jQ⟩)
 ·rintro k _ hk ⟨fr,U,R,kn,F,H,c3,rfl,pR,pZ,h8,jw,Mt,Ki,Kj,o2,o3,mc,jQ⟩
  left
  have iP:(k:Int)<c.co.length:=by omega
  have hw:=iJ (k:=k) (by omega)
  obtain⟨b,cb,rr,iU,mP,hb⟩:=PN i9 j9 k hk
  obtain⟨mF,V,t,zh⟩:=tV c.co[k] (List.getElem_mem hk)
  have DH:=(oL V).1
  obtain⟨cf,jM,gU,zY,oe,_⟩:=Hl c.cs r R c.cs.length (Nat.le_refl _) (Hm c.cs r R c7 i7 j7) c.co[k].sc (.inr mF) c.co[k].x t kn _ pR hb DH (nZ V) (by rw[DI];exact zh)
  have oR:=BW (pJ c.cs) c.co[k].sc c.co[k].x
  have s1:=Ep c 1 hk
  have s2:=Ep c 2 hk
  have s3:=Ep c 3 hk
  generalize c.co[k]=u at*
  generalize comp (pJ c.cs) u.sc u.x=y at*
  obtain⟨fa,fc,rfl,Bx,hf2⟩:=zY.cells
  simp only[qA,seval,pz,Mt,Ki,Kj,iP,iU]
  generalize hD:DC pE 232 jc _=D
  obtain⟨W,O,R',c1',c2',c3',rfl,hR',q2,q3,q4⟩:=aBC c r a8 I gX hU gZ X Y Z nb J K N F H c3 _ kn jM R u.x b y fa ((b7 U 18).g+1) u.sc (40+k) mF (by omega) l1 l2 l3 _ _ _ pZ zY (by omega) mP.froz1 mP.kept1 Bx.froz1 Bx.kept1 gU hD (by simp only[qA,seval,h8]) (by simp only[qA,seval,jw]) (by simp only[qA,seval]) (by simp only[qA,seval]) (by simp only[qA,seval,jQ])
  rw[←s1,←s2,←s3]at hR'
  have f8:an W 8= .ptr .L 37 1 0:=by rw[q2 8 (by decide)];simp only[qA,seval,h8]
  have f14:an W 14= .ptr .S 2 1 0:=by rw[q2 14 (by decide)];simp only[qA,seval,jw]
  have f105:an W 105=I:=by rw[q2 105 (by decide)];simp only[qA,seval,Mt]
  have f106:an W 106= .i .i64 (c.co.length:Int):=by rw[q2 106 (by decide)];simp only[qA,seval,Ki]
  have f107:an W 107= .i .i64 (k:Int):=by rw[q2 107 (by decide)];simp only[qA,seval,Kj]
  have p2:b7 O 2=k2:=by rw[q3 2 (by decide) (by decide)];simp only[qA,seval,o2]
  have p3:b7 O 3=k3:=by rw[q3 3 (by decide) (by decide)];simp only[qA,seval,o3]
  have p35:b7 O 35=ub:=by rw[q3 35 (by decide) (by decide)];simp only[qA,seval,mc]
  simp only[qA,seval,f107,hw]
  refine⟨_,rfl,_,_,R',jM,c1',c2',c3',rfl,oe,hR', ?_, ?_, ?_, ?_, ?_, ?_, ?_, ?_, ?_⟩
  all_goals (simp only[qA,seval,f8,f14,f105,f106,p2,p3,p35,q4])
 ·rintro _ ⟨fr,U,R,kn,F,H,c3,rfl,pR,pZ,h8,jw,Mt,Ki,Kj,o2,o3,mc,jQ⟩
  simp only[qA,seval,pz,Ki,Kj,Int.lt_irrefl]
  exact⟨_,_,ui,rfl,rfl,o2,o3,mc,R,kn,F,H,c3,rfl,pR,pZ.mono (by omega),jQ⟩
end Go.Proofs.YtcpceiclnbmgiaaGreat
