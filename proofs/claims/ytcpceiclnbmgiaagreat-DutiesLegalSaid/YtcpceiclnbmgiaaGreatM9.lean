/- Walks of functions of the program and of the reference, and their plain laws, part 9. Conditions: the theorems' own. -/
import Derived.Test.YtcpceiclnbmgiaaGreatM8
import Derived.KernelRfl
set_option maxRecDepth 100000
set_option linter.unusedSimpArgs false
set_option linter.unusedVariables false
set_option maxHeartbeats 16000000
namespace Go.Proofs.YtcpceiclnbmgiaaGreat
open Go Go.Ev
theorem EU{α β:Type}[DecidableEq α]{s:α}: ∀{m:List (α×β)},s∉m.map Prod.fst→iJ m s=none
 | [],_=>rfl
 |p::m,h=>by
  rw[List.map_cons,List.mem_cons,not_or]at h
  rw[iJ,if_neg h.1,EU h.2]
theorem MT.fz{z:Zo}{c:List T}(h:MT z c):c.all froz1=true∧c.length=3:=by
 obtain⟨a,r,rfl,i,_⟩:=h
 exact⟨by simp[i.froz1,HE,yX],rfl⟩
def MU(i:List Zo)(m:List (List Nat×List T)):Prop:= ∀p∈m,∃z∈i,z.nm=p.1∧MT z p.2
theorem Qo{l:List (List Nat)}(i:l.Nodup){k:Nat}(hk:k<l.length):l[k]∉l.take k:=by
 intro r
 obtain⟨j,D,e⟩:=List.getElem_of_mem r
 rw[List.length_take]at D
 rw[List.getElem_take]at e
 exact List.pairwise_iff_getElem.1 i j k (by omega) hk (by omega) e
theorem nwz(l:List Zo)(Z:(l.map Zo.nm).Nodup)(a:T)(cc:List T)(ha:IsSl a l.length cc)(hc:iA MT l cc)(hlen:l.length≤100)(W X KJ N6:b8)(fr:Fr)(lh:iw b8)(sh:List b8)
  (I:an fr 9= .mp .L 38 1) (r:an fr 40=a) (WV:an fr 41= .i .i64 (l.length:Int)) (D:an fr 42= .i .i64 0) (J:b7 lh 2=W) (K:b7 lh 3=X) (N:b7 lh 35=KJ) (O:b7 lh 37=N6) (KK:b7 lh 38=⟨1,.map [] [] false⟩):
  wJ 232 oK fr lh sh (.ext 0)∧
  (b7 (nU pE 232 oK fr lh sh) 2=W∧b7 (nU pE 232 oK fr lh sh) 3=X∧b7 (nU pE 232 oK fr lh sh) 35=KJ∧b7 (nU pE 232 oK fr lh sh) 37=N6∧(∃m,b7 (nU pE 232 oK fr lh sh) 38=⟨1,.map (m.map fun p=>sK p.1) (m.map fun p=>T.agg p.2) false⟩∧MU l m∧m.map Prod.fst=l.map Zo.nm)∧ow pE 232 oK fr lh sh=sh):=by
 refine jH (P:=fun jN U iX=>b7 U 2=W∧b7 U 3=X∧b7 U 35=KJ∧b7 U 37=N6∧(∃m,b7 U 38=⟨1,.map (m.map fun p=>sK p.1) (m.map fun p=>T.agg p.2) false⟩∧MU l m∧m.map Prod.fst=l.map Zo.nm)∧iX=sh)
  (j6 (fun k st=> ∃(fr:Fr) (F:iw b8) (m:List (List Nat×List T)),st=⟨fr,F,sh⟩∧m.map Prod.fst=(l.map Zo.nm).take k∧MU l m∧an fr 9= .mp .L 38 1∧an fr 40=a∧an fr 41= .i .i64 (l.length:Int)∧an fr 42= .i .i64 (k:Int)∧b7 F 2=W∧b7 F 3=X∧b7 F 35=KJ∧b7 F 37=N6∧b7 F 38=⟨1,.map (m.map fun p=>sK p.1) (m.map fun p=>T.agg p.2) false⟩) _ l.length ?_ ?_ 0 _ (Nat.zero_le _) ⟨fr,lh,[],rfl,by simp,(fun p hp=>by cases hp),I,r,WV,D,J,K,N,O,KK⟩)
 ·rintro k _ hk ⟨fr,F,m,rfl,Y,H,I,r,WV,D,J,K,N,O,KK⟩
  left
  have iW:(k:Int)<l.length:=by omega
  have hw:=iO (k:=k) (by omega)
  obtain⟨V,sc,rr,je,vZ,Fg⟩:=agk ha hc k hk
  have WR:k<(l.map Zo.nm).length:=by simpa using hk
  have xP:iJ m l[k].nm=none:=EU (by rw[Y];have:=Qo Z WR;rwa [List.getElem_map]at this)
  have n6:qE (.one .str) (.s l[k].nm) (.agg [.s l[k].nm,.i .i64 l[k].o,V]) (m.map fun p=>sK p.1) (m.map fun p=>T.agg p.2)=_:=y9 (kT:=sK) (vT:=T.agg) FD m l[k].nm [.s l[k].nm,.i .i64 l[k].o,V] xP
  have hzr: ∃z∈l,z.nm=l[k].nm∧MT z [.s l[k].nm,.i .i64 l[k].o,V]:=⟨l[k],List.getElem_mem hk,rfl,V,sc,rfl,vZ,Fg⟩
  have Zq:(l.map Zo.nm).take (k+1)=(l.map Zo.nm).take k++ [l[k].nm]:=by rw[List.take_succ_eq_append_getElem WR,List.getElem_map]
  rw[Zq]
  generalize l[k]=z at*
  simp only[qA,seval,oK,I,r,WV,D,KK,iW,je,hw,tE,BB,n6,vZ.froz1]
  refine⟨_,rfl,_,_,m++ [(z.nm,[.s z.nm,.i .i64 z.o,V])],rfl, ?_, ?_, ?_, ?_, ?_, ?_, ?_, ?_, ?_, ?_, ?_⟩
  ·rw[List.map_append,Y];rfl
  ·intro p hp
   rcases List.mem_append.1 hp with hp|hp
   ·exact H p hp
   ·rw[List.mem_singleton.1 hp];exact hzr
  all_goals (simp only[qA,seval,I,r,WV,J,K,N,O])
 ·rintro _ ⟨fr,F,m,rfl,Y,H,I,r,WV,D,J,K,N,O,KK⟩
  simp only[qA,seval,oK,WV,D,Int.lt_irrefl]
  exact⟨_,_,uC,rfl,rfl,J,K,N,O,⟨m,KK,H,by rw[Y,List.take_of_length_le (by simp)]⟩,rfl⟩
def mq(i r D:T)(c:Ct)(F H I J K N:T)(O:List T):List T:=i::r::D::(jz c F H I J K N++ .mp .L 35 1::O)
theorem zq{α β:Type}[DecidableEq α]{s:α}{v:β}: ∀{m:List (α×β)},iJ m s=some v→(s,v)∈m
 | [],h=>by cases h
 |p::m,h=>by
  rw[iJ]at h
  split at h
  ·rename_i e;injection h with h;subst h;rw[e];exact List.mem_cons_self ..
  ·exact List.mem_cons_of_mem _ (zq h)
theorem AV{α β:Type}[DecidableEq α]{s:α}: ∀{m:List (α×β)},s∈m.map Prod.fst→ ∃v,iJ m s=some v
 | [],h=>by cases h
 |p::m,h=>by
  rw[iJ]
  split
  ·exact⟨_,rfl⟩
  ·rename_i e
   rw[List.map_cons,List.mem_cons]at h
   rcases h with h|h
   ·exact absurd h e
   ·exact AV h
def RT(i:List Zo)(r:List Ap)(q:List (List Nat×List T)):Prop:= ∀p∈q,∃u∈r,u.cd=p.1∧ ∃z∈i,z.nm=u.zn∧MT z p.2
theorem adR{r:List Zo}{m:List (List Nat×List T)}(H:MU r m)(I:m.map Prod.fst=r.map Zo.nm)(s:List Nat)(hs:s∈r.map Zo.nm): ∃v,(∃z∈r,z.nm=s∧MT z v)∧nz (.one .str) (m.map fun p=>sK p.1) (m.map fun p=>T.agg p.2) (.s s) (.agg [.s [],.i .i64 0,.nilsl]) false=some (.agg v)∧v.all froz1=true∧v.length=3:=by
 have D:=O0 (kT:=sK) (vT:=T.agg) FD (fun _=>rfl) m s (.agg [.s [],.i .i64 0,.nilsl])
 obtain⟨v,h⟩:=AV (by rw[I];exact hs)
 rw[h]at D
 obtain⟨z,J,K,F⟩:=H _ (zq h)
 exact⟨v,⟨z,J,K,F⟩,D,F.fz⟩
theorem nwa(l:List Ap)(hnd:(l.map Ap.cd).Nodup)(a:T)(cc:List T)(ha:IsSl a l.length cc)(hc:iA ApR l cc)(hlen:l.length≤100)(F:List Zo)(m:List (List Nat×List T))(J:MU F m∧m.map Prod.fst=F.map Zo.nm)(hzn: ∀u∈l,u.zn∈F.map Zo.nm)(X Y Z:T)(c:Ct)(a7 a8 a9 iq iy iv:T)(vs:List T)(c2 c3:b8)(fr:Fr)(lh:iw b8)(sh:List b8)
  (K:an fr 8= .ptr .L 37 1 0) (N:an fr 9= .mp .L 38 1) (S1:an fr 52=a) (I:an fr 53= .i .i64 (l.length:Int)) (O:an fr 54= .i .i64 0) (U:b7 lh 2=c2) (V:b7 lh 3=c3) (W:b7 lh 35=⟨1,.map [] [] false⟩) (r:b7 lh 37=⟨1,.cells (mq X Y Z c a7 a8 a9 iq iy iv vs) 0 true⟩) (KK:b7 lh 38=⟨1,.map (m.map fun p=>sK p.1) (m.map fun p=>T.agg p.2) false⟩):
  wJ 232 pR fr lh sh (.ext 2)∧
  (b7 (nU pE 232 pR fr lh sh) 2=c2∧b7 (nU pE 232 pR fr lh sh) 3=c3∧b7 (nU pE 232 pR fr lh sh) 37=⟨1,.cells (mq X Y Z c a7 a8 a9 iq iy iv vs) 0 true⟩∧(∃q,b7 (nU pE 232 pR fr lh sh) 35=⟨1,.map (q.map fun p=>sK p.1) (q.map fun p=>T.agg p.2) false⟩∧RT F l q∧q.map Prod.fst=l.map Ap.cd)∧ow pE 232 pR fr lh sh=sh):=by
 refine jH (P:=fun jN iU iX=>b7 iU 2=c2∧b7 iU 3=c3∧b7 iU 37=⟨1,.cells (mq X Y Z c a7 a8 a9 iq iy iv vs) 0 true⟩∧(∃q,b7 iU 35=⟨1,.map (q.map fun p=>sK p.1) (q.map fun p=>T.agg p.2) false⟩∧RT F l q∧q.map Prod.fst=l.map Ap.cd)∧iX=sh)
  (j6 (fun k st=> ∃(fr:Fr) (D:iw b8) (q:List (List Nat×List T)),st=⟨fr,D,sh⟩∧q.map Prod.fst=(l.map Ap.cd).take k∧RT F l q∧an fr 8= .ptr .L 37 1 0∧an fr 9= .mp .L 38 1∧an fr 52=a∧an fr 53= .i .i64 (l.length:Int)∧an fr 54= .i .i64 (k:Int)∧b7 D 2=c2∧b7 D 3=c3∧b7 D 37=⟨1,.cells (mq X Y Z c a7 a8 a9 iq iy iv vs) 0 true⟩∧b7 D 38=⟨1,.map (m.map fun p=>sK p.1) (m.map fun p=>T.agg p.2) false⟩∧b7 D 35=⟨1,.map (q.map fun p=>sK p.1) (q.map fun p=>T.agg p.2) false⟩) _ l.length ?_ ?_ 0 _ (Nat.zero_le _) ⟨fr,lh,[],rfl,by simp,(fun p hp=>by cases hp),K,N,S1,I,O,U,V,r,KK,W⟩)
 ·rintro k _ hk ⟨fr,D,q,rfl,hq,H,K,N,S1,I,O,U,V,r,KK,W⟩
  left
  have iW:(k:Int)<l.length:=by omega
  have hw:=iO (k:=k) (by omega)
  obtain⟨rr,je⟩:=agl ha hc k hk
  have WR:k<(l.map Ap.cd).length:=by simpa using hk
  have xP:iJ q l[k].cd=none:=EU (by rw[hq];have:=Qo hnd WR;rwa [List.getElem_map]at this)
  obtain⟨v,hzv,mb,Ma,SW⟩:=adR J.1 J.2 l[k].zn (hzn _ (List.getElem_mem hk))
  have hqv: ∃u∈l,u.cd=l[k].cd∧ ∃z∈F,z.nm=u.zn∧MT z v:=⟨l[k],List.getElem_mem hk,rfl,hzv⟩
  have n6:qE (.one .str) (.s l[k].cd) (.agg v) (q.map fun p=>sK p.1) (q.map fun p=>T.agg p.2)=_:=y9 (kT:=sK) (vT:=T.agg) FD q l[k].cd v xP
  have Zq:(l.map Ap.cd).take (k+1)=(l.map Ap.cd).take k++ [l[k].cd]:=by rw[List.take_succ_eq_append_getElem WR,List.getElem_map]
  rw[Zq]
  generalize l[k]=z at*
  unfold mq jz at r ⊢
  simp only[List.cons_append,List.nil_append]at r ⊢
  simp only[qA,seval,jG,iE,pR,K,N,S1,I,O,W,r,KK,iW,je,hw,jF,mb,Ma,tE,BB,n6]
  refine⟨_,rfl,_,_,q++ [(z.cd,v)],rfl, ?_, ?_, ?_, ?_, ?_, ?_, ?_, ?_, ?_, ?_, ?_, ?_⟩
  ·rw[List.map_append,hq];rfl
  ·intro p hp
   rcases List.mem_append.1 hp with hp|hp
   ·exact H p hp
   ·rw[List.mem_singleton.1 hp];exact hqv
  all_goals (simp only[qA,seval,K,N,S1,I,U,V,r,KK])
 ·rintro _ ⟨fr,D,q,rfl,hq,H,K,N,S1,I,O,U,V,r,KK,W⟩
  simp only[qA,seval,pR,I,O,Int.lt_irrefl]
  exact⟨_,_,uC,rfl,rfl,U,V,r,⟨q,W,H,by rw[hq,List.take_of_length_le (by simp)]⟩,rfl⟩
theorem Zr{n:Nat}(h:n≤1000):(n+1)*56≤roomy:=by unfold roomy;omega
theorem alf:56≤roomy:=by unfold roomy;omega
def mJ(i r D F H I cr J:T):List T:= [.nilsl,i,r,D,.nilsl,F,H,I,cr,J]
def np(i r D F H I cr:T)(J K N O U V W:RL):List (Nat×T×RL):= [(4,i,J),(4,r,K),(4,D,N),(3,F,O),(3,H,U),(3,I,V),(3,cr,W)]
def zV(c:Ct)(j:Int)(k:Nat):RL:=((c.ru.take k).filter fun u=>u.sc==j).map fun u=>(u.nm,comp (pX c.cs) u.sc u.x)
def BW(c:Ct)(j:Int)(k:Nat):RL:=((c.co.take k).filter fun u=>u.sc==j).map fun u=>([],comp (pX c.cs) u.sc u.x)
def SZ(c:Ct)(k:Nat):RL:=(c.cr.take k).map fun u=>([],comp (pX c.cs) 1 u)
theorem EV(c:Ct)(j:Int){k:Nat}(hk:k<c.ru.length):zV c j (k+1)=if c.ru[k].sc=j then zV c j k++ [(c.ru[k].nm,comp (pX c.cs) c.ru[k].sc c.ru[k].x)]else zV c j k:=by
 grind [zV,List.take_succ_eq_append_getElem]
theorem EW(c:Ct)(j:Int){k:Nat}(hk:k<c.co.length):BW c j (k+1)=if c.co[k].sc=j then BW c j k++ [([],comp (pX c.cs) c.co[k].sc c.co[k].x)]else BW c j k:=by
 grind [BW,List.take_succ_eq_append_getElem]
theorem WT(c:Ct){k:Nat}(hk:k<c.cr.length):SZ c (k+1)=SZ c k++ [([],comp (pX c.cs) 1 c.cr[k])]:=by
 grind [SZ,List.take_succ_eq_append_getElem]
theorem aCr:lH [] 0 (np .nilsl .nilsl .nilsl .nilsl .nilsl .nilsl .nilsl [] [] [] [] [] [] []):=by
 have r: ∀p∈np .nilsl .nilsl .nilsl .nilsl .nilsl .nilsl .nilsl [] [] [] [] [] [] [],p.2=(.nilsl,[]):=by
  simp_all[np,List.mem_cons,List.not_mem_nil]
 exact⟨fun p D=> .inl (by rw[r p D];exact⟨rfl,rfl⟩),fun i j hi F _=> .inl (by rw[r _ (List.getElem_mem hi)];rfl)⟩
def RS(l:Cs)(i:Int)(x:Ex):Prop:=(i=1∨i=2∨i=3)∧jy x=0∧ ∃k,x.ty (LY l) i=(k,0)
theorem nwr(c:Ct)(N a8:T)(c7 c8:List T)(i7:IsSl N c.cs.length c7)(j7:mf c.cs c7)(i8:IsSl a8 c.ru.length c8)(j8:iA S2 c.ru c8)(hlen:c.ru.length≤40)(sP: ∀u∈c.ru,RS c.cs u.sc u.x)(zT aT fT a9 iq iy iv nb:T)(c2 c3 KJ:b8)(D1:List (Nat×Int))(AN:oy c.cs D1)(fr:Fr)(lh:iw b8)(sh:List b8)(lQ:sh=lI N (js c.cs c.cs.length) D1 [])
  (I:an fr 8= .ptr .L 37 1 0) (J:an fr 14= .ptr .S 2 1 0) (KL:an fr 73=a8) (IL:an fr 74= .i .i64 (c.ru.length:Int)) (S3:an fr 75= .i .i64 0) (V:b7 lh 2=c2) (W:b7 lh 3=c3) (X:b7 lh 35=KJ) (K:b7 lh 37=⟨1,.cells (mq zT aT fT c N a8 a9 iq iy iv (mJ .nilsl .nilsl .nilsl .nilsl .nilsl .nilsl .nilsl nb)) 0 true⟩):
  wJ 232 mK fr lh sh (.ext 4)∧
  (b7 (nU pE 232 mK fr lh sh) 2=c2∧b7 (nU pE 232 mK fr lh sh) 3=c3∧b7 (nU pE 232 mK fr lh sh) 35=KJ∧ ∃(R:List b8) (kn:List (Nat×Int)) (D F H:T),ow pE 232 mK fr lh sh=lI N (js c.cs c.cs.length) kn R∧oy c.cs kn∧lH R 40 (np D F H .nilsl .nilsl .nilsl .nilsl (zV c 1 c.ru.length) (zV c 2 c.ru.length) (zV c 3 c.ru.length) [] [] [] [])∧b7 (nU pE 232 mK fr lh sh) 37=⟨1,.cells (mq zT aT fT c N a8 a9 iq iy iv (mJ D F H .nilsl .nilsl .nilsl .nilsl nb)) 0 true⟩):=by
 refine jH (P:=fun jN iU iX=>b7 iU 2=c2∧b7 iU 3=c3∧b7 iU 35=KJ∧ ∃(R:List b8) (kn:List (Nat×Int)) (D F H:T),iX=lI N (js c.cs c.cs.length) kn R∧oy c.cs kn∧lH R 40 (np D F H .nilsl .nilsl .nilsl .nilsl (zV c 1 c.ru.length) (zV c 2 c.ru.length) (zV c 3 c.ru.length) [] [] [] [])∧b7 iU 37=⟨1,.cells (mq zT aT fT c N a8 a9 iq iy iv (mJ D F H .nilsl .nilsl .nilsl .nilsl nb)) 0 true⟩)
  (j6 (fun k st=> ∃(fr:Fr) (lA:iw b8) (R:List b8) (kn:List (Nat×Int)) (D F H:T),st=⟨fr,lA,lI N (js c.cs c.cs.length) kn R⟩∧oy c.cs kn∧lH R k (np D F H .nilsl .nilsl .nilsl .nilsl (zV c 1 k) (zV c 2 k) (zV c 3 k) [] [] [] [])∧an fr 8= .ptr .L 37 1 0∧an fr 14= .ptr .S 2 1 0∧an fr 73=a8∧an fr 74= .i .i64 (c.ru.length:Int)∧an fr 75= .i .i64 (k:Int)∧b7 lA 2=c2∧b7 lA 3=c3∧b7 lA 35=KJ∧b7 lA 37=⟨1,.cells (mq zT aT fT c N a8 a9 iq iy iv (mJ D F H .nilsl .nilsl .nilsl .nilsl nb)) 0 true⟩) _ c.ru.length ?_ ?_ 0 _ (Nat.zero_le _) ⟨fr,lh,[],D1,.nilsl,.nilsl,.nilsl,by rw[lQ],AN,aCr,I,J,KL,IL,S3,V,W,X,K⟩)
 ·rintro k _ hk ⟨fr,lA,R,kn,D,F,H,rfl,qb,O,I,J,KL,IL,S3,V,W,X,K⟩
  left
  have iW:(k:Int)<c.ru.length:=by omega
  have hw:=iO (k:=k) (by omega)
  obtain⟨b,cb,rr,je,mZ,hb⟩:=LJ i8 j8 k hk
  obtain⟨m9,hval,t,zS⟩:=sP c.ru[k] (List.getElem_mem hk)
  have D2:=(oZ hval).1
  obtain⟨cf,j1,im,yO,oz,_⟩:=HN c.cs N R c.cs.length (Nat.le_refl _) (HO c.cs N R c7 i7 j7) c.ru[k].sc (.inr m9) c.ru[k].x t kn _ qb hb D2 (oj hval) (by rw[D3];exact zS)
  have ph:=Ci (pX c.cs) c.ru[k].sc c.ru[k].x
  have Y:=EV c 1 hk
  have Z:=EV c 2 hk
  have s3:=EV c 3 hk
  generalize c.ru[k]=u at*
  generalize comp (pX c.cs) u.sc u.x=y at*
  obtain⟨r,fc,rfl,BU,hf2⟩:=yO.cells
  have IE:ZH (u.nm,y) [.s u.nm,.i .i64 y.op,.i .i64 y.num,r]:=⟨_,rfl,yO⟩
  have zh:zU 4 [(u.nm,y)] [.s u.nm,.i .i64 y.op,.i .i64 y.num,r]:=by
   have:=(zU.nil 4).app4 (u.nm,y) _ IE (by show y.sz≤1000;omega)
   grind
  have E1:=alf
  have aIx:k≤40:=by omega
  unfold mq jz mJ at K ⊢
  simp only[List.cons_append,List.nil_append]at K ⊢
  rcases m9 with m9|m9|m9 <;> rw[m9]at je im
  ·have U:=O.1 (4,D,zV c 1 k) (by simp[np])
   rw[if_pos m9]at Y
   rw[if_neg (by rw[m9];decide)]at Z s3
   rcases U with⟨mO,Bl⟩|⟨i,g,n,cs,hv,hE,hi,hn,hB,hfz⟩
   ·simp only at mO Bl
    subst mO
    rw[Bl,List.nil_append]at Y
    have we:=(O.mono (Nat.le_succ k)).new (by omega) 0 (by simp[np]) (sz:=4) rfl [.s u.nm,.i .i64 y.op,.i .i64 y.num,r] rfl _ zh
    simp only[qA,seval,kZ,repl,jG,iE,mc,j2,mK,I,J,KL,IL,S3,K,iW,je,hw,im,qY,rT,mZ.kept1,BU.froz1,jV,kl,iK,jx,iQ,jQ,sQ,GF,E1]
    refine⟨_,rfl,_,_,iH R R.length ⟨1,.cells [.s u.nm,.i .i64 y.op,.i .i64 y.num,r] 0 false⟩,j1,.isl .S (R.length+7) 1 0 1 4,F,H,rfl,oz,(by rw[Y,Z,s3];exact we), ?_, ?_, ?_, ?_, ?_, ?_, ?_, ?_, ?_⟩
    all_goals (simp only[qA,seval,I,J,KL,IL,V,W,X])
   ·simp only at hv
    subst hv
    have AO:=O.app 0 (by simp[np]) (sz:=4) rfl rfl hE hi hn hB [.s u.nm,.i .i64 y.op,.i .i64 y.num,r] rfl _ (hfz.app4 (u.nm,y) [.s u.nm,.i .i64 y.op,.i .i64 y.num,r] IE (by show y.sz≤1000;omega)) (g+1)
    have wg:(n+1)*56≤roomy:=Zr (by omega)
    simp only[qA,seval,kZ,repl,jG,iE,mc,j2,mK,I,J,KL,IL,S3,K,iW,je,hw,im,qY,rT,mZ.kept1,BU.froz1,jV,kl,iK,jt,iQ,jR,jc,GD,sQ,GF,hE,hn,wg]
    refine⟨_,rfl,_,_,iH R i ⟨g+1,.cells (cs++ [.s u.nm,.i .i64 y.op,.i .i64 y.num,r]) 0 false⟩,j1,.isl .S (i+7) (g+1) 0 (n+1) 4,F,H,rfl,oz,(by rw[Y,Z,s3];exact AO), ?_, ?_, ?_, ?_, ?_, ?_, ?_, ?_, ?_⟩
    all_goals (simp only[qA,seval,I,J,KL,IL,V,W,X])
  ·have U:=O.1 (4,F,zV c 2 k) (by simp[np])
   rw[if_pos m9]at Z
   rw[if_neg (by rw[m9];decide)]at Y s3
   rcases U with⟨mO,Bl⟩|⟨i,g,n,cs,hv,hE,hi,hn,hB,hfz⟩
   ·simp only at mO Bl
    subst mO
    rw[Bl,List.nil_append]at Z
    have we:=(O.mono (Nat.le_succ k)).new (by omega) 1 (by simp[np]) (sz:=4) rfl [.s u.nm,.i .i64 y.op,.i .i64 y.num,r] rfl _ zh
    simp only[qA,seval,kZ,repl,jG,iE,mc,j2,mK,I,J,KL,IL,S3,K,iW,je,hw,im,qY,rT,mZ.kept1,BU.froz1,jV,kl,iK,jx,iQ,jQ,sQ,GF,E1]
    refine⟨_,rfl,_,_,iH R R.length ⟨1,.cells [.s u.nm,.i .i64 y.op,.i .i64 y.num,r] 0 false⟩,j1,D,.isl .S (R.length+7) 1 0 1 4,H,rfl,oz,(by rw[Y,Z,s3];exact we), ?_, ?_, ?_, ?_, ?_, ?_, ?_, ?_, ?_⟩
    all_goals (simp only[qA,seval,I,J,KL,IL,V,W,X])
   ·simp only at hv
    subst hv
    have AO:=O.app 1 (by simp[np]) (sz:=4) rfl rfl hE hi hn hB [.s u.nm,.i .i64 y.op,.i .i64 y.num,r] rfl _ (hfz.app4 (u.nm,y) [.s u.nm,.i .i64 y.op,.i .i64 y.num,r] IE (by show y.sz≤1000;omega)) (g+1)
    have wg:(n+1)*56≤roomy:=Zr (by omega)
    simp only[qA,seval,kZ,repl,jG,iE,mc,j2,mK,I,J,KL,IL,S3,K,iW,je,hw,im,qY,rT,mZ.kept1,BU.froz1,jV,kl,iK,jt,iQ,jR,jc,GD,sQ,GF,hE,hn,wg]
    refine⟨_,rfl,_,_,iH R i ⟨g+1,.cells (cs++ [.s u.nm,.i .i64 y.op,.i .i64 y.num,r]) 0 false⟩,j1,D,.isl .S (i+7) (g+1) 0 (n+1) 4,H,rfl,oz,(by rw[Y,Z,s3];exact AO), ?_, ?_, ?_, ?_, ?_, ?_, ?_, ?_, ?_⟩
    all_goals (simp only[qA,seval,I,J,KL,IL,V,W,X])
  ·have U:=O.1 (4,H,zV c 3 k) (by simp[np])
   rw[if_pos m9]at s3
   rw[if_neg (by rw[m9];decide)]at Y Z
   rcases U with⟨mO,Bl⟩|⟨i,g,n,cs,hv,hE,hi,hn,hB,hfz⟩
   ·simp only at mO Bl
    subst mO
    rw[Bl,List.nil_append]at s3
    have we:=(O.mono (Nat.le_succ k)).new (by omega) 2 (by simp[np]) (sz:=4) rfl [.s u.nm,.i .i64 y.op,.i .i64 y.num,r] rfl _ zh
    simp only[qA,seval,kZ,repl,jG,iE,mc,j2,mK,I,J,KL,IL,S3,K,iW,je,hw,im,qY,rT,mZ.kept1,BU.froz1,jV,kl,iK,jx,iQ,jQ,sQ,GF,E1]
    refine⟨_,rfl,_,_,iH R R.length ⟨1,.cells [.s u.nm,.i .i64 y.op,.i .i64 y.num,r] 0 false⟩,j1,D,F,.isl .S (R.length+7) 1 0 1 4,rfl,oz,(by rw[Y,Z,s3];exact we), ?_, ?_, ?_, ?_, ?_, ?_, ?_, ?_, ?_⟩
    all_goals (simp only[qA,seval,I,J,KL,IL,V,W,X])
   ·simp only at hv
    subst hv
    have AO:=O.app 2 (by simp[np]) (sz:=4) rfl rfl hE hi hn hB [.s u.nm,.i .i64 y.op,.i .i64 y.num,r] rfl _ (hfz.app4 (u.nm,y) [.s u.nm,.i .i64 y.op,.i .i64 y.num,r] IE (by show y.sz≤1000;omega)) (g+1)
    have wg:(n+1)*56≤roomy:=Zr (by omega)
    simp only[qA,seval,kZ,repl,jG,iE,mc,j2,mK,I,J,KL,IL,S3,K,iW,je,hw,im,qY,rT,mZ.kept1,BU.froz1,jV,kl,iK,jt,iQ,jR,jc,GD,sQ,GF,hE,hn,wg]
    refine⟨_,rfl,_,_,iH R i ⟨g+1,.cells (cs++ [.s u.nm,.i .i64 y.op,.i .i64 y.num,r]) 0 false⟩,j1,D,F,.isl .S (i+7) (g+1) 0 (n+1) 4,rfl,oz,(by rw[Y,Z,s3];exact AO), ?_, ?_, ?_, ?_, ?_, ?_, ?_, ?_, ?_⟩
    all_goals (simp only[qA,seval,I,J,KL,IL,V,W,X])
 ·rintro _ ⟨fr,lA,R,kn,D,F,H,rfl,qb,O,I,J,KL,IL,S3,V,W,X,K⟩
  simp only[qA,seval,mK,IL,S3,Int.lt_irrefl]
  exact⟨_,_,uC,rfl,rfl,V,W,X,R,kn,D,F,H,rfl,qb,O.mono (by omega),K⟩
theorem HQ:40≤roomy:=by unfold roomy;omega
theorem Cj{n:Nat}(h:n≤1000):(n+1)*40≤roomy:=by unfold roomy;omega
theorem tK{a b c x y z:T}:splice [a,b,c] 0 [x,y,z]= [x,y,z]:=rfl
theorem mV{a b c x y z:T}: ∀(cs:List T),splice (cs++ [a,b,c]) cs.length [x,y,z]=cs++ [x,y,z]
 | []=>rfl
 |u::cs=>by rw[List.cons_append,List.cons_append,List.length_cons,splice,mV cs]
theorem tL{cs:List T}{a b c:T}:(cs++ [a,b,c]).length=cs.length+3:=by simp
theorem au3(c:Ct)(r O U V W X Y Z fT nb r1 r2 r3 c2 c3:T)(m:List (List Nat×Nat))(kn j1:List (Nat×Int))(R:List b8)(x:Ex)(b:T)(y:Fm)(F:T)(BO:Nat)(fr:Fr)(lh:iw b8)
  (Tl:froz1 b=true) (CI:kept1 b=true) (D:froz1 F=true) (OJ:kept1 F=true)
  (im:be pE 52 [.ptr .S 2 1 0,.i .i64 1,.agg [.i .i64 x.op,.i .i64 x.num,.s x.name,b]] (lI r m kn R)=some (.agg [.i .i64 y.op,.i .i64 y.num,F],lI r m j1 R))
  (h8:an fr 8= .ptr .L 37 1 0) (jI:an fr 14= .ptr .S 2 1 0) (mD:an fr 18= .ptr .L 18 BO 0) (CJ:b7 lh 18=⟨BO,.cells [.i .i64 1,.i .i64 x.op,.i .i64 x.num,.s x.name,b] 0 true⟩) (H:b7 lh 37=⟨1,.cells (mq Y Z fT c r O U V W X (mJ r1 r2 r3 (.nilsl) c2 c3 .nilsl nb)) 0 true⟩) (I:fx) (J:I=rH jq∨I=rI jq):
  ∃f1 K,DC pE 232 I ⟨fr,lh,lI r m kn R⟩=some (.nrm,⟨f1,K,lI r m j1 (iH R R.length ⟨1,.cells [.i .i64 y.op,.i .i64 y.num,F] 0 false⟩)⟩)∧(∀k,(j3 jq).contains k=false→k≠37→b7 K k=b7 lh k)∧b7 K 37=⟨1,.cells (mq Y Z fT c r O U V W X (mJ r1 r2 r3 (.isl .S (R.length+7) 1 0 1 3) c2 c3 .nilsl nb)) 0 true⟩:=by
 have E1:=HQ
 unfold mq jz mJ at H ⊢
 simp only[List.cons_append,List.nil_append]at H ⊢
 rcases J with rfl|rfl
 ·
  simp only[qA,seval,kZ,repl,jG,iE,mc,jm,j2,jq,rH,h8,jI,mD,CJ,H,im,qY,rT,CI,D,jV,kl,iK,jx,iQ,jQ,GD,sQ,GF,E1,jY,ko,tK,Nat.lt_succ_self]
  refine⟨_,_,rfl, ?_, ?_⟩
  ·intro k hk EX
   have N:k≠111:=by rintro rfl;exact absurd hk (by decide)
   repeat (first|rw[jE _ _ EX]|rw[jE _ _ N])
  ·simp only[qA,seval]
 ·
  simp only[qA,seval,kZ,repl,jG,iE,mc,jm,j2,jq,rI,h8,jI,mD,CJ,H,im,qY,rT,CI,D,jV,kl,iK,jx,iQ,jQ,GD,sQ,GF,E1,jY,ko,tK,Nat.lt_succ_self]
  refine⟨_,_,rfl, ?_, ?_⟩
  ·intro k hk EX
   have N:k≠111:=by rintro rfl;exact absurd hk (by decide)
   repeat (first|rw[jE _ _ EX]|rw[jE _ _ N])
  ·simp only[qA,seval]
theorem au4(c:Ct)(r O U V W X Y Z fT nb r1 r2 r3 c2 c3:T)(m:List (List Nat×Nat))(kn j1:List (Nat×Int))(R:List b8)(x:Ex)(b:T)(y:Fm)(F:T)(BO:Nat)(i g n:Nat)(cs:List T)(hE:iz R i=⟨g,.cells cs 0 false⟩)(hn:n*3=cs.length)(B8:n≤1000)(fr:Fr)(lh:iw b8)
  (Tl:froz1 b=true) (CI:kept1 b=true) (D:froz1 F=true) (OJ:kept1 F=true)
  (im:be pE 52 [.ptr .S 2 1 0,.i .i64 1,.agg [.i .i64 x.op,.i .i64 x.num,.s x.name,b]] (lI r m kn R)=some (.agg [.i .i64 y.op,.i .i64 y.num,F],lI r m j1 R))
  (h8:an fr 8= .ptr .L 37 1 0) (jI:an fr 14= .ptr .S 2 1 0) (mD:an fr 18= .ptr .L 18 BO 0) (CJ:b7 lh 18=⟨BO,.cells [.i .i64 1,.i .i64 x.op,.i .i64 x.num,.s x.name,b] 0 true⟩) (H:b7 lh 37=⟨1,.cells (mq Y Z fT c r O U V W X (mJ r1 r2 r3 (.isl .S (i+7) g 0 n 3) c2 c3 .nilsl nb)) 0 true⟩) (I:fx) (J:I=rH jq∨I=rI jq):
  ∃f1 K,DC pE 232 I ⟨fr,lh,lI r m kn R⟩=some (.nrm,⟨f1,K,lI r m j1 (iH R i ⟨g+1,.cells (cs++ [.i .i64 y.op,.i .i64 y.num,F]) 0 false⟩)⟩)∧(∀k,(j3 jq).contains k=false→k≠37→b7 K k=b7 lh k)∧b7 K 37=⟨1,.cells (mq Y Z fT c r O U V W X (mJ r1 r2 r3 (.isl .S (i+7) (g+1) 0 (n+1) 3) c2 c3 .nilsl nb)) 0 true⟩:=by
 have wg:(n+1)*40≤roomy:=Cj B8
 unfold mq jz mJ at H ⊢
 simp only[List.cons_append,List.nil_append]at H ⊢
 rcases J with rfl|rfl
 ·
  simp only[qA,seval,kZ,repl,jG,iE,mc,jm,j2,jq,rH,h8,jI,mD,CJ,H,im,qY,rT,CI,D,jV,kl,iK,jt,iQ,jR,jc,GD,sQ,GF,jY,ko,mV,tL,Nat.lt_succ_self,hE,hn,wg]
  refine⟨_,_,rfl, ?_, ?_⟩
  ·intro k hk EX
   have N:k≠111:=by rintro rfl;exact absurd hk (by decide)
   repeat (first|rw[jE _ _ EX]|rw[jE _ _ N])
  ·simp only[qA,seval]
 ·
  simp only[qA,seval,kZ,repl,jG,iE,mc,jm,j2,jq,rI,h8,jI,mD,CJ,H,im,qY,rT,CI,D,jV,kl,iK,jt,iQ,jR,jc,GD,sQ,GF,jY,ko,mV,tL,Nat.lt_succ_self,hE,hn,wg]
  refine⟨_,_,rfl, ?_, ?_⟩
  ·intro k hk EX
   have N:k≠111:=by rintro rfl;exact absurd hk (by decide)
   repeat (first|rw[jE _ _ EX]|rw[jE _ _ N])
  ·simp only[qA,seval]
theorem au5(c:Ct)(r O U V W X Y Z fT nb r1 r2 r3 c1 c3:T)(m:List (List Nat×Nat))(kn j1:List (Nat×Int))(R:List b8)(x:Ex)(b:T)(y:Fm)(F:T)(BO:Nat)(fr:Fr)(lh:iw b8)
  (Tl:froz1 b=true) (CI:kept1 b=true) (D:froz1 F=true) (OJ:kept1 F=true)
  (im:be pE 52 [.ptr .S 2 1 0,.i .i64 2,.agg [.i .i64 x.op,.i .i64 x.num,.s x.name,b]] (lI r m kn R)=some (.agg [.i .i64 y.op,.i .i64 y.num,F],lI r m j1 R))
  (h8:an fr 8= .ptr .L 37 1 0) (jI:an fr 14= .ptr .S 2 1 0) (mD:an fr 18= .ptr .L 18 BO 0) (CJ:b7 lh 18=⟨BO,.cells [.i .i64 2,.i .i64 x.op,.i .i64 x.num,.s x.name,b] 0 true⟩) (H:b7 lh 37=⟨1,.cells (mq Y Z fT c r O U V W X (mJ r1 r2 r3 c1 (.nilsl) c3 .nilsl nb)) 0 true⟩) (I:fx) (J:I=rH jq∨I=rI jq):
  ∃f1 K,DC pE 232 I ⟨fr,lh,lI r m kn R⟩=some (.nrm,⟨f1,K,lI r m j1 (iH R R.length ⟨1,.cells [.i .i64 y.op,.i .i64 y.num,F] 0 false⟩)⟩)∧(∀k,(j3 jq).contains k=false→k≠37→b7 K k=b7 lh k)∧b7 K 37=⟨1,.cells (mq Y Z fT c r O U V W X (mJ r1 r2 r3 c1 (.isl .S (R.length+7) 1 0 1 3) c3 .nilsl nb)) 0 true⟩:=by
 have E1:=HQ
 unfold mq jz mJ at H ⊢
 simp only[List.cons_append,List.nil_append]at H ⊢
 rcases J with rfl|rfl
 ·
  simp only[qA,seval,kZ,repl,jG,iE,mc,jm,j2,jq,rH,h8,jI,mD,CJ,H,im,qY,rT,CI,D,jV,kl,iK,jx,iQ,jQ,GD,sQ,GF,E1,jY,ko,tK,Nat.lt_succ_self]
  refine⟨_,_,rfl, ?_, ?_⟩
  ·intro k hk EX
   have N:k≠111:=by rintro rfl;exact absurd hk (by decide)
   repeat (first|rw[jE _ _ EX]|rw[jE _ _ N])
  ·simp only[qA,seval]
 ·
  simp only[qA,seval,kZ,repl,jG,iE,mc,jm,j2,jq,rI,h8,jI,mD,CJ,H,im,qY,rT,CI,D,jV,kl,iK,jx,iQ,jQ,GD,sQ,GF,E1,jY,ko,tK,Nat.lt_succ_self]
  refine⟨_,_,rfl, ?_, ?_⟩
  ·intro k hk EX
   have N:k≠111:=by rintro rfl;exact absurd hk (by decide)
   repeat (first|rw[jE _ _ EX]|rw[jE _ _ N])
  ·simp only[qA,seval]
theorem au6(c:Ct)(r O U V W X Y Z fT nb r1 r2 r3 c1 c3:T)(m:List (List Nat×Nat))(kn j1:List (Nat×Int))(R:List b8)(x:Ex)(b:T)(y:Fm)(F:T)(BO:Nat)(i g n:Nat)(cs:List T)(hE:iz R i=⟨g,.cells cs 0 false⟩)(hn:n*3=cs.length)(B8:n≤1000)(fr:Fr)(lh:iw b8)
  (Tl:froz1 b=true) (CI:kept1 b=true) (D:froz1 F=true) (OJ:kept1 F=true)
  (im:be pE 52 [.ptr .S 2 1 0,.i .i64 2,.agg [.i .i64 x.op,.i .i64 x.num,.s x.name,b]] (lI r m kn R)=some (.agg [.i .i64 y.op,.i .i64 y.num,F],lI r m j1 R))
  (h8:an fr 8= .ptr .L 37 1 0) (jI:an fr 14= .ptr .S 2 1 0) (mD:an fr 18= .ptr .L 18 BO 0) (CJ:b7 lh 18=⟨BO,.cells [.i .i64 2,.i .i64 x.op,.i .i64 x.num,.s x.name,b] 0 true⟩) (H:b7 lh 37=⟨1,.cells (mq Y Z fT c r O U V W X (mJ r1 r2 r3 c1 (.isl .S (i+7) g 0 n 3) c3 .nilsl nb)) 0 true⟩) (I:fx) (J:I=rH jq∨I=rI jq):
  ∃f1 K,DC pE 232 I ⟨fr,lh,lI r m kn R⟩=some (.nrm,⟨f1,K,lI r m j1 (iH R i ⟨g+1,.cells (cs++ [.i .i64 y.op,.i .i64 y.num,F]) 0 false⟩)⟩)∧(∀k,(j3 jq).contains k=false→k≠37→b7 K k=b7 lh k)∧b7 K 37=⟨1,.cells (mq Y Z fT c r O U V W X (mJ r1 r2 r3 c1 (.isl .S (i+7) (g+1) 0 (n+1) 3) c3 .nilsl nb)) 0 true⟩:=by
 have wg:(n+1)*40≤roomy:=Cj B8
 unfold mq jz mJ at H ⊢
 simp only[List.cons_append,List.nil_append]at H ⊢
 rcases J with rfl|rfl
 ·
  simp only[qA,seval,kZ,repl,jG,iE,mc,jm,j2,jq,rH,h8,jI,mD,CJ,H,im,qY,rT,CI,D,jV,kl,iK,jt,iQ,jR,jc,GD,sQ,GF,jY,ko,mV,tL,Nat.lt_succ_self,hE,hn,wg]
  refine⟨_,_,rfl, ?_, ?_⟩
  ·intro k hk EX
   have N:k≠111:=by rintro rfl;exact absurd hk (by decide)
   repeat (first|rw[jE _ _ EX]|rw[jE _ _ N])
  ·simp only[qA,seval]
 ·
  simp only[qA,seval,kZ,repl,jG,iE,mc,jm,j2,jq,rI,h8,jI,mD,CJ,H,im,qY,rT,CI,D,jV,kl,iK,jt,iQ,jR,jc,GD,sQ,GF,jY,ko,mV,tL,Nat.lt_succ_self,hE,hn,wg]
  refine⟨_,_,rfl, ?_, ?_⟩
  ·intro k hk EX
   have N:k≠111:=by rintro rfl;exact absurd hk (by decide)
   repeat (first|rw[jE _ _ EX]|rw[jE _ _ N])
  ·simp only[qA,seval]
theorem au7(c:Ct)(r O U V W X Y Z fT nb r1 r2 r3 c1 c2:T)(m:List (List Nat×Nat))(kn j1:List (Nat×Int))(R:List b8)(x:Ex)(b:T)(y:Fm)(F:T)(BO:Nat)(fr:Fr)(lh:iw b8)
  (Tl:froz1 b=true) (CI:kept1 b=true) (D:froz1 F=true) (OJ:kept1 F=true)
  (im:be pE 52 [.ptr .S 2 1 0,.i .i64 3,.agg [.i .i64 x.op,.i .i64 x.num,.s x.name,b]] (lI r m kn R)=some (.agg [.i .i64 y.op,.i .i64 y.num,F],lI r m j1 R))
  (h8:an fr 8= .ptr .L 37 1 0) (jI:an fr 14= .ptr .S 2 1 0) (mD:an fr 18= .ptr .L 18 BO 0) (CJ:b7 lh 18=⟨BO,.cells [.i .i64 3,.i .i64 x.op,.i .i64 x.num,.s x.name,b] 0 true⟩) (H:b7 lh 37=⟨1,.cells (mq Y Z fT c r O U V W X (mJ r1 r2 r3 c1 c2 (.nilsl) .nilsl nb)) 0 true⟩) (I:fx) (J:I=rH jq∨I=rI jq):
  ∃f1 K,DC pE 232 I ⟨fr,lh,lI r m kn R⟩=some (.nrm,⟨f1,K,lI r m j1 (iH R R.length ⟨1,.cells [.i .i64 y.op,.i .i64 y.num,F] 0 false⟩)⟩)∧(∀k,(j3 jq).contains k=false→k≠37→b7 K k=b7 lh k)∧b7 K 37=⟨1,.cells (mq Y Z fT c r O U V W X (mJ r1 r2 r3 c1 c2 (.isl .S (R.length+7) 1 0 1 3) .nilsl nb)) 0 true⟩:=by
 have E1:=HQ
 unfold mq jz mJ at H ⊢
 simp only[List.cons_append,List.nil_append]at H ⊢
 rcases J with rfl|rfl
 ·
  simp only[qA,seval,kZ,repl,jG,iE,mc,jm,j2,jq,rH,h8,jI,mD,CJ,H,im,qY,rT,CI,D,jV,kl,iK,jx,iQ,jQ,GD,sQ,GF,E1,jY,ko,tK,Nat.lt_succ_self]
  refine⟨_,_,rfl, ?_, ?_⟩
  ·intro k hk EX
   have N:k≠111:=by rintro rfl;exact absurd hk (by decide)
   repeat (first|rw[jE _ _ EX]|rw[jE _ _ N])
  ·simp only[qA,seval]
 ·
  simp only[qA,seval,kZ,repl,jG,iE,mc,jm,j2,jq,rI,h8,jI,mD,CJ,H,im,qY,rT,CI,D,jV,kl,iK,jx,iQ,jQ,GD,sQ,GF,E1,jY,ko,tK,Nat.lt_succ_self]
  refine⟨_,_,rfl, ?_, ?_⟩
  ·intro k hk EX
   have N:k≠111:=by rintro rfl;exact absurd hk (by decide)
   repeat (first|rw[jE _ _ EX]|rw[jE _ _ N])
  ·simp only[qA,seval]
theorem au8(c:Ct)(r O U V W X Y Z fT nb r1 r2 r3 c1 c2:T)(m:List (List Nat×Nat))(kn j1:List (Nat×Int))(R:List b8)(x:Ex)(b:T)(y:Fm)(F:T)(BO:Nat)(i g n:Nat)(cs:List T)(hE:iz R i=⟨g,.cells cs 0 false⟩)(hn:n*3=cs.length)(B8:n≤1000)(fr:Fr)(lh:iw b8)
  (Tl:froz1 b=true) (CI:kept1 b=true) (D:froz1 F=true) (OJ:kept1 F=true)
  (im:be pE 52 [.ptr .S 2 1 0,.i .i64 3,.agg [.i .i64 x.op,.i .i64 x.num,.s x.name,b]] (lI r m kn R)=some (.agg [.i .i64 y.op,.i .i64 y.num,F],lI r m j1 R))
  (h8:an fr 8= .ptr .L 37 1 0) (jI:an fr 14= .ptr .S 2 1 0) (mD:an fr 18= .ptr .L 18 BO 0) (CJ:b7 lh 18=⟨BO,.cells [.i .i64 3,.i .i64 x.op,.i .i64 x.num,.s x.name,b] 0 true⟩) (H:b7 lh 37=⟨1,.cells (mq Y Z fT c r O U V W X (mJ r1 r2 r3 c1 c2 (.isl .S (i+7) g 0 n 3) .nilsl nb)) 0 true⟩) (I:fx) (J:I=rH jq∨I=rI jq):
  ∃f1 K,DC pE 232 I ⟨fr,lh,lI r m kn R⟩=some (.nrm,⟨f1,K,lI r m j1 (iH R i ⟨g+1,.cells (cs++ [.i .i64 y.op,.i .i64 y.num,F]) 0 false⟩)⟩)∧(∀k,(j3 jq).contains k=false→k≠37→b7 K k=b7 lh k)∧b7 K 37=⟨1,.cells (mq Y Z fT c r O U V W X (mJ r1 r2 r3 c1 c2 (.isl .S (i+7) (g+1) 0 (n+1) 3) .nilsl nb)) 0 true⟩:=by
 have wg:(n+1)*40≤roomy:=Cj B8
 unfold mq jz mJ at H ⊢
 simp only[List.cons_append,List.nil_append]at H ⊢
 rcases J with rfl|rfl
 ·
  simp only[qA,seval,kZ,repl,jG,iE,mc,jm,j2,jq,rH,h8,jI,mD,CJ,H,im,qY,rT,CI,D,jV,kl,iK,jt,iQ,jR,jc,GD,sQ,GF,jY,ko,mV,tL,Nat.lt_succ_self,hE,hn,wg]
  refine⟨_,_,rfl, ?_, ?_⟩
  ·intro k hk EX
   have N:k≠111:=by rintro rfl;exact absurd hk (by decide)
   repeat (first|rw[jE _ _ EX]|rw[jE _ _ N])
  ·simp only[qA,seval]
 ·
  simp only[qA,seval,kZ,repl,jG,iE,mc,jm,j2,jq,rI,h8,jI,mD,CJ,H,im,qY,rT,CI,D,jV,kl,iK,jt,iQ,jR,jc,GD,sQ,GF,jY,ko,mV,tL,Nat.lt_succ_self,hE,hn,wg]
  refine⟨_,_,rfl, ?_, ?_⟩
  ·intro k hk EX
   have N:k≠111:=by rintro rfl;exact absurd hk (by decide)
   repeat (first|rw[jE _ _ EX]|rw[jE _ _ N])
  ·simp only[qA,seval]
theorem tc{fr:Fr}{lh:iw b8}{sh SH:List b8}{X:b8}(A: ∀F,(F=rH jq∨F=rI jq)→ ∃H r,DC pE 232 F ⟨fr,lh,sh⟩=some (.nrm,⟨H,r,SH⟩)∧(∀k,(j3 jq).contains k=false→k≠37→b7 r k=b7 lh k)∧b7 r 37=X):
  ∃D i,DC pE 232 jq ⟨fr,lh,sh⟩=some (.nrm,⟨D,i,SH⟩)∧(∀k,(j3 jq).contains k=false→an D k=an fr k)∧(∀k,(j3 jq).contains k=false→k≠37→b7 i k=b7 lh k)∧b7 i 37=X:=by
 obtain⟨H,r,N,I,x1⟩:=A _ (.inl rfl)
 obtain⟨Y,Z,O,U,x2⟩:=A _ (.inr rfl)
 obtain⟨D,i,V,W,J⟩:=acg (by rfl) N O (fun k hk=>by
  by_cases h:k=37
  ·subst h;rw[x1,x2]
  ·rw[I k hk h,U k hk h])
 exact⟨D,i,V,W,fun j K h=>(J j K).trans (I j K h),(J 37 (by decide)).trans x1⟩
theorem aCs{fr:Fr}{lh:iw b8}{D:Option (Out×St)}(c:Ct)(J a8 a9 iq iy iv zT aT fT nb Y Z r3 K N O:T)(m:List (List Nat×Nat))(kn j1:List (Nat×Int))(R:List b8)(x:Ex)(b:T)(y:Fm)(r:T)(BO:Nat)(sc:Int)(k:Nat)(m9:sc=1∨sc=2∨sc=3)(hk:k≤900)(l1 l2 l3 k1 k2 k3:RL)(qm:lH R k (np Y Z r3 K N O .nilsl l1 l2 l3 k1 k2 k3 []))(hy:om y [.i .i64 y.op,.i .i64 y.num,r])(ph:y.sz≤1000)
  (Tl:froz1 b=true) (CI:kept1 b=true) (I:froz1 r=true) (OJ:kept1 r=true)
  (im:be pE 52 [.ptr .S 2 1 0,.i .i64 sc,.agg [.i .i64 x.op,.i .i64 x.num,.s x.name,b]] (lI J m kn R)=some (.agg [.i .i64 y.op,.i .i64 y.num,r],lI J m j1 R))
  (hD:DC pE 232 jq ⟨fr,lh,lI J m kn R⟩=D)
  (h8:an fr 8= .ptr .L 37 1 0) (jI:an fr 14= .ptr .S 2 1 0) (mD:an fr 18= .ptr .L 18 BO 0) (CJ:b7 lh 18=⟨BO,.cells [.i .i64 sc,.i .i64 x.op,.i .i64 x.num,.s x.name,b] 0 true⟩) (j5:b7 lh 37=⟨1,.cells (mq zT aT fT c J a8 a9 iq iy iv (mJ Y Z r3 K N O .nilsl nb)) 0 true⟩):
  ∃H F R' Zt c2' c3',D=some (.nrm,⟨H,F,lI J m j1 R'⟩)∧lH R' (k+1) (np Y Z r3 Zt c2' c3' .nilsl l1 l2 l3 (if sc=1 then k1++ [([],y)]else k1) (if sc=2 then k2++ [([],y)]else k2) (if sc=3 then k3++ [([],y)]else k3) [])∧(∀k,(j3 jq).contains k=false→an H k=an fr k)∧(∀k,(j3 jq).contains k=false→k≠37→b7 F k=b7 lh k)∧b7 F 37=⟨1,.cells (mq zT aT fT c J a8 a9 iq iy iv (mJ Y Z r3 Zt c2' c3' .nilsl nb)) 0 true⟩:=by
 have zh:zU 3 [([],y)] [.i .i64 y.op,.i .i64 y.num,r]:=by
  have:=(zU.nil 3).app3 ([],y) _ hy ph
  simpa using this
 rcases m9 with rfl|rfl|rfl
 ·rcases qm.1 (3,K,k1) (by simp[np])with⟨mO,Bl⟩|⟨i,g,n,cs,hv,hE,hi,hn,hB,Zs⟩
  ·simp only at mO Bl
   subst mO Bl
   have we:=(qm.mono (Nat.le_succ k)).new (by omega) 3 (by simp[np]) (sz:=3) rfl [.i .i64 y.op,.i .i64 y.num,r] rfl _ zh
   obtain⟨H,F,U,V,W,X⟩:=tc (au3 c J a8 a9 iq iy iv zT aT fT nb Y Z r3 N O m kn j1 R x b y r BO fr lh Tl CI I OJ im h8 jI mD CJ j5)
   exact⟨H,F,_,_,N,O,hD.symm.trans U,we,V,W,X⟩
  ·simp only at hv
   subst hv
   have AO:=qm.app 3 (by simp[np]) (sz:=3) rfl rfl hE hi hn hB [.i .i64 y.op,.i .i64 y.num,r] rfl _ (Zs.app3 ([],y) _ hy ph) (g+1)
   obtain⟨H,F,U,V,W,X⟩:=tc (au4 c J a8 a9 iq iy iv zT aT fT nb Y Z r3 N O m kn j1 R x b y r BO i g n cs hE hn (by omega) fr lh Tl CI I OJ im h8 jI mD CJ j5)
   exact⟨H,F,_,_,N,O,hD.symm.trans U,AO,V,W,X⟩
 ·rcases qm.1 (3,N,k2) (by simp[np])with⟨mO,Bl⟩|⟨i,g,n,cs,hv,hE,hi,hn,hB,Zs⟩
  ·simp only at mO Bl
   subst mO Bl
   have we:=(qm.mono (Nat.le_succ k)).new (by omega) 4 (by simp[np]) (sz:=3) rfl [.i .i64 y.op,.i .i64 y.num,r] rfl _ zh
   obtain⟨H,F,U,V,W,X⟩:=tc (au5 c J a8 a9 iq iy iv zT aT fT nb Y Z r3 K O m kn j1 R x b y r BO fr lh Tl CI I OJ im h8 jI mD CJ j5)
   exact⟨H,F,_,K,_,O,hD.symm.trans U,we,V,W,X⟩
  ·simp only at hv
   subst hv
   have AO:=qm.app 4 (by simp[np]) (sz:=3) rfl rfl hE hi hn hB [.i .i64 y.op,.i .i64 y.num,r] rfl _ (Zs.app3 ([],y) _ hy ph) (g+1)
   obtain⟨H,F,U,V,W,X⟩:=tc (au6 c J a8 a9 iq iy iv zT aT fT nb Y Z r3 K O m kn j1 R x b y r BO i g n cs hE hn (by omega) fr lh Tl CI I OJ im h8 jI mD CJ j5)
   exact⟨H,F,_,K,_,O,hD.symm.trans U,AO,V,W,X⟩
 ·rcases qm.1 (3,O,k3) (by simp[np])with⟨mO,Bl⟩|⟨i,g,n,cs,hv,hE,hi,hn,hB,Zs⟩
  ·simp only at mO Bl
   subst mO Bl
   have we:=(qm.mono (Nat.le_succ k)).new (by omega) 5 (by simp[np]) (sz:=3) rfl [.i .i64 y.op,.i .i64 y.num,r] rfl _ zh
   obtain⟨H,F,U,V,W,X⟩:=tc (au7 c J a8 a9 iq iy iv zT aT fT nb Y Z r3 K N m kn j1 R x b y r BO fr lh Tl CI I OJ im h8 jI mD CJ j5)
   exact⟨H,F,_,K,N,_,hD.symm.trans U,we,V,W,X⟩
  ·simp only at hv
   subst hv
   have AO:=qm.app 5 (by simp[np]) (sz:=3) rfl rfl hE hi hn hB [.i .i64 y.op,.i .i64 y.num,r] rfl _ (Zs.app3 ([],y) _ hy ph) (g+1)
   obtain⟨H,F,U,V,W,X⟩:=tc (au8 c J a8 a9 iq iy iv zT aT fT nb Y Z r3 K N m kn j1 R x b y r BO i g n cs hE hn (by omega) fr lh Tl CI I OJ im h8 jI mD CJ j5)
   exact⟨H,F,_,K,N,_,hD.symm.trans U,AO,V,W,X⟩
theorem nwc(c:Ct)(r J:T)(c7 c9:List T)(i7:IsSl r c.cs.length c7)(j7:mf c.cs c7)(i9:IsSl J c.co.length c9)(j9:iA ZJ c.co c9)(hlen:c.co.length≤40)(sP: ∀u∈c.co,RS c.cs u.sc u.x)(Y Z fT a8 iq iy iv nb K N O:T)(k2 k3 uy:b8)(D1:List (Nat×Int))(AN:oy c.cs D1)(R0:List b8)(l1 l2 l3:RL)(IK:lH R0 40 (np K N O .nilsl .nilsl .nilsl .nilsl l1 l2 l3 [] [] [] []))(fr:Fr)(lh:iw b8)(sh:List b8)(lQ:sh=lI r (js c.cs c.cs.length) D1 R0)
  (h8:an fr 8= .ptr .L 37 1 0) (jI:an fr 14= .ptr .S 2 1 0) (MV:an fr 105=J) (KM:an fr 106= .i .i64 (c.co.length:Int)) (KN:an fr 107= .i .i64 0) (o2:b7 lh 2=k2) (o3:b7 lh 3=k3) (mz:b7 lh 35=uy) (j5:b7 lh 37=⟨1,.cells (mq Y Z fT c r a8 J iq iy iv (mJ K N O .nilsl .nilsl .nilsl .nilsl nb)) 0 true⟩):
  wJ 232 pQ fr lh sh (.ext 6)∧
  (b7 (nU pE 232 pQ fr lh sh) 2=k2∧b7 (nU pE 232 pQ fr lh sh) 3=k3∧b7 (nU pE 232 pQ fr lh sh) 35=uy∧ ∃(R:List b8) (kn:List (Nat×Int)) (F H I:T),ow pE 232 pQ fr lh sh=lI r (js c.cs c.cs.length) kn R∧oy c.cs kn∧lH R 80 (np K N O F H I .nilsl l1 l2 l3 (BW c 1 c.co.length) (BW c 2 c.co.length) (BW c 3 c.co.length) [])∧b7 (nU pE 232 pQ fr lh sh) 37=⟨1,.cells (mq Y Z fT c r a8 J iq iy iv (mJ K N O F H I .nilsl nb)) 0 true⟩):=by
 refine jH (P:=fun X U iX=>b7 U 2=k2∧b7 U 3=k3∧b7 U 35=uy∧ ∃(R:List b8) (kn:List (Nat×Int)) (F H I:T),iX=lI r (js c.cs c.cs.length) kn R∧oy c.cs kn∧lH R 80 (np K N O F H I .nilsl l1 l2 l3 (BW c 1 c.co.length) (BW c 2 c.co.length) (BW c 3 c.co.length) [])∧b7 U 37=⟨1,.cells (mq Y Z fT c r a8 J iq iy iv (mJ K N O F H I .nilsl nb)) 0 true⟩)
  (j6 (fun k st=> ∃(fr:Fr) (V:iw b8) (R:List b8) (kn:List (Nat×Int)) (F H I:T),st=⟨fr,V,lI r (js c.cs c.cs.length) kn R⟩∧oy c.cs kn∧lH R (40+k) (np K N O F H I .nilsl l1 l2 l3 (BW c 1 k) (BW c 2 k) (BW c 3 k) [])∧an fr 8= .ptr .L 37 1 0∧an fr 14= .ptr .S 2 1 0∧an fr 105=J∧an fr 106= .i .i64 (c.co.length:Int)∧an fr 107= .i .i64 (k:Int)∧b7 V 2=k2∧b7 V 3=k3∧b7 V 35=uy∧b7 V 37=⟨1,.cells (mq Y Z fT c r a8 J iq iy iv (mJ K N O F H I .nilsl nb)) 0 true⟩) _ c.co.length ?_ ?_ 0 _ (Nat.zero_le _) ⟨fr,lh,R0,D1,.nilsl,.nilsl,.nilsl,by rw[lQ],AN,IK,h8,jI,MV,KM,KN,o2,o3,mz,j5⟩)
 ·rintro k _ hk ⟨fr,V,R,kn,F,H,I,rfl,qb,qm,h8,jI,MV,KM,KN,o2,o3,mz,j5⟩
  left
  have iW:(k:Int)<c.co.length:=by omega
  have hw:=iO (k:=k) (by omega)
  obtain⟨b,cb,rr,je,mZ,hb⟩:=Qj i9 j9 k hk
  obtain⟨m9,W,t,zS⟩:=sP c.co[k] (List.getElem_mem hk)
  have D2:=(oZ W).1
  obtain⟨cf,j1,im,yO,oz,_⟩:=HN c.cs r R c.cs.length (Nat.le_refl _) (HO c.cs r R c7 i7 j7) c.co[k].sc (.inr m9) c.co[k].x t kn _ qb hb D2 (oj W) (by rw[D3];exact zS)
  have ph:=Ci (pX c.cs) c.co[k].sc c.co[k].x
  have s1:=EW c 1 hk
  have s2:=EW c 2 hk
  have s3:=EW c 3 hk
  generalize c.co[k]=u at*
  generalize comp (pX c.cs) u.sc u.x=y at*
  obtain⟨fa,fc,rfl,BU,hf2⟩:=yO.cells
  simp only[qA,seval,pQ,MV,KM,KN,iW,je]
  generalize hD:DC pE 232 jq _=D
  obtain⟨X,U,R',Zt,c2',c3',rfl,hR',q2,q3,q4⟩:=aCs c r a8 J iq iy iv Y Z fT nb K N O F H I _ kn j1 R u.x b y fa ((b7 V 18).g+1) u.sc (40+k) m9 (by omega) l1 l2 l3 _ _ _ qm yO (by omega) mZ.froz1 mZ.kept1 BU.froz1 BU.kept1 im hD (by simp only[qA,seval,h8]) (by simp only[qA,seval,jI]) (by simp only[qA,seval]) (by simp only[qA,seval]) (by simp only[qA,seval,j5])
  rw[←s1,←s2,←s3]at hR'
  have f8:an X 8= .ptr .L 37 1 0:=by rw[q2 8 (by decide)];simp only[qA,seval,h8]
  have f14:an X 14= .ptr .S 2 1 0:=by rw[q2 14 (by decide)];simp only[qA,seval,jI]
  have f105:an X 105=J:=by rw[q2 105 (by decide)];simp only[qA,seval,MV]
  have f106:an X 106= .i .i64 (c.co.length:Int):=by rw[q2 106 (by decide)];simp only[qA,seval,KM]
  have f107:an X 107= .i .i64 (k:Int):=by rw[q2 107 (by decide)];simp only[qA,seval,KN]
  have p2:b7 U 2=k2:=by rw[q3 2 (by decide) (by decide)];simp only[qA,seval,o2]
  have p3:b7 U 3=k3:=by rw[q3 3 (by decide) (by decide)];simp only[qA,seval,o3]
  have p35:b7 U 35=uy:=by rw[q3 35 (by decide) (by decide)];simp only[qA,seval,mz]
  simp only[qA,seval,f107,hw]
  refine⟨_,rfl,_,_,R',j1,Zt,c2',c3',rfl,oz,hR', ?_, ?_, ?_, ?_, ?_, ?_, ?_, ?_, ?_⟩
  all_goals (simp only[qA,seval,f8,f14,f105,f106,p2,p3,p35,q4])
 ·rintro _ ⟨fr,V,R,kn,F,H,I,rfl,qb,qm,h8,jI,MV,KM,KN,o2,o3,mz,j5⟩
  simp only[qA,seval,pQ,KM,KN,Int.lt_irrefl]
  exact⟨_,_,uC,rfl,rfl,o2,o3,mz,R,kn,F,H,I,rfl,qb,qm.mono (by omega),j5⟩
end Go.Proofs.YtcpceiclnbmgiaaGreat
