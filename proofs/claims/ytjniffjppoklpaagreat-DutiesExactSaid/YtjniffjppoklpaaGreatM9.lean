/- Walks of functions of the program and of the reference, and their plain laws, part 9. Conditions: the theorems' own. -/
import Derived.Test.YtjniffjppoklpaaGreatM8
import Derived.KernelRfl
set_option maxRecDepth 100000
set_option linter.unusedSimpArgs false
set_option linter.unusedVariables false
set_option maxHeartbeats 16000000
namespace Go.Proofs.YtjniffjppoklpaaGreat
open Go Go.Ev
theorem Gv{α β:Type}[DecidableEq α]{s:α}: ∀{m:List (α×β)},s∉m.map Prod.fst→ja m s=none
 | [],_=>rfl
 |p::m,h=>by
  rw[List.map_cons,List.mem_cons,not_or]at h
  rw[ja,if_neg h.1,Gv h.2]
theorem DB.fz{z:Zo}{c:List T}(h:DB z c):c.all froz1=true∧c.length=3:=by
 obtain⟨a,D,rfl,r,_⟩:=h
 exact⟨by simp[r.froz1,Jd,As],rfl⟩
def Pc(r:List Zo)(m:List (List Nat×List T)):Prop:= ∀p∈m,∃z∈r,z.nm=p.1∧DB z p.2
theorem Sf{l:List (List Nat)}(r:l.Nodup){k:Nat}(D:k<l.length):l[k]∉l.take k:=by
 intro E
 obtain⟨j,F,e⟩:=List.getElem_of_mem E
 rw[List.length_take]at F
 rw[List.getElem_take]at e
 exact List.pairwise_iff_getElem.1 r j k (by omega) D (by omega) e
theorem nwz(l:List Zo)(Z:(l.map Zo.nm).Nodup)(a:T)(cc:List T)(ha:iJ a l.length cc)(hc:iK DB l cc)(hlen:l.length≤100)(W X C5 NU:iy)(fr:Fr)(lh:iL iy)(sh:List iy)
  (I:an fr 9= .mp .L 38 1) (D:an fr 40=a) (r:an fr 41= .i .i64 (l.length:Int)) (E:an fr 42= .i .i64 0) (J:a6 lh 2=W) (K:a6 lh 3=X) (N:a6 lh 35=C5) (O:a6 lh 37=NU) (MA:a6 lh 38=⟨1,.map [] [] false⟩):
  qG 232 pU fr lh sh (.ext 0)∧
  (a6 (nh pE 232 pU fr lh sh) 2=W∧a6 (nh pE 232 pU fr lh sh) 3=X∧a6 (nh pE 232 pU fr lh sh) 35=C5∧a6 (nh pE 232 pU fr lh sh) 37=NU∧(∃m,a6 (nh pE 232 pU fr lh sh) 38=⟨1,.map (m.map fun p=>sK p.1) (m.map fun p=>T.agg p.2) false⟩∧Pc l m∧m.map Prod.fst=l.map Zo.nm)∧nB pE 232 pU fr lh sh=sh):=by
 refine jh (P:=fun jB U jk=>a6 U 2=W∧a6 U 3=X∧a6 U 35=C5∧a6 U 37=NU∧(∃m,a6 U 38=⟨1,.map (m.map fun p=>sK p.1) (m.map fun p=>T.agg p.2) false⟩∧Pc l m∧m.map Prod.fst=l.map Zo.nm)∧jk=sh)
  (jx (fun k st=> ∃(fr:Fr) (F:iL iy) (m:List (List Nat×List T)),st=⟨fr,F,sh⟩∧m.map Prod.fst=(l.map Zo.nm).take k∧Pc l m∧an fr 9= .mp .L 38 1∧an fr 40=a∧an fr 41= .i .i64 (l.length:Int)∧an fr 42= .i .i64 (k:Int)∧a6 F 2=W∧a6 F 3=X∧a6 F 35=C5∧a6 F 37=NU∧a6 F 38=⟨1,.map (m.map fun p=>sK p.1) (m.map fun p=>T.agg p.2) false⟩) _ l.length ?_ ?_ 0 _ (Nat.zero_le _) ⟨fr,lh,[],rfl,by simp,(fun p hp=>by cases hp),I,D,r,E,J,K,N,O,MA⟩)
 ·rintro k _ hk ⟨fr,F,m,rfl,Y,H,I,D,r,E,J,K,N,O,MA⟩
  left
  have iU:(k:Int)<l.length:=by omega
  have hw:=iX (k:=k) (by omega)
  obtain⟨V,sc,rr,iW,rP,A4⟩:=H5 ha hc k hk
  have N3:k<(l.map Zo.nm).length:=by simpa using hk
  have wh:ja m l[k].nm=none:=Gv (by rw[Y];have:=Sf Z N3;rwa [List.getElem_map]at this)
  have px:rL (.one .str) (.s l[k].nm) (.agg [.s l[k].nm,.i .i64 l[k].o,V]) (m.map fun p=>sK p.1) (m.map fun p=>T.agg p.2)=_:=Ax (kT:=sK) (vT:=T.agg) G0 m l[k].nm [.s l[k].nm,.i .i64 l[k].o,V] wh
  have hzr: ∃z∈l,z.nm=l[k].nm∧DB z [.s l[k].nm,.i .i64 l[k].o,V]:=⟨l[k],List.getElem_mem hk,rfl,V,sc,rfl,rP,A4⟩
  have abL:(l.map Zo.nm).take (k+1)=(l.map Zo.nm).take k++ [l[k].nm]:=by rw[List.take_succ_eq_append_getElem N3,List.getElem_map]
  rw[abL]
  generalize l[k]=z at*
  simp only[qA,seval,pU,I,D,r,E,MA,iU,iW,hw,vq,CR,px,rP.froz1]
  refine⟨_,rfl,_,_,m++ [(z.nm,[.s z.nm,.i .i64 z.o,V])],rfl, ?_, ?_, ?_, ?_, ?_, ?_, ?_, ?_, ?_, ?_, ?_⟩
  ·rw[List.map_append,Y];rfl
  ·intro p hp
   rcases List.mem_append.1 hp with hp|hp
   ·exact H p hp
   ·rw[List.mem_singleton.1 hp];exact hzr
  all_goals (simp only[qA,seval,I,D,r,J,K,N,O])
 ·rintro _ ⟨fr,F,m,rfl,Y,H,I,D,r,E,J,K,N,O,MA⟩
  simp only[qA,seval,pU,r,E,Int.lt_irrefl]
  exact⟨_,_,oH,rfl,rfl,J,K,N,O,⟨m,MA,H,by rw[Y,List.take_of_length_le (by simp)]⟩,rfl⟩
def nC(D E F:T)(c:Ct)(H I J r K N:T)(O:List T):List T:=D::E::F::(jb c H I J r K N++ .mp .L 35 1::O)
theorem AQ{α β:Type}[DecidableEq α]{s:α}{v:β}: ∀{m:List (α×β)},ja m s=some v→(s,v)∈m
 | [],h=>by cases h
 |p::m,h=>by
  rw[ja]at h
  split at h
  ·rename_i e;injection h with h;subst h;rw[e];exact List.mem_cons_self ..
  ·exact List.mem_cons_of_mem _ (AQ h)
theorem B7{α β:Type}[DecidableEq α]{s:α}: ∀{m:List (α×β)},s∈m.map Prod.fst→ ∃v,ja m s=some v
 | [],h=>by cases h
 |p::m,h=>by
  rw[ja]
  split
  ·exact⟨_,rfl⟩
  ·rename_i e
   rw[List.map_cons,List.mem_cons]at h
   rcases h with h|h
   ·exact absurd h e
   ·exact B7 h
def T3(r:List Zo)(D:List Ap)(q:List (List Nat×List T)):Prop:= ∀p∈q,∃u∈D,u.cd=p.1∧ ∃z∈r,z.nm=u.zn∧DB z p.2
theorem agp{r:List Zo}{m:List (List Nat×List T)}(F:Pc r m)(H:m.map Prod.fst=r.map Zo.nm)(s:List Nat)(hs:s∈r.map Zo.nm): ∃v,(∃z∈r,z.nm=s∧DB z v)∧oU (.one .str) (m.map fun p=>sK p.1) (m.map fun p=>T.agg p.2) (.s s) (.agg [.s [],.i .i64 0,.nilsl]) false=some (.agg v)∧v.all froz1=true∧v.length=3:=by
 have D:=Q0 (kT:=sK) (vT:=T.agg) G0 (fun _=>rfl) m s (.agg [.s [],.i .i64 0,.nilsl])
 obtain⟨v,h⟩:=B7 (by rw[H];exact hs)
 rw[h]at D
 obtain⟨z,I,J,E⟩:=F _ (AQ h)
 exact⟨v,⟨z,I,J,E⟩,D,E.fz⟩
theorem nwa(l:List Ap)(hnd:(l.map Ap.cd).Nodup)(a:T)(cc:List T)(ha:iJ a l.length cc)(hc:iK N4 l cc)(hlen:l.length≤100)(F:List Zo)(m:List (List Nat×List T))(J:Pc F m∧m.map Prod.fst=F.map Zo.nm)(hzn: ∀u∈l,u.zn∈F.map Zo.nm)(X Y Z:T)(c:Ct)(a7 a8 a9 r iH iG:T)(vs:List T)(c2 c3:iy)(fr:Fr)(lh:iL iy)(sh:List iy)
  (K:an fr 8= .ptr .L 37 1 0) (N:an fr 9= .mp .L 38 1) (U5:an fr 52=a) (I:an fr 53= .i .i64 (l.length:Int)) (O:an fr 54= .i .i64 0) (U:a6 lh 2=c2) (V:a6 lh 3=c3) (W:a6 lh 35=⟨1,.map [] [] false⟩) (D:a6 lh 37=⟨1,.cells (nC X Y Z c a7 a8 a9 r iH iG vs) 0 true⟩) (MA:a6 lh 38=⟨1,.map (m.map fun p=>sK p.1) (m.map fun p=>T.agg p.2) false⟩):
  qG 232 qR fr lh sh (.ext 2)∧
  (a6 (nh pE 232 qR fr lh sh) 2=c2∧a6 (nh pE 232 qR fr lh sh) 3=c3∧a6 (nh pE 232 qR fr lh sh) 37=⟨1,.cells (nC X Y Z c a7 a8 a9 r iH iG vs) 0 true⟩∧(∃q,a6 (nh pE 232 qR fr lh sh) 35=⟨1,.map (q.map fun p=>sK p.1) (q.map fun p=>T.agg p.2) false⟩∧T3 F l q∧q.map Prod.fst=l.map Ap.cd)∧nB pE 232 qR fr lh sh=sh):=by
 refine jh (P:=fun jB je jk=>a6 je 2=c2∧a6 je 3=c3∧a6 je 37=⟨1,.cells (nC X Y Z c a7 a8 a9 r iH iG vs) 0 true⟩∧(∃q,a6 je 35=⟨1,.map (q.map fun p=>sK p.1) (q.map fun p=>T.agg p.2) false⟩∧T3 F l q∧q.map Prod.fst=l.map Ap.cd)∧jk=sh)
  (jx (fun k st=> ∃(fr:Fr) (E:iL iy) (q:List (List Nat×List T)),st=⟨fr,E,sh⟩∧q.map Prod.fst=(l.map Ap.cd).take k∧T3 F l q∧an fr 8= .ptr .L 37 1 0∧an fr 9= .mp .L 38 1∧an fr 52=a∧an fr 53= .i .i64 (l.length:Int)∧an fr 54= .i .i64 (k:Int)∧a6 E 2=c2∧a6 E 3=c3∧a6 E 37=⟨1,.cells (nC X Y Z c a7 a8 a9 r iH iG vs) 0 true⟩∧a6 E 38=⟨1,.map (m.map fun p=>sK p.1) (m.map fun p=>T.agg p.2) false⟩∧a6 E 35=⟨1,.map (q.map fun p=>sK p.1) (q.map fun p=>T.agg p.2) false⟩) _ l.length ?_ ?_ 0 _ (Nat.zero_le _) ⟨fr,lh,[],rfl,by simp,(fun p hp=>by cases hp),K,N,U5,I,O,U,V,D,MA,W⟩)
 ·rintro k _ hk ⟨fr,E,q,rfl,hq,H,K,N,U5,I,O,U,V,D,MA,W⟩
  left
  have iU:(k:Int)<l.length:=by omega
  have hw:=iX (k:=k) (by omega)
  obtain⟨rr,iW⟩:=MY ha hc k hk
  have N3:k<(l.map Ap.cd).length:=by simpa using hk
  have wh:ja q l[k].cd=none:=Gv (by rw[hq];have:=Sf hnd N3;rwa [List.getElem_map]at this)
  obtain⟨v,hzv,na,IP,hv3⟩:=agp J.1 J.2 l[k].zn (hzn _ (List.getElem_mem hk))
  have hqv: ∃u∈l,u.cd=l[k].cd∧ ∃z∈F,z.nm=u.zn∧DB z v:=⟨l[k],List.getElem_mem hk,rfl,hzv⟩
  have px:rL (.one .str) (.s l[k].cd) (.agg v) (q.map fun p=>sK p.1) (q.map fun p=>T.agg p.2)=_:=Ax (kT:=sK) (vT:=T.agg) G0 q l[k].cd v wh
  have abL:(l.map Ap.cd).take (k+1)=(l.map Ap.cd).take k++ [l[k].cd]:=by rw[List.take_succ_eq_append_getElem N3,List.getElem_map]
  rw[abL]
  generalize l[k]=z at*
  unfold nC jb at D ⊢
  simp only[List.cons_append,List.nil_append]at D ⊢
  simp only[qA,seval,jw,iN,qR,K,N,U5,I,O,W,D,MA,iU,iW,hw,jZ,na,IP,vq,CR,px]
  refine⟨_,rfl,_,_,q++ [(z.cd,v)],rfl, ?_, ?_, ?_, ?_, ?_, ?_, ?_, ?_, ?_, ?_, ?_, ?_⟩
  ·rw[List.map_append,hq];rfl
  ·intro p hp
   rcases List.mem_append.1 hp with hp|hp
   ·exact H p hp
   ·rw[List.mem_singleton.1 hp];exact hqv
  all_goals (simp only[qA,seval,K,N,U5,I,U,V,D,MA])
 ·rintro _ ⟨fr,E,q,rfl,hq,H,K,N,U5,I,O,U,V,D,MA,W⟩
  simp only[qA,seval,qR,I,O,Int.lt_irrefl]
  exact⟨_,_,oH,rfl,rfl,U,V,D,⟨q,W,H,by rw[hq,List.take_of_length_le (by simp)]⟩,rfl⟩
theorem abM{n:Nat}(h:n≤1000):(n+1)*56≤roomy:=by unfold roomy;omega
theorem anv:56≤roomy:=by unfold roomy;omega
def nP(r D E F H I J K:T):List T:= [.nilsl,r,D,E,.nilsl,F,H,I,J,K]
def oP(r D E F H I J:T)(K N O U V W X:RL):List (Nat×T×RL):= [(4,r,K),(4,D,N),(4,E,O),(3,F,U),(3,H,V),(3,I,W),(3,J,X)]
def AI(c:Ct)(j:Int)(k:Nat):RL:=((c.ru.take k).filter fun u=>u.sc==j).map fun u=>(u.nm,comp (nH c.cs) u.sc u.x)
def yX(c:Ct)(j:Int)(k:Nat):RL:=((c.co.take k).filter fun u=>u.sc==j).map fun u=>([],comp (nH c.cs) u.sc u.x)
def T2(c:Ct)(k:Nat):RL:=(c.cr.take k).map fun u=>([],comp (nH c.cs) 1 u)
theorem Gw(c:Ct)(j:Int){k:Nat}(r:k<c.ru.length):AI c j (k+1)=if c.ru[k].sc=j then AI c j k++ [(c.ru[k].nm,comp (nH c.cs) c.ru[k].sc c.ru[k].x)]else AI c j k:=by
 grind [AI,List.take_succ_eq_append_getElem]
theorem AV(c:Ct)(j:Int){k:Nat}(r:k<c.co.length):yX c j (k+1)=if c.co[k].sc=j then yX c j k++ [([],comp (nH c.cs) c.co[k].sc c.co[k].x)]else yX c j k:=by
 grind [yX,List.take_succ_eq_append_getElem]
theorem ZC(c:Ct){k:Nat}(r:k<c.cr.length):T2 c (k+1)=T2 c k++ [([],comp (nH c.cs) 1 c.cr[k])]:=by
 grind [T2,List.take_succ_eq_append_getElem]
theorem aEv:mr [] 0 (oP .nilsl .nilsl .nilsl .nilsl .nilsl .nilsl .nilsl [] [] [] [] [] [] []):=by
 have r: ∀p∈oP .nilsl .nilsl .nilsl .nilsl .nilsl .nilsl .nilsl [] [] [] [] [] [] [],p.2=(.nilsl,[]):=by
  simp_all[oP,List.mem_cons,List.not_mem_nil]
 exact⟨fun p D=> .inl (by rw[r p D];exact⟨rfl,rfl⟩),fun i j hi E _=> .inl (by rw[r _ (List.getElem_mem hi)];rfl)⟩
def Mx(l:Cs)(r:Int)(x:Ex):Prop:=(r=1∨r=2∨r=3)∧jD x=0∧ ∃k,x.ty (JC l) r=(k,0)
theorem nwr(c:Ct)(K a8:T)(c7 c8:List T)(i7:iJ K c.cs.length c7)(j7:lB c.cs c7)(i8:iJ a8 c.ru.length c8)(j8:iK U6 c.ru c8)(hlen:c.ru.length≤40)(sE: ∀u∈c.ru,Mx c.cs u.sc u.x)(zT aT fT a9 a10 iH iG nb:T)(c2 c3 C5:iy)(FJ:List (Nat×Int))(B0:pJ c.cs FJ)(fr:Fr)(lh:iL iy)(sh:List iy)(mJ:sh=mw K (jP c.cs c.cs.length) FJ [])
  (H:an fr 8= .ptr .L 37 1 0) (I:an fr 14= .ptr .S 2 1 0) (MB:an fr 73=a8) (Kv:an fr 74= .i .i64 (c.ru.length:Int)) (U7:an fr 75= .i .i64 0) (U:a6 lh 2=c2) (V:a6 lh 3=c3) (W:a6 lh 35=C5) (J:a6 lh 37=⟨1,.cells (nC zT aT fT c K a8 a9 a10 iH iG (nP .nilsl .nilsl .nilsl .nilsl .nilsl .nilsl .nilsl nb)) 0 true⟩):
  qG 232 nR fr lh sh (.ext 4)∧
  (a6 (nh pE 232 nR fr lh sh) 2=c2∧a6 (nh pE 232 nR fr lh sh) 3=c3∧a6 (nh pE 232 nR fr lh sh) 35=C5∧ ∃(R:List iy) (kn:List (Nat×Int)) (D E F:T),nB pE 232 nR fr lh sh=mw K (jP c.cs c.cs.length) kn R∧pJ c.cs kn∧mr R 40 (oP D E F .nilsl .nilsl .nilsl .nilsl (AI c 1 c.ru.length) (AI c 2 c.ru.length) (AI c 3 c.ru.length) [] [] [] [])∧a6 (nh pE 232 nR fr lh sh) 37=⟨1,.cells (nC zT aT fT c K a8 a9 a10 iH iG (nP D E F .nilsl .nilsl .nilsl .nilsl nb)) 0 true⟩):=by
 refine jh (P:=fun jB je jk=>a6 je 2=c2∧a6 je 3=c3∧a6 je 35=C5∧ ∃(R:List iy) (kn:List (Nat×Int)) (D E F:T),jk=mw K (jP c.cs c.cs.length) kn R∧pJ c.cs kn∧mr R 40 (oP D E F .nilsl .nilsl .nilsl .nilsl (AI c 1 c.ru.length) (AI c 2 c.ru.length) (AI c 3 c.ru.length) [] [] [] [])∧a6 je 37=⟨1,.cells (nC zT aT fT c K a8 a9 a10 iH iG (nP D E F .nilsl .nilsl .nilsl .nilsl nb)) 0 true⟩)
  (jx (fun k st=> ∃(fr:Fr) (kf:iL iy) (R:List iy) (kn:List (Nat×Int)) (D E F:T),st=⟨fr,kf,mw K (jP c.cs c.cs.length) kn R⟩∧pJ c.cs kn∧mr R k (oP D E F .nilsl .nilsl .nilsl .nilsl (AI c 1 k) (AI c 2 k) (AI c 3 k) [] [] [] [])∧an fr 8= .ptr .L 37 1 0∧an fr 14= .ptr .S 2 1 0∧an fr 73=a8∧an fr 74= .i .i64 (c.ru.length:Int)∧an fr 75= .i .i64 (k:Int)∧a6 kf 2=c2∧a6 kf 3=c3∧a6 kf 35=C5∧a6 kf 37=⟨1,.cells (nC zT aT fT c K a8 a9 a10 iH iG (nP D E F .nilsl .nilsl .nilsl .nilsl nb)) 0 true⟩) _ c.ru.length ?_ ?_ 0 _ (Nat.zero_le _) ⟨fr,lh,[],FJ,.nilsl,.nilsl,.nilsl,by rw[mJ],B0,aEv,H,I,MB,Kv,U7,U,V,W,J⟩)
 ·rintro k _ hk ⟨fr,kf,R,kn,D,E,F,rfl,pK,N,H,I,MB,Kv,U7,U,V,W,J⟩
  left
  have iU:(k:Int)<c.ru.length:=by omega
  have hw:=iX (k:=k) (by omega)
  obtain⟨b,cb,rr,iW,lE,hb⟩:=CZ i8 j8 k hk
  obtain⟨oi,hval,t,oh⟩:=sE c.ru[k] (List.getElem_mem hk)
  have FL:=(oX hval).1
  obtain⟨cf,ky,iI,BN,pL,_⟩:=Jn c.cs K R c.cs.length (Nat.le_refl _) (Jo c.cs K R c7 i7 j7) c.ru[k].sc (.inr oi) c.ru[k].x t kn _ pK hb FL (nZ hval) (by rw[B1];exact oh)
  have qn:=Dy (nH c.cs) c.ru[k].sc c.ru[k].x
  have X:=Gw c 1 hk
  have Y:=Gw c 2 hk
  have Z:=Gw c 3 hk
  generalize c.ru[k]=u at*
  generalize comp (nH c.cs) u.sc u.x=y at*
  obtain⟨r,fc,rfl,Ay,Zm⟩:=BN.cells
  have hrl:RlR (u.nm,y) [.s u.nm,.i .i64 y.op,.i .i64 y.num,r]:=⟨_,rfl,BN⟩
  have AH:A7 4 [(u.nm,y)] [.s u.nm,.i .i64 y.op,.i .i64 y.num,r]:=by
   have:=(A7.nil 4).app4 (u.nm,y) _ hrl (by show y.sz≤1000;omega)
   grind
  have Dz:=anv
  have aJg:k≤40:=by omega
  unfold nC jb nP at J ⊢
  simp only[List.cons_append,List.nil_append]at J ⊢
  rcases oi with oi|oi|oi <;> rw[oi]at iW iI
  ·have O:=N.1 (4,D,AI c 1 k) (by simp[oP])
   rw[if_pos oi]at X
   rw[if_neg (by rw[oi];decide)]at Y Z
   rcases O with⟨nw,Cz⟩|⟨i,g,n,cs,hv,hE,hi,hn,hB,hfz⟩
   ·simp only at nw Cz
    subst nw
    rw[Cz,List.nil_append]at X
    have yc:=(N.mono (Nat.le_succ k)).new (by omega) 0 (by simp[oP]) (sz:=4) rfl [.s u.nm,.i .i64 y.op,.i .i64 y.num,r] rfl _ AH
    simp only[qA,seval,lZ,repl,jw,iN,pd,kP,nR,H,I,MB,Kv,U7,J,iU,iW,hw,iI,sD,tp,lE.kept1,Ay.froz1,lC,mZ,ju,lI,jY,mF,uc,HV,Dz]
    refine⟨_,rfl,_,_,iR R R.length ⟨1,.cells [.s u.nm,.i .i64 y.op,.i .i64 y.num,r] 0 false⟩,ky,.isl .S (R.length+7) 1 0 1 4,E,F,rfl,pL,(by rw[X,Y,Z];exact yc), ?_, ?_, ?_, ?_, ?_, ?_, ?_, ?_, ?_⟩
    all_goals (simp only[qA,seval,H,I,MB,Kv,U,V,W])
   ·simp only at hv
    subst hv
    have qX:=N.app 0 (by simp[oP]) (sz:=4) rfl rfl hE hi hn hB [.s u.nm,.i .i64 y.op,.i .i64 y.num,r] rfl _ (hfz.app4 (u.nm,y) [.s u.nm,.i .i64 y.op,.i .i64 y.num,r] hrl (by show y.sz≤1000;omega)) (g+1)
    have yf:(n+1)*56≤roomy:=abM (by omega)
    simp only[qA,seval,lZ,repl,jw,iN,pd,kP,nR,H,I,MB,Kv,U7,J,iU,iW,hw,iI,sD,tp,lE.kept1,Ay.froz1,lC,mZ,ju,k8,jY,mG,kE,HU,uc,HV,hE,hn,yf]
    refine⟨_,rfl,_,_,iR R i ⟨g+1,.cells (cs++ [.s u.nm,.i .i64 y.op,.i .i64 y.num,r]) 0 false⟩,ky,.isl .S (i+7) (g+1) 0 (n+1) 4,E,F,rfl,pL,(by rw[X,Y,Z];exact qX), ?_, ?_, ?_, ?_, ?_, ?_, ?_, ?_, ?_⟩
    all_goals (simp only[qA,seval,H,I,MB,Kv,U,V,W])
  ·have O:=N.1 (4,E,AI c 2 k) (by simp[oP])
   rw[if_pos oi]at Y
   rw[if_neg (by rw[oi];decide)]at X Z
   rcases O with⟨nw,Cz⟩|⟨i,g,n,cs,hv,hE,hi,hn,hB,hfz⟩
   ·simp only at nw Cz
    subst nw
    rw[Cz,List.nil_append]at Y
    have yc:=(N.mono (Nat.le_succ k)).new (by omega) 1 (by simp[oP]) (sz:=4) rfl [.s u.nm,.i .i64 y.op,.i .i64 y.num,r] rfl _ AH
    simp only[qA,seval,lZ,repl,jw,iN,pd,kP,nR,H,I,MB,Kv,U7,J,iU,iW,hw,iI,sD,tp,lE.kept1,Ay.froz1,lC,mZ,ju,lI,jY,mF,uc,HV,Dz]
    refine⟨_,rfl,_,_,iR R R.length ⟨1,.cells [.s u.nm,.i .i64 y.op,.i .i64 y.num,r] 0 false⟩,ky,D,.isl .S (R.length+7) 1 0 1 4,F,rfl,pL,(by rw[X,Y,Z];exact yc), ?_, ?_, ?_, ?_, ?_, ?_, ?_, ?_, ?_⟩
    all_goals (simp only[qA,seval,H,I,MB,Kv,U,V,W])
   ·simp only at hv
    subst hv
    have qX:=N.app 1 (by simp[oP]) (sz:=4) rfl rfl hE hi hn hB [.s u.nm,.i .i64 y.op,.i .i64 y.num,r] rfl _ (hfz.app4 (u.nm,y) [.s u.nm,.i .i64 y.op,.i .i64 y.num,r] hrl (by show y.sz≤1000;omega)) (g+1)
    have yf:(n+1)*56≤roomy:=abM (by omega)
    simp only[qA,seval,lZ,repl,jw,iN,pd,kP,nR,H,I,MB,Kv,U7,J,iU,iW,hw,iI,sD,tp,lE.kept1,Ay.froz1,lC,mZ,ju,k8,jY,mG,kE,HU,uc,HV,hE,hn,yf]
    refine⟨_,rfl,_,_,iR R i ⟨g+1,.cells (cs++ [.s u.nm,.i .i64 y.op,.i .i64 y.num,r]) 0 false⟩,ky,D,.isl .S (i+7) (g+1) 0 (n+1) 4,F,rfl,pL,(by rw[X,Y,Z];exact qX), ?_, ?_, ?_, ?_, ?_, ?_, ?_, ?_, ?_⟩
    all_goals (simp only[qA,seval,H,I,MB,Kv,U,V,W])
  ·have O:=N.1 (4,F,AI c 3 k) (by simp[oP])
   rw[if_pos oi]at Z
   rw[if_neg (by rw[oi];decide)]at X Y
   rcases O with⟨nw,Cz⟩|⟨i,g,n,cs,hv,hE,hi,hn,hB,hfz⟩
   ·simp only at nw Cz
    subst nw
    rw[Cz,List.nil_append]at Z
    have yc:=(N.mono (Nat.le_succ k)).new (by omega) 2 (by simp[oP]) (sz:=4) rfl [.s u.nm,.i .i64 y.op,.i .i64 y.num,r] rfl _ AH
    simp only[qA,seval,lZ,repl,jw,iN,pd,kP,nR,H,I,MB,Kv,U7,J,iU,iW,hw,iI,sD,tp,lE.kept1,Ay.froz1,lC,mZ,ju,lI,jY,mF,uc,HV,Dz]
    refine⟨_,rfl,_,_,iR R R.length ⟨1,.cells [.s u.nm,.i .i64 y.op,.i .i64 y.num,r] 0 false⟩,ky,D,E,.isl .S (R.length+7) 1 0 1 4,rfl,pL,(by rw[X,Y,Z];exact yc), ?_, ?_, ?_, ?_, ?_, ?_, ?_, ?_, ?_⟩
    all_goals (simp only[qA,seval,H,I,MB,Kv,U,V,W])
   ·simp only at hv
    subst hv
    have qX:=N.app 2 (by simp[oP]) (sz:=4) rfl rfl hE hi hn hB [.s u.nm,.i .i64 y.op,.i .i64 y.num,r] rfl _ (hfz.app4 (u.nm,y) [.s u.nm,.i .i64 y.op,.i .i64 y.num,r] hrl (by show y.sz≤1000;omega)) (g+1)
    have yf:(n+1)*56≤roomy:=abM (by omega)
    simp only[qA,seval,lZ,repl,jw,iN,pd,kP,nR,H,I,MB,Kv,U7,J,iU,iW,hw,iI,sD,tp,lE.kept1,Ay.froz1,lC,mZ,ju,k8,jY,mG,kE,HU,uc,HV,hE,hn,yf]
    refine⟨_,rfl,_,_,iR R i ⟨g+1,.cells (cs++ [.s u.nm,.i .i64 y.op,.i .i64 y.num,r]) 0 false⟩,ky,D,E,.isl .S (i+7) (g+1) 0 (n+1) 4,rfl,pL,(by rw[X,Y,Z];exact qX), ?_, ?_, ?_, ?_, ?_, ?_, ?_, ?_, ?_⟩
    all_goals (simp only[qA,seval,H,I,MB,Kv,U,V,W])
 ·rintro _ ⟨fr,kf,R,kn,D,E,F,rfl,pK,N,H,I,MB,Kv,U7,U,V,W,J⟩
  simp only[qA,seval,nR,Kv,U7,Int.lt_irrefl]
  exact⟨_,_,oH,rfl,rfl,U,V,W,R,kn,D,E,F,rfl,pK,N.mono (by omega),J⟩
theorem Jp:40≤roomy:=by unfold roomy;omega
theorem DA{n:Nat}(h:n≤1000):(n+1)*40≤roomy:=by unfold roomy;omega
theorem vB{a b c x y z:T}:splice [a,b,c] 0 [x,y,z]= [x,y,z]:=rfl
theorem n4{a b c x y z:T}: ∀(cs:List T),splice (cs++ [a,b,c]) cs.length [x,y,z]=cs++ [x,y,z]
 | []=>rfl
 |u::cs=>by rw[List.cons_append,List.cons_append,List.length_cons,splice,n4 cs]
theorem vC{cs:List T}{a b c:T}:(cs++ [a,b,c]).length=cs.length+3:=by simp
theorem axz(c:Ct)(r U V D W X Y Z fT nb r1 r2 r3 c2 c3:T)(m:List (List Nat×Nat))(kn ky:List (Nat×Int))(R:List iy)(x:Ex)(b:T)(y:Fm)(F:T)(zj:Nat)(fr:Fr)(lh:iL iy)
  (Vl:froz1 b=true) (DW:kept1 b=true) (E:froz1 F=true) (Fh:kept1 F=true)
  (iI:be pE 33 [.ptr .S 2 1 0,.i .i64 1,.agg [.i .i64 x.op,.i .i64 x.num,.s x.name,b]] (mw r m kn R)=some (.agg [.i .i64 y.op,.i .i64 y.num,F],mw r m ky R))
  (h8:an fr 8= .ptr .L 37 1 0) (jG:an fr 14= .ptr .S 2 1 0) (mK:an fr 18= .ptr .L 18 zj 0) (DX:a6 lh 18=⟨zj,.cells [.i .i64 1,.i .i64 x.op,.i .i64 x.num,.s x.name,b] 0 true⟩) (H:a6 lh 37=⟨1,.cells (nC Y Z fT c r U V D W X (nP r1 r2 r3 (.nilsl) c2 c3 .nilsl nb)) 0 true⟩) (I:iA) (J:I=tc jN∨I=td jN):
  ∃f1 K,DC pE 232 I ⟨fr,lh,mw r m kn R⟩=some (.nrm,⟨f1,K,mw r m ky (iR R R.length ⟨1,.cells [.i .i64 y.op,.i .i64 y.num,F] 0 false⟩)⟩)∧(∀k,(jU jN).contains k=false→k≠37→a6 K k=a6 lh k)∧a6 K 37=⟨1,.cells (nC Y Z fT c r U V D W X (nP r1 r2 r3 (.isl .S (R.length+7) 1 0 1 3) c2 c3 .nilsl nb)) 0 true⟩:=by
 have Dz:=Jp
 unfold nC jb nP at H ⊢
 simp only[List.cons_append,List.nil_append]at H ⊢
 rcases J with rfl|rfl
 ·
  simp only[qA,seval,lZ,repl,jw,iN,pd,jA,kP,jN,tc,h8,jG,mK,DX,H,iI,sD,tp,DW,E,lC,mZ,ju,lI,jY,mF,HU,uc,HV,Dz,ko,kD,vB,Nat.lt_succ_self]
  refine⟨_,_,rfl, ?_, ?_⟩
  ·intro k N Gx
   have O:k≠111:=by rintro rfl;exact absurd N (by decide)
   repeat (first|rw[jF _ _ Gx]|rw[jF _ _ O])
  ·simp only[qA,seval]
 ·
  simp only[qA,seval,lZ,repl,jw,iN,pd,jA,kP,jN,td,h8,jG,mK,DX,H,iI,sD,tp,DW,E,lC,mZ,ju,lI,jY,mF,HU,uc,HV,Dz,ko,kD,vB,Nat.lt_succ_self]
  refine⟨_,_,rfl, ?_, ?_⟩
  ·intro k N Gx
   have O:k≠111:=by rintro rfl;exact absurd N (by decide)
   repeat (first|rw[jF _ _ Gx]|rw[jF _ _ O])
  ·simp only[qA,seval]
theorem axA(c:Ct)(r V W D X Y Z aT fT nb r1 r2 r3 c2 c3:T)(m:List (List Nat×Nat))(kn ky:List (Nat×Int))(R:List iy)(x:Ex)(b:T)(y:Fm)(F:T)(zj:Nat)(i g n:Nat)(cs:List T)(hE:iM R i=⟨g,.cells cs 0 false⟩)(hn:n*3=cs.length)(I:n≤1000)(fr:Fr)(lh:iL iy)
  (Vl:froz1 b=true) (DW:kept1 b=true) (E:froz1 F=true) (Fh:kept1 F=true)
  (iI:be pE 33 [.ptr .S 2 1 0,.i .i64 1,.agg [.i .i64 x.op,.i .i64 x.num,.s x.name,b]] (mw r m kn R)=some (.agg [.i .i64 y.op,.i .i64 y.num,F],mw r m ky R))
  (h8:an fr 8= .ptr .L 37 1 0) (jG:an fr 14= .ptr .S 2 1 0) (mK:an fr 18= .ptr .L 18 zj 0) (DX:a6 lh 18=⟨zj,.cells [.i .i64 1,.i .i64 x.op,.i .i64 x.num,.s x.name,b] 0 true⟩) (H:a6 lh 37=⟨1,.cells (nC Z aT fT c r V W D X Y (nP r1 r2 r3 (.isl .S (i+7) g 0 n 3) c2 c3 .nilsl nb)) 0 true⟩) (J:iA) (K:J=tc jN∨J=td jN):
  ∃f1 N,DC pE 232 J ⟨fr,lh,mw r m kn R⟩=some (.nrm,⟨f1,N,mw r m ky (iR R i ⟨g+1,.cells (cs++ [.i .i64 y.op,.i .i64 y.num,F]) 0 false⟩)⟩)∧(∀k,(jU jN).contains k=false→k≠37→a6 N k=a6 lh k)∧a6 N 37=⟨1,.cells (nC Z aT fT c r V W D X Y (nP r1 r2 r3 (.isl .S (i+7) (g+1) 0 (n+1) 3) c2 c3 .nilsl nb)) 0 true⟩:=by
 have yf:(n+1)*40≤roomy:=DA I
 unfold nC jb nP at H ⊢
 simp only[List.cons_append,List.nil_append]at H ⊢
 rcases K with rfl|rfl
 ·
  simp only[qA,seval,lZ,repl,jw,iN,pd,jA,kP,jN,tc,h8,jG,mK,DX,H,iI,sD,tp,DW,E,lC,mZ,ju,k8,jY,mG,kE,HU,uc,HV,ko,kD,n4,vC,Nat.lt_succ_self,hE,hn,yf]
  refine⟨_,_,rfl, ?_, ?_⟩
  ·intro k O Gx
   have U:k≠111:=by rintro rfl;exact absurd O (by decide)
   repeat (first|rw[jF _ _ Gx]|rw[jF _ _ U])
  ·simp only[qA,seval]
 ·
  simp only[qA,seval,lZ,repl,jw,iN,pd,jA,kP,jN,td,h8,jG,mK,DX,H,iI,sD,tp,DW,E,lC,mZ,ju,k8,jY,mG,kE,HU,uc,HV,ko,kD,n4,vC,Nat.lt_succ_self,hE,hn,yf]
  refine⟨_,_,rfl, ?_, ?_⟩
  ·intro k O Gx
   have U:k≠111:=by rintro rfl;exact absurd O (by decide)
   repeat (first|rw[jF _ _ Gx]|rw[jF _ _ U])
  ·simp only[qA,seval]
theorem axB(c:Ct)(r U V D W X Y Z fT nb r1 r2 r3 c1 c3:T)(m:List (List Nat×Nat))(kn ky:List (Nat×Int))(R:List iy)(x:Ex)(b:T)(y:Fm)(F:T)(zj:Nat)(fr:Fr)(lh:iL iy)
  (Vl:froz1 b=true) (DW:kept1 b=true) (E:froz1 F=true) (Fh:kept1 F=true)
  (iI:be pE 33 [.ptr .S 2 1 0,.i .i64 2,.agg [.i .i64 x.op,.i .i64 x.num,.s x.name,b]] (mw r m kn R)=some (.agg [.i .i64 y.op,.i .i64 y.num,F],mw r m ky R))
  (h8:an fr 8= .ptr .L 37 1 0) (jG:an fr 14= .ptr .S 2 1 0) (mK:an fr 18= .ptr .L 18 zj 0) (DX:a6 lh 18=⟨zj,.cells [.i .i64 2,.i .i64 x.op,.i .i64 x.num,.s x.name,b] 0 true⟩) (H:a6 lh 37=⟨1,.cells (nC Y Z fT c r U V D W X (nP r1 r2 r3 c1 (.nilsl) c3 .nilsl nb)) 0 true⟩) (I:iA) (J:I=tc jN∨I=td jN):
  ∃f1 K,DC pE 232 I ⟨fr,lh,mw r m kn R⟩=some (.nrm,⟨f1,K,mw r m ky (iR R R.length ⟨1,.cells [.i .i64 y.op,.i .i64 y.num,F] 0 false⟩)⟩)∧(∀k,(jU jN).contains k=false→k≠37→a6 K k=a6 lh k)∧a6 K 37=⟨1,.cells (nC Y Z fT c r U V D W X (nP r1 r2 r3 c1 (.isl .S (R.length+7) 1 0 1 3) c3 .nilsl nb)) 0 true⟩:=by
 have Dz:=Jp
 unfold nC jb nP at H ⊢
 simp only[List.cons_append,List.nil_append]at H ⊢
 rcases J with rfl|rfl
 ·
  simp only[qA,seval,lZ,repl,jw,iN,pd,jA,kP,jN,tc,h8,jG,mK,DX,H,iI,sD,tp,DW,E,lC,mZ,ju,lI,jY,mF,HU,uc,HV,Dz,ko,kD,vB,Nat.lt_succ_self]
  refine⟨_,_,rfl, ?_, ?_⟩
  ·intro k N Gx
   have O:k≠111:=by rintro rfl;exact absurd N (by decide)
   repeat (first|rw[jF _ _ Gx]|rw[jF _ _ O])
  ·simp only[qA,seval]
 ·
  simp only[qA,seval,lZ,repl,jw,iN,pd,jA,kP,jN,td,h8,jG,mK,DX,H,iI,sD,tp,DW,E,lC,mZ,ju,lI,jY,mF,HU,uc,HV,Dz,ko,kD,vB,Nat.lt_succ_self]
  refine⟨_,_,rfl, ?_, ?_⟩
  ·intro k N Gx
   have O:k≠111:=by rintro rfl;exact absurd N (by decide)
   repeat (first|rw[jF _ _ Gx]|rw[jF _ _ O])
  ·simp only[qA,seval]
theorem axC(c:Ct)(r V W D X Y Z aT fT nb r1 r2 r3 c1 c3:T)(m:List (List Nat×Nat))(kn ky:List (Nat×Int))(R:List iy)(x:Ex)(b:T)(y:Fm)(F:T)(zj:Nat)(i g n:Nat)(cs:List T)(hE:iM R i=⟨g,.cells cs 0 false⟩)(hn:n*3=cs.length)(I:n≤1000)(fr:Fr)(lh:iL iy)
  (Vl:froz1 b=true) (DW:kept1 b=true) (E:froz1 F=true) (Fh:kept1 F=true)
  (iI:be pE 33 [.ptr .S 2 1 0,.i .i64 2,.agg [.i .i64 x.op,.i .i64 x.num,.s x.name,b]] (mw r m kn R)=some (.agg [.i .i64 y.op,.i .i64 y.num,F],mw r m ky R))
  (h8:an fr 8= .ptr .L 37 1 0) (jG:an fr 14= .ptr .S 2 1 0) (mK:an fr 18= .ptr .L 18 zj 0) (DX:a6 lh 18=⟨zj,.cells [.i .i64 2,.i .i64 x.op,.i .i64 x.num,.s x.name,b] 0 true⟩) (H:a6 lh 37=⟨1,.cells (nC Z aT fT c r V W D X Y (nP r1 r2 r3 c1 (.isl .S (i+7) g 0 n 3) c3 .nilsl nb)) 0 true⟩) (J:iA) (K:J=tc jN∨J=td jN):
  ∃f1 N,DC pE 232 J ⟨fr,lh,mw r m kn R⟩=some (.nrm,⟨f1,N,mw r m ky (iR R i ⟨g+1,.cells (cs++ [.i .i64 y.op,.i .i64 y.num,F]) 0 false⟩)⟩)∧(∀k,(jU jN).contains k=false→k≠37→a6 N k=a6 lh k)∧a6 N 37=⟨1,.cells (nC Z aT fT c r V W D X Y (nP r1 r2 r3 c1 (.isl .S (i+7) (g+1) 0 (n+1) 3) c3 .nilsl nb)) 0 true⟩:=by
 have yf:(n+1)*40≤roomy:=DA I
 unfold nC jb nP at H ⊢
 simp only[List.cons_append,List.nil_append]at H ⊢
 rcases K with rfl|rfl
 ·
  simp only[qA,seval,lZ,repl,jw,iN,pd,jA,kP,jN,tc,h8,jG,mK,DX,H,iI,sD,tp,DW,E,lC,mZ,ju,k8,jY,mG,kE,HU,uc,HV,ko,kD,n4,vC,Nat.lt_succ_self,hE,hn,yf]
  refine⟨_,_,rfl, ?_, ?_⟩
  ·intro k O Gx
   have U:k≠111:=by rintro rfl;exact absurd O (by decide)
   repeat (first|rw[jF _ _ Gx]|rw[jF _ _ U])
  ·simp only[qA,seval]
 ·
  simp only[qA,seval,lZ,repl,jw,iN,pd,jA,kP,jN,td,h8,jG,mK,DX,H,iI,sD,tp,DW,E,lC,mZ,ju,k8,jY,mG,kE,HU,uc,HV,ko,kD,n4,vC,Nat.lt_succ_self,hE,hn,yf]
  refine⟨_,_,rfl, ?_, ?_⟩
  ·intro k O Gx
   have U:k≠111:=by rintro rfl;exact absurd O (by decide)
   repeat (first|rw[jF _ _ Gx]|rw[jF _ _ U])
  ·simp only[qA,seval]
theorem axD(c:Ct)(r U V D W X Y Z fT nb r1 r2 r3 c1 c2:T)(m:List (List Nat×Nat))(kn ky:List (Nat×Int))(R:List iy)(x:Ex)(b:T)(y:Fm)(F:T)(zj:Nat)(fr:Fr)(lh:iL iy)
  (Vl:froz1 b=true) (DW:kept1 b=true) (E:froz1 F=true) (Fh:kept1 F=true)
  (iI:be pE 33 [.ptr .S 2 1 0,.i .i64 3,.agg [.i .i64 x.op,.i .i64 x.num,.s x.name,b]] (mw r m kn R)=some (.agg [.i .i64 y.op,.i .i64 y.num,F],mw r m ky R))
  (h8:an fr 8= .ptr .L 37 1 0) (jG:an fr 14= .ptr .S 2 1 0) (mK:an fr 18= .ptr .L 18 zj 0) (DX:a6 lh 18=⟨zj,.cells [.i .i64 3,.i .i64 x.op,.i .i64 x.num,.s x.name,b] 0 true⟩) (H:a6 lh 37=⟨1,.cells (nC Y Z fT c r U V D W X (nP r1 r2 r3 c1 c2 (.nilsl) .nilsl nb)) 0 true⟩) (I:iA) (J:I=tc jN∨I=td jN):
  ∃f1 K,DC pE 232 I ⟨fr,lh,mw r m kn R⟩=some (.nrm,⟨f1,K,mw r m ky (iR R R.length ⟨1,.cells [.i .i64 y.op,.i .i64 y.num,F] 0 false⟩)⟩)∧(∀k,(jU jN).contains k=false→k≠37→a6 K k=a6 lh k)∧a6 K 37=⟨1,.cells (nC Y Z fT c r U V D W X (nP r1 r2 r3 c1 c2 (.isl .S (R.length+7) 1 0 1 3) .nilsl nb)) 0 true⟩:=by
 have Dz:=Jp
 unfold nC jb nP at H ⊢
 simp only[List.cons_append,List.nil_append]at H ⊢
 rcases J with rfl|rfl
 ·
  simp only[qA,seval,lZ,repl,jw,iN,pd,jA,kP,jN,tc,h8,jG,mK,DX,H,iI,sD,tp,DW,E,lC,mZ,ju,lI,jY,mF,HU,uc,HV,Dz,ko,kD,vB,Nat.lt_succ_self]
  refine⟨_,_,rfl, ?_, ?_⟩
  ·intro k N Gx
   have O:k≠111:=by rintro rfl;exact absurd N (by decide)
   repeat (first|rw[jF _ _ Gx]|rw[jF _ _ O])
  ·simp only[qA,seval]
 ·
  simp only[qA,seval,lZ,repl,jw,iN,pd,jA,kP,jN,td,h8,jG,mK,DX,H,iI,sD,tp,DW,E,lC,mZ,ju,lI,jY,mF,HU,uc,HV,Dz,ko,kD,vB,Nat.lt_succ_self]
  refine⟨_,_,rfl, ?_, ?_⟩
  ·intro k N Gx
   have O:k≠111:=by rintro rfl;exact absurd N (by decide)
   repeat (first|rw[jF _ _ Gx]|rw[jF _ _ O])
  ·simp only[qA,seval]
theorem axE(c:Ct)(r V W D X Y Z aT fT nb r1 r2 r3 c1 c2:T)(m:List (List Nat×Nat))(kn ky:List (Nat×Int))(R:List iy)(x:Ex)(b:T)(y:Fm)(F:T)(zj:Nat)(i g n:Nat)(cs:List T)(hE:iM R i=⟨g,.cells cs 0 false⟩)(hn:n*3=cs.length)(I:n≤1000)(fr:Fr)(lh:iL iy)
  (Vl:froz1 b=true) (DW:kept1 b=true) (E:froz1 F=true) (Fh:kept1 F=true)
  (iI:be pE 33 [.ptr .S 2 1 0,.i .i64 3,.agg [.i .i64 x.op,.i .i64 x.num,.s x.name,b]] (mw r m kn R)=some (.agg [.i .i64 y.op,.i .i64 y.num,F],mw r m ky R))
  (h8:an fr 8= .ptr .L 37 1 0) (jG:an fr 14= .ptr .S 2 1 0) (mK:an fr 18= .ptr .L 18 zj 0) (DX:a6 lh 18=⟨zj,.cells [.i .i64 3,.i .i64 x.op,.i .i64 x.num,.s x.name,b] 0 true⟩) (H:a6 lh 37=⟨1,.cells (nC Z aT fT c r V W D X Y (nP r1 r2 r3 c1 c2 (.isl .S (i+7) g 0 n 3) .nilsl nb)) 0 true⟩) (J:iA) (K:J=tc jN∨J=td jN):
  ∃f1 N,DC pE 232 J ⟨fr,lh,mw r m kn R⟩=some (.nrm,⟨f1,N,mw r m ky (iR R i ⟨g+1,.cells (cs++ [.i .i64 y.op,.i .i64 y.num,F]) 0 false⟩)⟩)∧(∀k,(jU jN).contains k=false→k≠37→a6 N k=a6 lh k)∧a6 N 37=⟨1,.cells (nC Z aT fT c r V W D X Y (nP r1 r2 r3 c1 c2 (.isl .S (i+7) (g+1) 0 (n+1) 3) .nilsl nb)) 0 true⟩:=by
 have yf:(n+1)*40≤roomy:=DA I
 unfold nC jb nP at H ⊢
 simp only[List.cons_append,List.nil_append]at H ⊢
 rcases K with rfl|rfl
 ·
  simp only[qA,seval,lZ,repl,jw,iN,pd,jA,kP,jN,tc,h8,jG,mK,DX,H,iI,sD,tp,DW,E,lC,mZ,ju,k8,jY,mG,kE,HU,uc,HV,ko,kD,n4,vC,Nat.lt_succ_self,hE,hn,yf]
  refine⟨_,_,rfl, ?_, ?_⟩
  ·intro k O Gx
   have U:k≠111:=by rintro rfl;exact absurd O (by decide)
   repeat (first|rw[jF _ _ Gx]|rw[jF _ _ U])
  ·simp only[qA,seval]
 ·
  simp only[qA,seval,lZ,repl,jw,iN,pd,jA,kP,jN,td,h8,jG,mK,DX,H,iI,sD,tp,DW,E,lC,mZ,ju,k8,jY,mG,kE,HU,uc,HV,ko,kD,n4,vC,Nat.lt_succ_self,hE,hn,yf]
  refine⟨_,_,rfl, ?_, ?_⟩
  ·intro k O Gx
   have U:k≠111:=by rintro rfl;exact absurd O (by decide)
   repeat (first|rw[jF _ _ Gx]|rw[jF _ _ U])
  ·simp only[qA,seval]
theorem uC{fr:Fr}{lh:iL iy}{sh SH:List iy}{X:iy}(A: ∀F,(F=tc jN∨F=td jN)→ ∃H D,DC pE 232 F ⟨fr,lh,sh⟩=some (.nrm,⟨H,D,SH⟩)∧(∀k,(jU jN).contains k=false→k≠37→a6 D k=a6 lh k)∧a6 D 37=X):
  ∃E r,DC pE 232 jN ⟨fr,lh,sh⟩=some (.nrm,⟨E,r,SH⟩)∧(∀k,(jU jN).contains k=false→an E k=an fr k)∧(∀k,(jU jN).contains k=false→k≠37→a6 r k=a6 lh k)∧a6 r 37=X:=by
 obtain⟨H,D,U,I,J⟩:=A _ (.inl rfl)
 obtain⟨f2,l2,V,W,Y⟩:=A _ (.inr rfl)
 obtain⟨E,r,Z,q2,K⟩:=aeS (by rfl) U V (fun k N=>by
  by_cases h:k=37
  ·subst h;rw[J,Y]
  ·rw[I k N h,W k N h])
 exact⟨E,r,Z,q2,fun j O h=>(K j O).trans (I j O h),(K 37 (by decide)).trans J⟩
theorem aEw{fr:Fr}{lh:iL iy}{D:Option (Out×St)}(c:Ct)(J a8 a9 r iH iG zT aT fT nb Y Z r3 K N O:T)(m:List (List Nat×Nat))(kn ky:List (Nat×Int))(R:List iy)(x:Ex)(b:T)(y:Fm)(E:T)(zj:Nat)(sc:Int)(k:Nat)(oi:sc=1∨sc=2∨sc=3)(hk:k≤900)(l1 l2 l3 k1 k2 k3:RL)(rA:mr R k (oP Y Z r3 K N O .nilsl l1 l2 l3 k1 k2 k3 []))(hy:pA y [.i .i64 y.op,.i .i64 y.num,E])(qn:y.sz≤1000)
  (Vl:froz1 b=true) (DW:kept1 b=true) (I:froz1 E=true) (Fh:kept1 E=true)
  (iI:be pE 33 [.ptr .S 2 1 0,.i .i64 sc,.agg [.i .i64 x.op,.i .i64 x.num,.s x.name,b]] (mw J m kn R)=some (.agg [.i .i64 y.op,.i .i64 y.num,E],mw J m ky R))
  (hD:DC pE 232 jN ⟨fr,lh,mw J m kn R⟩=D)
  (h8:an fr 8= .ptr .L 37 1 0) (jG:an fr 14= .ptr .S 2 1 0) (mK:an fr 18= .ptr .L 18 zj 0) (DX:a6 lh 18=⟨zj,.cells [.i .i64 sc,.i .i64 x.op,.i .i64 x.num,.s x.name,b] 0 true⟩) (kC:a6 lh 37=⟨1,.cells (nC zT aT fT c J a8 a9 r iH iG (nP Y Z r3 K N O .nilsl nb)) 0 true⟩):
  ∃H F R' c1' c2' c3',D=some (.nrm,⟨H,F,mw J m ky R'⟩)∧mr R' (k+1) (oP Y Z r3 c1' c2' c3' .nilsl l1 l2 l3 (if sc=1 then k1++ [([],y)]else k1) (if sc=2 then k2++ [([],y)]else k2) (if sc=3 then k3++ [([],y)]else k3) [])∧(∀k,(jU jN).contains k=false→an H k=an fr k)∧(∀k,(jU jN).contains k=false→k≠37→a6 F k=a6 lh k)∧a6 F 37=⟨1,.cells (nC zT aT fT c J a8 a9 r iH iG (nP Y Z r3 c1' c2' c3' .nilsl nb)) 0 true⟩:=by
 have AH:A7 3 [([],y)] [.i .i64 y.op,.i .i64 y.num,E]:=by
  have:=(A7.nil 3).app3 ([],y) _ hy qn
  simpa using this
 rcases oi with rfl|rfl|rfl
 ·rcases rA.1 (3,K,k1) (by simp[oP])with⟨nw,Cz⟩|⟨i,g,n,cs,hv,hE,hi,hn,hB,abN⟩
  ·simp only at nw Cz
   subst nw Cz
   have yc:=(rA.mono (Nat.le_succ k)).new (by omega) 3 (by simp[oP]) (sz:=3) rfl [.i .i64 y.op,.i .i64 y.num,E] rfl _ AH
   obtain⟨H,F,U,V,W,X⟩:=uC (axz c J a8 a9 r iH iG zT aT fT nb Y Z r3 N O m kn ky R x b y E zj fr lh Vl DW I Fh iI h8 jG mK DX kC)
   exact⟨H,F,_,_,N,O,hD.symm.trans U,yc,V,W,X⟩
  ·simp only at hv
   subst hv
   have qX:=rA.app 3 (by simp[oP]) (sz:=3) rfl rfl hE hi hn hB [.i .i64 y.op,.i .i64 y.num,E] rfl _ (abN.app3 ([],y) _ hy qn) (g+1)
   obtain⟨H,F,U,V,W,X⟩:=uC (axA c J a8 a9 r iH iG zT aT fT nb Y Z r3 N O m kn ky R x b y E zj i g n cs hE hn (by omega) fr lh Vl DW I Fh iI h8 jG mK DX kC)
   exact⟨H,F,_,_,N,O,hD.symm.trans U,qX,V,W,X⟩
 ·rcases rA.1 (3,N,k2) (by simp[oP])with⟨nw,Cz⟩|⟨i,g,n,cs,hv,hE,hi,hn,hB,abN⟩
  ·simp only at nw Cz
   subst nw Cz
   have yc:=(rA.mono (Nat.le_succ k)).new (by omega) 4 (by simp[oP]) (sz:=3) rfl [.i .i64 y.op,.i .i64 y.num,E] rfl _ AH
   obtain⟨H,F,U,V,W,X⟩:=uC (axB c J a8 a9 r iH iG zT aT fT nb Y Z r3 K O m kn ky R x b y E zj fr lh Vl DW I Fh iI h8 jG mK DX kC)
   exact⟨H,F,_,K,_,O,hD.symm.trans U,yc,V,W,X⟩
  ·simp only at hv
   subst hv
   have qX:=rA.app 4 (by simp[oP]) (sz:=3) rfl rfl hE hi hn hB [.i .i64 y.op,.i .i64 y.num,E] rfl _ (abN.app3 ([],y) _ hy qn) (g+1)
   obtain⟨H,F,U,V,W,X⟩:=uC (axC c J a8 a9 r iH iG zT aT fT nb Y Z r3 K O m kn ky R x b y E zj i g n cs hE hn (by omega) fr lh Vl DW I Fh iI h8 jG mK DX kC)
   exact⟨H,F,_,K,_,O,hD.symm.trans U,qX,V,W,X⟩
 ·rcases rA.1 (3,O,k3) (by simp[oP])with⟨nw,Cz⟩|⟨i,g,n,cs,hv,hE,hi,hn,hB,abN⟩
  ·simp only at nw Cz
   subst nw Cz
   have yc:=(rA.mono (Nat.le_succ k)).new (by omega) 5 (by simp[oP]) (sz:=3) rfl [.i .i64 y.op,.i .i64 y.num,E] rfl _ AH
   obtain⟨H,F,U,V,W,X⟩:=uC (axD c J a8 a9 r iH iG zT aT fT nb Y Z r3 K N m kn ky R x b y E zj fr lh Vl DW I Fh iI h8 jG mK DX kC)
   exact⟨H,F,_,K,N,_,hD.symm.trans U,yc,V,W,X⟩
  ·simp only at hv
   subst hv
   have qX:=rA.app 5 (by simp[oP]) (sz:=3) rfl rfl hE hi hn hB [.i .i64 y.op,.i .i64 y.num,E] rfl _ (abN.app3 ([],y) _ hy qn) (g+1)
   obtain⟨H,F,U,V,W,X⟩:=uC (axE c J a8 a9 r iH iG zT aT fT nb Y Z r3 K N m kn ky R x b y E zj i g n cs hE hn (by omega) fr lh Vl DW I Fh iI h8 jG mK DX kC)
   exact⟨H,F,_,K,N,_,hD.symm.trans U,qX,V,W,X⟩
theorem nwc(c:Ct)(r J:T)(c7 c9:List T)(i7:iJ r c.cs.length c7)(j7:lB c.cs c7)(i9:iJ J c.co.length c9)(j9:iK CoR c.co c9)(hlen:c.co.length≤40)(sE: ∀u∈c.co,Mx c.cs u.sc u.x)(Y Z fT a8 I iH iG nb K N O:T)(k2 k3 wy:iy)(FJ:List (Nat×Int))(B0:pJ c.cs FJ)(R0:List iy)(l1 l2 l3:RL)(Ku:mr R0 40 (oP K N O .nilsl .nilsl .nilsl .nilsl l1 l2 l3 [] [] [] []))(fr:Fr)(lh:iL iy)(sh:List iy)(mJ:sh=mw r (jP c.cs c.cs.length) FJ R0)
  (h8:an fr 8= .ptr .L 37 1 0) (jG:an fr 14= .ptr .S 2 1 0) (Pd:an fr 105=J) (MC:an fr 106= .i .i64 (c.co.length:Int)) (MD:an fr 107= .i .i64 0) (o2:a6 lh 2=k2) (o3:a6 lh 3=k3) (nG:a6 lh 35=wy) (kC:a6 lh 37=⟨1,.cells (nC Y Z fT c r a8 J I iH iG (nP K N O .nilsl .nilsl .nilsl .nilsl nb)) 0 true⟩):
  qG 232 qQ fr lh sh (.ext 6)∧
  (a6 (nh pE 232 qQ fr lh sh) 2=k2∧a6 (nh pE 232 qQ fr lh sh) 3=k3∧a6 (nh pE 232 qQ fr lh sh) 35=wy∧ ∃(R:List iy) (kn:List (Nat×Int)) (E F H:T),nB pE 232 qQ fr lh sh=mw r (jP c.cs c.cs.length) kn R∧pJ c.cs kn∧mr R 80 (oP K N O E F H .nilsl l1 l2 l3 (yX c 1 c.co.length) (yX c 2 c.co.length) (yX c 3 c.co.length) [])∧a6 (nh pE 232 qQ fr lh sh) 37=⟨1,.cells (nC Y Z fT c r a8 J I iH iG (nP K N O E F H .nilsl nb)) 0 true⟩):=by
 refine jh (P:=fun X U jk=>a6 U 2=k2∧a6 U 3=k3∧a6 U 35=wy∧ ∃(R:List iy) (kn:List (Nat×Int)) (E F H:T),jk=mw r (jP c.cs c.cs.length) kn R∧pJ c.cs kn∧mr R 80 (oP K N O E F H .nilsl l1 l2 l3 (yX c 1 c.co.length) (yX c 2 c.co.length) (yX c 3 c.co.length) [])∧a6 U 37=⟨1,.cells (nC Y Z fT c r a8 J I iH iG (nP K N O E F H .nilsl nb)) 0 true⟩)
  (jx (fun k st=> ∃(fr:Fr) (V:iL iy) (R:List iy) (kn:List (Nat×Int)) (E F H:T),st=⟨fr,V,mw r (jP c.cs c.cs.length) kn R⟩∧pJ c.cs kn∧mr R (40+k) (oP K N O E F H .nilsl l1 l2 l3 (yX c 1 k) (yX c 2 k) (yX c 3 k) [])∧an fr 8= .ptr .L 37 1 0∧an fr 14= .ptr .S 2 1 0∧an fr 105=J∧an fr 106= .i .i64 (c.co.length:Int)∧an fr 107= .i .i64 (k:Int)∧a6 V 2=k2∧a6 V 3=k3∧a6 V 35=wy∧a6 V 37=⟨1,.cells (nC Y Z fT c r a8 J I iH iG (nP K N O E F H .nilsl nb)) 0 true⟩) _ c.co.length ?_ ?_ 0 _ (Nat.zero_le _) ⟨fr,lh,R0,FJ,.nilsl,.nilsl,.nilsl,by rw[mJ],B0,Ku,h8,jG,Pd,MC,MD,o2,o3,nG,kC⟩)
 ·rintro k _ hk ⟨fr,V,R,kn,E,F,H,rfl,pK,rA,h8,jG,Pd,MC,MD,o2,o3,nG,kC⟩
  left
  have iU:(k:Int)<c.co.length:=by omega
  have hw:=iX (k:=k) (by omega)
  obtain⟨b,cb,rr,iW,lE,hb⟩:=F1 i9 j9 k hk
  obtain⟨oi,W,t,oh⟩:=sE c.co[k] (List.getElem_mem hk)
  have FL:=(oX W).1
  obtain⟨cf,ky,iI,BN,pL,_⟩:=Jn c.cs r R c.cs.length (Nat.le_refl _) (Jo c.cs r R c7 i7 j7) c.co[k].sc (.inr oi) c.co[k].x t kn _ pK hb FL (nZ W) (by rw[B1];exact oh)
  have qn:=Dy (nH c.cs) c.co[k].sc c.co[k].x
  have s1:=AV c 1 hk
  have s2:=AV c 2 hk
  have s3:=AV c 3 hk
  generalize c.co[k]=u at*
  generalize comp (nH c.cs) u.sc u.x=y at*
  obtain⟨fa,fc,rfl,Ay,Zm⟩:=BN.cells
  simp only[qA,seval,qQ,Pd,MC,MD,iU,iW]
  generalize hD:DC pE 232 jN _=D
  obtain⟨X,U,R',c1',c2',c3',rfl,hR',q2,q3,q4⟩:=aEw c r a8 J I iH iG Y Z fT nb K N O E F H _ kn ky R u.x b y fa ((a6 V 18).g+1) u.sc (40+k) oi (by omega) l1 l2 l3 _ _ _ rA BN (by omega) lE.froz1 lE.kept1 Ay.froz1 Ay.kept1 iI hD (by simp only[qA,seval,h8]) (by simp only[qA,seval,jG]) (by simp only[qA,seval]) (by simp only[qA,seval]) (by simp only[qA,seval,kC])
  rw[←s1,←s2,←s3]at hR'
  have f8:an X 8= .ptr .L 37 1 0:=by rw[q2 8 (by decide)];simp only[qA,seval,h8]
  have f14:an X 14= .ptr .S 2 1 0:=by rw[q2 14 (by decide)];simp only[qA,seval,jG]
  have f105:an X 105=J:=by rw[q2 105 (by decide)];simp only[qA,seval,Pd]
  have f106:an X 106= .i .i64 (c.co.length:Int):=by rw[q2 106 (by decide)];simp only[qA,seval,MC]
  have f107:an X 107= .i .i64 (k:Int):=by rw[q2 107 (by decide)];simp only[qA,seval,MD]
  have p2:a6 U 2=k2:=by rw[q3 2 (by decide) (by decide)];simp only[qA,seval,o2]
  have p3:a6 U 3=k3:=by rw[q3 3 (by decide) (by decide)];simp only[qA,seval,o3]
  have p35:a6 U 35=wy:=by rw[q3 35 (by decide) (by decide)];simp only[qA,seval,nG]
  simp only[qA,seval,f107,hw]
  refine⟨_,rfl,_,_,R',ky,c1',c2',c3',rfl,pL,hR', ?_, ?_, ?_, ?_, ?_, ?_, ?_, ?_, ?_⟩
  all_goals (simp only[qA,seval,f8,f14,f105,f106,p2,p3,p35,q4])
 ·rintro _ ⟨fr,V,R,kn,E,F,H,rfl,pK,rA,h8,jG,Pd,MC,MD,o2,o3,nG,kC⟩
  simp only[qA,seval,qQ,MC,MD,Int.lt_irrefl]
  exact⟨_,_,oH,rfl,rfl,o2,o3,nG,R,kn,E,F,H,rfl,pK,rA.mono (by omega),kC⟩
end Go.Proofs.YtjniffjppoklpaaGreat
