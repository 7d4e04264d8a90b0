/- Walks of functions of the program and of the reference, and their plain laws, part 9. Conditions: the theorems' own. -/
import Derived.Test.YtcpceiclnbmgiaaGreatM8
import Derived.KernelRfl
set_option maxRecDepth 100000
set_option linter.unusedSimpArgs false
set_option linter.unusedVariables false
set_option maxHeartbeats 16000000
namespace Go.Proofs.YtcpceiclnbmgiaaGreat
open Go Go.Ev
theorem E7{α β:Type}[DecidableEq α]{s:α}: ∀{m:List (α×β)},s∉m.map Prod.fst→iJ m s=none
 | [],_=>rfl
 |p::m,h=>by
  rw[List.map_cons,List.mem_cons,not_or]at h
  rw[iJ,if_neg h.1,E7 h.2]
theorem No.fz{z:Zo}{c:List T}(h:No z c):c.all froz1=true∧c.length=3:=by
 obtain⟨a,r,rfl,i,_⟩:=h
 exact⟨by simp[i.froz1,HN,zi],rfl⟩
def Np(i:List Zo)(m:List (List Nat×List T)):Prop:= ∀p∈m,∃z∈i,z.nm=p.1∧No z p.2
theorem QI{l:List (List Nat)}(i:l.Nodup){k:Nat}(hk:k<l.length):l[k]∉l.take k:=by
 intro r
 obtain⟨j,D,e⟩:=List.getElem_of_mem r
 rw[List.length_take]at D
 rw[List.getElem_take]at e
 exact List.pairwise_iff_getElem.1 i j k (by omega) hk (by omega) e
theorem nwz(l:List Zo)(hnd:(l.map Zo.nm).Nodup)(a:T)(cc:List T)(ha:IsSl a l.length cc)(hc:iA No l cc)(hlen:l.length≤100)(X Y KX Ow:b8)(fr:Fr)(lh:iq b8)(sh:List b8)
  (I:an fr 9= .mp .L 38 1) (r:an fr 40=a) (Xk:an fr 41= .i .i64 (l.length:Int)) (D:an fr 42= .i .i64 0) (J:b7 lh 2=X) (K:b7 lh 3=Y) (N:b7 lh 35=KX) (O:b7 lh 37=Ow) (KY:b7 lh 38=⟨1,.map [] [] false⟩):
  wS 232 oQ fr lh sh (.ext 0)∧
  (b7 (n5 pE 232 oQ fr lh sh) 2=X∧b7 (n5 pE 232 oQ fr lh sh) 3=Y∧b7 (n5 pE 232 oQ fr lh sh) 35=KX∧b7 (n5 pE 232 oQ fr lh sh) 37=Ow∧(∃m,b7 (n5 pE 232 oQ fr lh sh) 38=⟨1,.map (m.map fun p=>sK p.1) (m.map fun p=>T.agg p.2) false⟩∧Np l m∧m.map Prod.fst=l.map Zo.nm)∧oH pE 232 oQ fr lh sh=sh):=by
 refine jJ (P:=fun jO U iT=>b7 U 2=X∧b7 U 3=Y∧b7 U 35=KX∧b7 U 37=Ow∧(∃m,b7 U 38=⟨1,.map (m.map fun p=>sK p.1) (m.map fun p=>T.agg p.2) false⟩∧Np l m∧m.map Prod.fst=l.map Zo.nm)∧iT=sh)
  (j6 (fun k st=> ∃(fr:Fr) (F:iq b8) (m:List (List Nat×List T)),st=⟨fr,F,sh⟩∧m.map Prod.fst=(l.map Zo.nm).take k∧Np l m∧an fr 9= .mp .L 38 1∧an fr 40=a∧an fr 41= .i .i64 (l.length:Int)∧an fr 42= .i .i64 (k:Int)∧b7 F 2=X∧b7 F 3=Y∧b7 F 35=KX∧b7 F 37=Ow∧b7 F 38=⟨1,.map (m.map fun p=>sK p.1) (m.map fun p=>T.agg p.2) false⟩) _ l.length ?_ ?_ 0 _ (Nat.zero_le _) ⟨fr,lh,[],rfl,by simp,(fun p hp=>by cases hp),I,r,Xk,D,J,K,N,O,KY⟩)
 ·rintro k _ hk ⟨fr,F,m,rfl,Z,H,I,r,Xk,D,J,K,N,O,KY⟩
  left
  have iX:(k:Int)<l.length:=by omega
  have hw:=iN (k:=k) (by omega)
  obtain⟨V,sc,rr,jg,W,Fy⟩:=agM ha hc k hk
  have Xg:k<(l.map Zo.nm).length:=by simpa using hk
  have xU:iJ m l[k].nm=none:=E7 (by rw[Z];have:=QI hnd Xg;rwa [List.getElem_map]at this)
  have oj:qN (.one .str) (.s l[k].nm) (.agg [.s l[k].nm,.i .i64 l[k].o,V]) (m.map fun p=>sK p.1) (m.map fun p=>T.agg p.2)=_:=zq (kT:=sK) (vT:=T.agg) FQ m l[k].nm [.s l[k].nm,.i .i64 l[k].o,V] xU
  have hzr: ∃z∈l,z.nm=l[k].nm∧No z [.s l[k].nm,.i .i64 l[k].o,V]:=⟨l[k],List.getElem_mem hk,rfl,V,sc,rfl,W,Fy⟩
  have ZH:(l.map Zo.nm).take (k+1)=(l.map Zo.nm).take k++ [l[k].nm]:=by rw[List.take_succ_eq_append_getElem Xg,List.getElem_map]
  rw[ZH]
  generalize l[k]=z at*
  simp only[qA,seval,oQ,I,r,Xk,D,KY,iX,jg,hw,tP,BN,oj,W.froz1]
  refine⟨_,rfl,_,_,m++ [(z.nm,[.s z.nm,.i .i64 z.o,V])],rfl, ?_, ?_, ?_, ?_, ?_, ?_, ?_, ?_, ?_, ?_, ?_⟩
  ·rw[List.map_append,Z];rfl
  ·intro p hp
   rcases List.mem_append.1 hp with hp|hp
   ·exact H p hp
   ·rw[List.mem_singleton.1 hp];exact hzr
  all_goals (simp only[qA,seval,I,r,Xk,J,K,N,O])
 ·rintro _ ⟨fr,F,m,rfl,Z,H,I,r,Xk,D,J,K,N,O,KY⟩
  simp only[qA,seval,oQ,Xk,D,Int.lt_irrefl]
  exact⟨_,_,uO,rfl,rfl,J,K,N,O,⟨m,KY,H,by rw[Z,List.take_of_length_le (by simp)]⟩,rfl⟩
def mz(i r D:T)(c:Ct)(F H I J K N:T)(O:List T):List T:=i::r::D::(jB c F H I J K N++ .mp .L 35 1::O)
theorem zH{α β:Type}[DecidableEq α]{s:α}{v:β}: ∀{m:List (α×β)},iJ m s=some v→(s,v)∈m
 | [],h=>by cases h
 |p::m,h=>by
  rw[iJ]at h
  split at h
  ·rename_i e;injection h with h;subst h;rw[e];exact List.mem_cons_self ..
  ·exact List.mem_cons_of_mem _ (zH h)
theorem A6{α β:Type}[DecidableEq α]{s:α}: ∀{m:List (α×β)},s∈m.map Prod.fst→ ∃v,iJ m s=some v
 | [],h=>by cases h
 |p::m,h=>by
  rw[iJ]
  split
  ·exact⟨_,rfl⟩
  ·rename_i e
   rw[List.map_cons,List.mem_cons]at h
   rcases h with h|h
   ·exact absurd h e
   ·exact A6 h
def Sf(i:List Zo)(r:List Ap)(q:List (List Nat×List T)):Prop:= ∀p∈q,∃u∈r,u.cd=p.1∧ ∃z∈i,z.nm=u.zn∧No z p.2
theorem aed{r:List Zo}{m:List (List Nat×List T)}(H:Np r m)(I:m.map Prod.fst=r.map Zo.nm)(s:List Nat)(hs:s∈r.map Zo.nm): ∃v,(∃z∈r,z.nm=s∧No z v)∧nI (.one .str) (m.map fun p=>sK p.1) (m.map fun p=>T.agg p.2) (.s s) (.agg [.s [],.i .i64 0,.nilsl]) false=some (.agg v)∧v.all froz1=true∧v.length=3:=by
 have D:=Pl (kT:=sK) (vT:=T.agg) FQ (fun _=>rfl) m s (.agg [.s [],.i .i64 0,.nilsl])
 obtain⟨v,h⟩:=A6 (by rw[I];exact hs)
 rw[h]at D
 obtain⟨z,J,K,F⟩:=H _ (zH h)
 exact⟨v,⟨z,J,K,F⟩,D,F.fz⟩
theorem nwa(l:List Ap)(hnd:(l.map Ap.cd).Nodup)(a:T)(cc:List T)(ha:IsSl a l.length cc)(hc:iA ApR l cc)(hlen:l.length≤100)(F:List Zo)(m:List (List Nat×List T))(J:Np F m∧m.map Prod.fst=F.map Zo.nm)(hzn: ∀u∈l,u.zn∈F.map Zo.nm)(X Y Z:T)(c:Ct)(a7 a8 a9 iv iy iw:T)(vs:List T)(c2 c3:b8)(fr:Fr)(lh:iq b8)(sh:List b8)
  (K:an fr 8= .ptr .L 37 1 0) (N:an fr 9= .mp .L 38 1) (Tp:an fr 52=a) (I:an fr 53= .i .i64 (l.length:Int)) (O:an fr 54= .i .i64 0) (U:b7 lh 2=c2) (V:b7 lh 3=c3) (W:b7 lh 35=⟨1,.map [] [] false⟩) (r:b7 lh 37=⟨1,.cells (mz X Y Z c a7 a8 a9 iv iy iw vs) 0 true⟩) (KY:b7 lh 38=⟨1,.map (m.map fun p=>sK p.1) (m.map fun p=>T.agg p.2) false⟩):
  wS 232 pZ fr lh sh (.ext 2)∧
  (b7 (n5 pE 232 pZ fr lh sh) 2=c2∧b7 (n5 pE 232 pZ fr lh sh) 3=c3∧b7 (n5 pE 232 pZ fr lh sh) 37=⟨1,.cells (mz X Y Z c a7 a8 a9 iv iy iw vs) 0 true⟩∧(∃q,b7 (n5 pE 232 pZ fr lh sh) 35=⟨1,.map (q.map fun p=>sK p.1) (q.map fun p=>T.agg p.2) false⟩∧Sf F l q∧q.map Prod.fst=l.map Ap.cd)∧oH pE 232 pZ fr lh sh=sh):=by
 refine jJ (P:=fun jO iR iT=>b7 iR 2=c2∧b7 iR 3=c3∧b7 iR 37=⟨1,.cells (mz X Y Z c a7 a8 a9 iv iy iw vs) 0 true⟩∧(∃q,b7 iR 35=⟨1,.map (q.map fun p=>sK p.1) (q.map fun p=>T.agg p.2) false⟩∧Sf F l q∧q.map Prod.fst=l.map Ap.cd)∧iT=sh)
  (j6 (fun k st=> ∃(fr:Fr) (D:iq b8) (q:List (List Nat×List T)),st=⟨fr,D,sh⟩∧q.map Prod.fst=(l.map Ap.cd).take k∧Sf F l q∧an fr 8= .ptr .L 37 1 0∧an fr 9= .mp .L 38 1∧an fr 52=a∧an fr 53= .i .i64 (l.length:Int)∧an fr 54= .i .i64 (k:Int)∧b7 D 2=c2∧b7 D 3=c3∧b7 D 37=⟨1,.cells (mz X Y Z c a7 a8 a9 iv iy iw vs) 0 true⟩∧b7 D 38=⟨1,.map (m.map fun p=>sK p.1) (m.map fun p=>T.agg p.2) false⟩∧b7 D 35=⟨1,.map (q.map fun p=>sK p.1) (q.map fun p=>T.agg p.2) false⟩) _ l.length ?_ ?_ 0 _ (Nat.zero_le _) ⟨fr,lh,[],rfl,by simp,(fun p hp=>by cases hp),K,N,Tp,I,O,U,V,r,KY,W⟩)
 ·rintro k _ hk ⟨fr,D,q,rfl,hq,H,K,N,Tp,I,O,U,V,r,KY,W⟩
  left
  have iX:(k:Int)<l.length:=by omega
  have hw:=iN (k:=k) (by omega)
  obtain⟨rr,jg⟩:=agN ha hc k hk
  have Xg:k<(l.map Ap.cd).length:=by simpa using hk
  have xU:iJ q l[k].cd=none:=E7 (by rw[hq];have:=QI hnd Xg;rwa [List.getElem_map]at this)
  obtain⟨v,hzv,mg,MA,Ti⟩:=aed J.1 J.2 l[k].zn (hzn _ (List.getElem_mem hk))
  have hqv: ∃u∈l,u.cd=l[k].cd∧ ∃z∈F,z.nm=u.zn∧No z v:=⟨l[k],List.getElem_mem hk,rfl,hzv⟩
  have oj:qN (.one .str) (.s l[k].cd) (.agg v) (q.map fun p=>sK p.1) (q.map fun p=>T.agg p.2)=_:=zq (kT:=sK) (vT:=T.agg) FQ q l[k].cd v xU
  have ZH:(l.map Ap.cd).take (k+1)=(l.map Ap.cd).take k++ [l[k].cd]:=by rw[List.take_succ_eq_append_getElem Xg,List.getElem_map]
  rw[ZH]
  generalize l[k]=z at*
  unfold mz jB at r ⊢
  simp only[List.cons_append,List.nil_append]at r ⊢
  simp only[qA,seval,jI,iE,pZ,K,N,Tp,I,O,W,r,KY,iX,jg,hw,jF,mg,MA,tP,BN,oj]
  refine⟨_,rfl,_,_,q++ [(z.cd,v)],rfl, ?_, ?_, ?_, ?_, ?_, ?_, ?_, ?_, ?_, ?_, ?_, ?_⟩
  ·rw[List.map_append,hq];rfl
  ·intro p hp
   rcases List.mem_append.1 hp with hp|hp
   ·exact H p hp
   ·rw[List.mem_singleton.1 hp];exact hqv
  all_goals (simp only[qA,seval,K,N,Tp,I,U,V,r,KY])
 ·rintro _ ⟨fr,D,q,rfl,hq,H,K,N,Tp,I,O,U,V,r,KY,W⟩
  simp only[qA,seval,pZ,I,O,Int.lt_irrefl]
  exact⟨_,_,uO,rfl,rfl,U,V,r,⟨q,W,H,by rw[hq,List.take_of_length_le (by simp)]⟩,rfl⟩
theorem ZI{n:Nat}(h:n≤1000):(n+1)*56≤roomy:=by unfold roomy;omega
theorem alP:56≤roomy:=by unfold roomy;omega
def mL(i r D F H I cr J:T):List T:= [.nilsl,i,r,D,.nilsl,F,H,I,cr,J]
def nE(i r D F H I cr:T)(J K N O U V W:RL):List (Nat×T×RL):= [(4,i,J),(4,r,K),(4,D,N),(3,F,O),(3,H,U),(3,I,V),(3,cr,W)]
def Ad(c:Ct)(j:Int)(k:Nat):RL:=((c.ru.take k).filter fun u=>u.sc==j).map fun u=>(u.nm,comp (qd c.cs) u.sc u.x)
def Ca(c:Ct)(j:Int)(k:Nat):RL:=((c.co.take k).filter fun u=>u.sc==j).map fun u=>([],comp (qd c.cs) u.sc u.x)
def Tn(c:Ct)(k:Nat):RL:=(c.cr.take k).map fun u=>([],comp (qd c.cs) 1 u)
theorem E8(c:Ct)(j:Int){k:Nat}(hk:k<c.ru.length):Ad c j (k+1)=if c.ru[k].sc=j then Ad c j k++ [(c.ru[k].nm,comp (qd c.cs) c.ru[k].sc c.ru[k].x)]else Ad c j k:=by
 grind [Ad,List.take_succ_eq_append_getElem]
theorem E9(c:Ct)(j:Int){k:Nat}(hk:k<c.co.length):Ca c j (k+1)=if c.co[k].sc=j then Ca c j k++ [([],comp (qd c.cs) c.co[k].sc c.co[k].x)]else Ca c j k:=by
 grind [Ca,List.take_succ_eq_append_getElem]
theorem Xi(c:Ct){k:Nat}(hk:k<c.cr.length):Tn c (k+1)=Tn c k++ [([],comp (qd c.cs) 1 c.cr[k])]:=by
 grind [Tn,List.take_succ_eq_append_getElem]
theorem aCX:lK [] 0 (nE .nilsl .nilsl .nilsl .nilsl .nilsl .nilsl .nilsl [] [] [] [] [] [] []):=by
 have r: ∀p∈nE .nilsl .nilsl .nilsl .nilsl .nilsl .nilsl .nilsl [] [] [] [] [] [] [],p.2=(.nilsl,[]):=by
  simp_all[nE,List.mem_cons,List.not_mem_nil]
 exact⟨fun p D=> .inl (by rw[r p D];exact⟨rfl,rfl⟩),fun i j hi F _=> .inl (by rw[r _ (List.getElem_mem hi)];rfl)⟩
def Se(l:Cs)(i:Int)(x:Ex):Prop:=(i=1∨i=2∨i=3)∧jy x=0∧ ∃k,x.ty (Mm l) i=(k,0)
theorem nwr(c:Ct)(N a8:T)(c7 c8:List T)(i7:IsSl N c.cs.length c7)(j7:mh c.cs c7)(i8:IsSl a8 c.ru.length c8)(j8:iA Tq c.ru c8)(hlen:c.ru.length≤40)(tW: ∀u∈c.ru,Se c.cs u.sc u.x)(zT aT fT a9 iv iy iw nb:T)(c2 c3 KX:b8)(Ek:List (Nat×Int))(AZ:oI c.cs Ek)(fr:Fr)(lh:iq b8)(sh:List b8)(lU:sh=lL N (jt c.cs c.cs.length) Ek [])
  (I:an fr 8= .ptr .L 37 1 0) (J:an fr 14= .ptr .S 2 1 0) (KZ:an fr 73=a8) (I1:an fr 74= .i .i64 (c.ru.length:Int)) (Ts:an fr 75= .i .i64 0) (V:b7 lh 2=c2) (W:b7 lh 3=c3) (X:b7 lh 35=KX) (K:b7 lh 37=⟨1,.cells (mz zT aT fT c N a8 a9 iv iy iw (mL .nilsl .nilsl .nilsl .nilsl .nilsl .nilsl .nilsl nb)) 0 true⟩):
  wS 232 mN fr lh sh (.ext 4)∧
  (b7 (n5 pE 232 mN fr lh sh) 2=c2∧b7 (n5 pE 232 mN fr lh sh) 3=c3∧b7 (n5 pE 232 mN fr lh sh) 35=KX∧ ∃(R:List b8) (kn:List (Nat×Int)) (D F H:T),oH pE 232 mN fr lh sh=lL N (jt c.cs c.cs.length) kn R∧oI c.cs kn∧lK R 40 (nE D F H .nilsl .nilsl .nilsl .nilsl (Ad c 1 c.ru.length) (Ad c 2 c.ru.length) (Ad c 3 c.ru.length) [] [] [] [])∧b7 (n5 pE 232 mN fr lh sh) 37=⟨1,.cells (mz zT aT fT c N a8 a9 iv iy iw (mL D F H .nilsl .nilsl .nilsl .nilsl nb)) 0 true⟩):=by
 refine jJ (P:=fun jO iR iT=>b7 iR 2=c2∧b7 iR 3=c3∧b7 iR 35=KX∧ ∃(R:List b8) (kn:List (Nat×Int)) (D F H:T),iT=lL N (jt c.cs c.cs.length) kn R∧oI c.cs kn∧lK R 40 (nE D F H .nilsl .nilsl .nilsl .nilsl (Ad c 1 c.ru.length) (Ad c 2 c.ru.length) (Ad c 3 c.ru.length) [] [] [] [])∧b7 iR 37=⟨1,.cells (mz zT aT fT c N a8 a9 iv iy iw (mL D F H .nilsl .nilsl .nilsl .nilsl nb)) 0 true⟩)
  (j6 (fun k st=> ∃(fr:Fr) (lF:iq b8) (R:List b8) (kn:List (Nat×Int)) (D F H:T),st=⟨fr,lF,lL N (jt c.cs c.cs.length) kn R⟩∧oI c.cs kn∧lK R k (nE D F H .nilsl .nilsl .nilsl .nilsl (Ad c 1 k) (Ad c 2 k) (Ad c 3 k) [] [] [] [])∧an fr 8= .ptr .L 37 1 0∧an fr 14= .ptr .S 2 1 0∧an fr 73=a8∧an fr 74= .i .i64 (c.ru.length:Int)∧an fr 75= .i .i64 (k:Int)∧b7 lF 2=c2∧b7 lF 3=c3∧b7 lF 35=KX∧b7 lF 37=⟨1,.cells (mz zT aT fT c N a8 a9 iv iy iw (mL D F H .nilsl .nilsl .nilsl .nilsl nb)) 0 true⟩) _ c.ru.length ?_ ?_ 0 _ (Nat.zero_le _) ⟨fr,lh,[],Ek,.nilsl,.nilsl,.nilsl,by rw[lU],AZ,aCX,I,J,KZ,I1,Ts,V,W,X,K⟩)
 ·rintro k _ hk ⟨fr,lF,R,kn,D,F,H,rfl,qn,O,I,J,KZ,I1,Ts,V,W,X,K⟩
  left
  have iX:(k:Int)<c.ru.length:=by omega
  have hw:=iN (k:=k) (by omega)
  obtain⟨b,cb,rr,jg,m9,hb⟩:=L7 i8 j8 k hk
  obtain⟨nk,hval,t,Ab⟩:=tW c.ru[k] (List.getElem_mem hk)
  have El:=(pg hval).1
  obtain⟨cf,j1,im,yX,oJ,_⟩:=HX c.cs N R c.cs.length (Nat.le_refl _) (HY c.cs N R c7 i7 j7) c.ru[k].sc (.inr nk) c.ru[k].x t kn _ qn hb El (oz hval) (by rw[Em];exact Ab)
  have po:=CD (qd c.cs) c.ru[k].sc c.ru[k].x
  have Y:=E8 c 1 hk
  have Z:=E8 c 2 hk
  have s3:=E8 c 3 hk
  generalize c.ru[k]=u at*
  generalize comp (qd c.cs) u.sc u.x=y at*
  obtain⟨r,fc,rfl,B7,hf2⟩:=yX.cells
  have IV:ZW (u.nm,y) [.s u.nm,.i .i64 y.op,.i .i64 y.num,r]:=⟨_,rfl,yX⟩
  have zw:Ac 4 [(u.nm,y)] [.s u.nm,.i .i64 y.op,.i .i64 y.num,r]:=by
   have:=(Ac.nil 4).app4 (u.nm,y) _ IV (by show y.sz≤1000;omega)
   grind
  have Ff:=alP
  have aI4:k≤40:=by omega
  unfold mz jB mL at K ⊢
  simp only[List.cons_append,List.nil_append]at K ⊢
  rcases nk with nk|nk|nk <;> rw[nk]at jg im
  ·have U:=O.1 (4,D,Ad c 1 k) (by simp[nE])
   rw[if_pos nk]at Y
   rw[if_neg (by rw[nk];decide)]at Z s3
   rcases U with⟨mR,Bx⟩|⟨i,g,n,cs,hv,hE,hi,hn,hB,hfz⟩
   ·simp only at mR Bx
    subst mR
    rw[Bx,List.nil_append]at Y
    have wz:=(O.mono (Nat.le_succ k)).new (by omega) 0 (by simp[nE]) (sz:=4) rfl [.s u.nm,.i .i64 y.op,.i .i64 y.num,r] rfl _ zw
    simp only[qA,seval,k9,repl,jI,iE,lj,j3,mN,I,J,KZ,I1,Ts,K,iX,jg,hw,im,ri,rZ,m9.kept1,B7.froz1,jV,kl,iK,jx,iQ,jR,sY,GM,Ff]
    refine⟨_,rfl,_,_,iH R R.length ⟨1,.cells [.s u.nm,.i .i64 y.op,.i .i64 y.num,r] 0 false⟩,j1,.isl .S (R.length+7) 1 0 1 4,F,H,rfl,oJ,(by rw[Y,Z,s3];exact wz), ?_, ?_, ?_, ?_, ?_, ?_, ?_, ?_, ?_⟩
    all_goals (simp only[qA,seval,I,J,KZ,I1,V,W,X])
   ·simp only at hv
    subst hv
    have A0:=O.app 0 (by simp[nE]) (sz:=4) rfl rfl hE hi hn hB [.s u.nm,.i .i64 y.op,.i .i64 y.num,r] rfl _ (hfz.app4 (u.nm,y) [.s u.nm,.i .i64 y.op,.i .i64 y.num,r] IV (by show y.sz≤1000;omega)) (g+1)
    have wD:(n+1)*56≤roomy:=ZI (by omega)
    simp only[qA,seval,k9,repl,jI,iE,lj,j3,mN,I,J,KZ,I1,Ts,K,iX,jg,hw,im,ri,rZ,m9.kept1,B7.froz1,jV,kl,iK,ju,iQ,jS,jc,GL,sY,GM,hE,hn,wD]
    refine⟨_,rfl,_,_,iH R i ⟨g+1,.cells (cs++ [.s u.nm,.i .i64 y.op,.i .i64 y.num,r]) 0 false⟩,j1,.isl .S (i+7) (g+1) 0 (n+1) 4,F,H,rfl,oJ,(by rw[Y,Z,s3];exact A0), ?_, ?_, ?_, ?_, ?_, ?_, ?_, ?_, ?_⟩
    all_goals (simp only[qA,seval,I,J,KZ,I1,V,W,X])
  ·have U:=O.1 (4,F,Ad c 2 k) (by simp[nE])
   rw[if_pos nk]at Z
   rw[if_neg (by rw[nk];decide)]at Y s3
   rcases U with⟨mR,Bx⟩|⟨i,g,n,cs,hv,hE,hi,hn,hB,hfz⟩
   ·simp only at mR Bx
    subst mR
    rw[Bx,List.nil_append]at Z
    have wz:=(O.mono (Nat.le_succ k)).new (by omega) 1 (by simp[nE]) (sz:=4) rfl [.s u.nm,.i .i64 y.op,.i .i64 y.num,r] rfl _ zw
    simp only[qA,seval,k9,repl,jI,iE,lj,j3,mN,I,J,KZ,I1,Ts,K,iX,jg,hw,im,ri,rZ,m9.kept1,B7.froz1,jV,kl,iK,jx,iQ,jR,sY,GM,Ff]
    refine⟨_,rfl,_,_,iH R R.length ⟨1,.cells [.s u.nm,.i .i64 y.op,.i .i64 y.num,r] 0 false⟩,j1,D,.isl .S (R.length+7) 1 0 1 4,H,rfl,oJ,(by rw[Y,Z,s3];exact wz), ?_, ?_, ?_, ?_, ?_, ?_, ?_, ?_, ?_⟩
    all_goals (simp only[qA,seval,I,J,KZ,I1,V,W,X])
   ·simp only at hv
    subst hv
    have A0:=O.app 1 (by simp[nE]) (sz:=4) rfl rfl hE hi hn hB [.s u.nm,.i .i64 y.op,.i .i64 y.num,r] rfl _ (hfz.app4 (u.nm,y) [.s u.nm,.i .i64 y.op,.i .i64 y.num,r] IV (by show y.sz≤1000;omega)) (g+1)
    have wD:(n+1)*56≤roomy:=ZI (by omega)
    simp only[qA,seval,k9,repl,jI,iE,lj,j3,mN,I,J,KZ,I1,Ts,K,iX,jg,hw,im,ri,rZ,m9.kept1,B7.froz1,jV,kl,iK,ju,iQ,jS,jc,GL,sY,GM,hE,hn,wD]
    refine⟨_,rfl,_,_,iH R i ⟨g+1,.cells (cs++ [.s u.nm,.i .i64 y.op,.i .i64 y.num,r]) 0 false⟩,j1,D,.isl .S (i+7) (g+1) 0 (n+1) 4,H,rfl,oJ,(by rw[Y,Z,s3];exact A0), ?_, ?_, ?_, ?_, ?_, ?_, ?_, ?_, ?_⟩
    all_goals (simp only[qA,seval,I,J,KZ,I1,V,W,X])
  ·have U:=O.1 (4,H,Ad c 3 k) (by simp[nE])
   rw[if_pos nk]at s3
   rw[if_neg (by rw[nk];decide)]at Y Z
   rcases U with⟨mR,Bx⟩|⟨i,g,n,cs,hv,hE,hi,hn,hB,hfz⟩
   ·simp only at mR Bx
    subst mR
    rw[Bx,List.nil_append]at s3
    have wz:=(O.mono (Nat.le_succ k)).new (by omega) 2 (by simp[nE]) (sz:=4) rfl [.s u.nm,.i .i64 y.op,.i .i64 y.num,r] rfl _ zw
    simp only[qA,seval,k9,repl,jI,iE,lj,j3,mN,I,J,KZ,I1,Ts,K,iX,jg,hw,im,ri,rZ,m9.kept1,B7.froz1,jV,kl,iK,jx,iQ,jR,sY,GM,Ff]
    refine⟨_,rfl,_,_,iH R R.length ⟨1,.cells [.s u.nm,.i .i64 y.op,.i .i64 y.num,r] 0 false⟩,j1,D,F,.isl .S (R.length+7) 1 0 1 4,rfl,oJ,(by rw[Y,Z,s3];exact wz), ?_, ?_, ?_, ?_, ?_, ?_, ?_, ?_, ?_⟩
    all_goals (simp only[qA,seval,I,J,KZ,I1,V,W,X])
   ·simp only at hv
    subst hv
    have A0:=O.app 2 (by simp[nE]) (sz:=4) rfl rfl hE hi hn hB [.s u.nm,.i .i64 y.op,.i .i64 y.num,r] rfl _ (hfz.app4 (u.nm,y) [.s u.nm,.i .i64 y.op,.i .i64 y.num,r] IV (by show y.sz≤1000;omega)) (g+1)
    have wD:(n+1)*56≤roomy:=ZI (by omega)
    simp only[qA,seval,k9,repl,jI,iE,lj,j3,mN,I,J,KZ,I1,Ts,K,iX,jg,hw,im,ri,rZ,m9.kept1,B7.froz1,jV,kl,iK,ju,iQ,jS,jc,GL,sY,GM,hE,hn,wD]
    refine⟨_,rfl,_,_,iH R i ⟨g+1,.cells (cs++ [.s u.nm,.i .i64 y.op,.i .i64 y.num,r]) 0 false⟩,j1,D,F,.isl .S (i+7) (g+1) 0 (n+1) 4,rfl,oJ,(by rw[Y,Z,s3];exact A0), ?_, ?_, ?_, ?_, ?_, ?_, ?_, ?_, ?_⟩
    all_goals (simp only[qA,seval,I,J,KZ,I1,V,W,X])
 ·rintro _ ⟨fr,lF,R,kn,D,F,H,rfl,qn,O,I,J,KZ,I1,Ts,V,W,X,K⟩
  simp only[qA,seval,mN,I1,Ts,Int.lt_irrefl]
  exact⟨_,_,uO,rfl,rfl,V,W,X,R,kn,D,F,H,rfl,qn,O.mono (by omega),K⟩
theorem HZ:40≤roomy:=by unfold roomy;omega
theorem CE{n:Nat}(h:n≤1000):(n+1)*40≤roomy:=by unfold roomy;omega
theorem tX{a b c x y z:T}:splice [a,b,c] 0 [x,y,z]= [x,y,z]:=rfl
theorem mZ{a b c x y z:T}: ∀(cs:List T),splice (cs++ [a,b,c]) cs.length [x,y,z]=cs++ [x,y,z]
 | []=>rfl
 |u::cs=>by rw[List.cons_append,List.cons_append,List.length_cons,splice,mZ cs]
theorem tY{cs:List T}{a b c:T}:(cs++ [a,b,c]).length=cs.length+3:=by simp
theorem avm(c:Ct)(r O U V W X Y Z fT nb r1 r2 r3 c2 c3:T)(m:List (List Nat×Nat))(kn j1:List (Nat×Int))(R:List b8)(x:Ex)(b:T)(y:Fm)(F:T)(xY:Nat)(fr:Fr)(lh:iq b8)
  (TN:froz1 b=true) (C3:kept1 b=true) (D:froz1 F=true) (O4:kept1 F=true)
  (im:be pE 52 [.ptr .S 2 1 0,.i .i64 1,.agg [.i .i64 x.op,.i .i64 x.num,.s x.name,b]] (lL r m kn R)=some (.agg [.i .i64 y.op,.i .i64 y.num,F],lL r m j1 R))
  (h8:an fr 8= .ptr .L 37 1 0) (jH:an fr 14= .ptr .S 2 1 0) (mq:an fr 18= .ptr .L 18 xY 0) (C4:b7 lh 18=⟨xY,.cells [.i .i64 1,.i .i64 x.op,.i .i64 x.num,.s x.name,b] 0 true⟩) (H:b7 lh 37=⟨1,.cells (mz Y Z fT c r O U V W X (mL r1 r2 r3 (.nilsl) c2 c3 .nilsl nb)) 0 true⟩) (I:dE) (J:I=rP jq∨I=rQ jq):
  ∃f1 K,DC pE 232 I ⟨fr,lh,lL r m kn R⟩=some (.nrm,⟨f1,K,lL r m j1 (iH R R.length ⟨1,.cells [.i .i64 y.op,.i .i64 y.num,F] 0 false⟩)⟩)∧(∀k,(j2 jq).contains k=false→k≠37→b7 K k=b7 lh k)∧b7 K 37=⟨1,.cells (mz Y Z fT c r O U V W X (mL r1 r2 r3 (.isl .S (R.length+7) 1 0 1 3) c2 c3 .nilsl nb)) 0 true⟩:=by
 have Ff:=HZ
 unfold mz jB mL at H ⊢
 simp only[List.cons_append,List.nil_append]at H ⊢
 rcases J with rfl|rfl
 ·
  simp only[qA,seval,k9,repl,jI,iE,lj,jl,j3,jq,rP,h8,jH,mq,C4,H,im,ri,rZ,C3,D,jV,kl,iK,jx,iQ,jR,GL,sY,GM,Ff,jY,ko,tX,Nat.lt_succ_self]
  refine⟨_,_,rfl, ?_, ?_⟩
  ·intro k hk Fa
   have N:k≠111:=by rintro rfl;exact absurd hk (by decide)
   repeat (first|rw[jz _ _ Fa]|rw[jz _ _ N])
  ·simp only[qA,seval]
 ·
  simp only[qA,seval,k9,repl,jI,iE,lj,jl,j3,jq,rQ,h8,jH,mq,C4,H,im,ri,rZ,C3,D,jV,kl,iK,jx,iQ,jR,GL,sY,GM,Ff,jY,ko,tX,Nat.lt_succ_self]
  refine⟨_,_,rfl, ?_, ?_⟩
  ·intro k hk Fa
   have N:k≠111:=by rintro rfl;exact absurd hk (by decide)
   repeat (first|rw[jz _ _ Fa]|rw[jz _ _ N])
  ·simp only[qA,seval]
theorem avn(c:Ct)(r O U V W X Y Z fT nb r1 r2 r3 c2 c3:T)(m:List (List Nat×Nat))(kn j1:List (Nat×Int))(R:List b8)(x:Ex)(b:T)(y:Fm)(F:T)(xY:Nat)(i g n:Nat)(cs:List T)(hE:iz R i=⟨g,.cells cs 0 false⟩)(hn:n*3=cs.length)(Cv:n≤1000)(fr:Fr)(lh:iq b8)
  (TN:froz1 b=true) (C3:kept1 b=true) (D:froz1 F=true) (O4:kept1 F=true)
  (im:be pE 52 [.ptr .S 2 1 0,.i .i64 1,.agg [.i .i64 x.op,.i .i64 x.num,.s x.name,b]] (lL r m kn R)=some (.agg [.i .i64 y.op,.i .i64 y.num,F],lL r m j1 R))
  (h8:an fr 8= .ptr .L 37 1 0) (jH:an fr 14= .ptr .S 2 1 0) (mq:an fr 18= .ptr .L 18 xY 0) (C4:b7 lh 18=⟨xY,.cells [.i .i64 1,.i .i64 x.op,.i .i64 x.num,.s x.name,b] 0 true⟩) (H:b7 lh 37=⟨1,.cells (mz Y Z fT c r O U V W X (mL r1 r2 r3 (.isl .S (i+7) g 0 n 3) c2 c3 .nilsl nb)) 0 true⟩) (I:dE) (J:I=rP jq∨I=rQ jq):
  ∃f1 K,DC pE 232 I ⟨fr,lh,lL r m kn R⟩=some (.nrm,⟨f1,K,lL r m j1 (iH R i ⟨g+1,.cells (cs++ [.i .i64 y.op,.i .i64 y.num,F]) 0 false⟩)⟩)∧(∀k,(j2 jq).contains k=false→k≠37→b7 K k=b7 lh k)∧b7 K 37=⟨1,.cells (mz Y Z fT c r O U V W X (mL r1 r2 r3 (.isl .S (i+7) (g+1) 0 (n+1) 3) c2 c3 .nilsl nb)) 0 true⟩:=by
 have wD:(n+1)*40≤roomy:=CE Cv
 unfold mz jB mL at H ⊢
 simp only[List.cons_append,List.nil_append]at H ⊢
 rcases J with rfl|rfl
 ·
  simp only[qA,seval,k9,repl,jI,iE,lj,jl,j3,jq,rP,h8,jH,mq,C4,H,im,ri,rZ,C3,D,jV,kl,iK,ju,iQ,jS,jc,GL,sY,GM,jY,ko,mZ,tY,Nat.lt_succ_self,hE,hn,wD]
  refine⟨_,_,rfl, ?_, ?_⟩
  ·intro k hk Fa
   have N:k≠111:=by rintro rfl;exact absurd hk (by decide)
   repeat (first|rw[jz _ _ Fa]|rw[jz _ _ N])
  ·simp only[qA,seval]
 ·
  simp only[qA,seval,k9,repl,jI,iE,lj,jl,j3,jq,rQ,h8,jH,mq,C4,H,im,ri,rZ,C3,D,jV,kl,iK,ju,iQ,jS,jc,GL,sY,GM,jY,ko,mZ,tY,Nat.lt_succ_self,hE,hn,wD]
  refine⟨_,_,rfl, ?_, ?_⟩
  ·intro k hk Fa
   have N:k≠111:=by rintro rfl;exact absurd hk (by decide)
   repeat (first|rw[jz _ _ Fa]|rw[jz _ _ N])
  ·simp only[qA,seval]
theorem avo(c:Ct)(r O U V W X Y Z fT nb r1 r2 r3 c1 c3:T)(m:List (List Nat×Nat))(kn j1:List (Nat×Int))(R:List b8)(x:Ex)(b:T)(y:Fm)(F:T)(xY:Nat)(fr:Fr)(lh:iq b8)
  (TN:froz1 b=true) (C3:kept1 b=true) (D:froz1 F=true) (O4:kept1 F=true)
  (im:be pE 52 [.ptr .S 2 1 0,.i .i64 2,.agg [.i .i64 x.op,.i .i64 x.num,.s x.name,b]] (lL r m kn R)=some (.agg [.i .i64 y.op,.i .i64 y.num,F],lL r m j1 R))
  (h8:an fr 8= .ptr .L 37 1 0) (jH:an fr 14= .ptr .S 2 1 0) (mq:an fr 18= .ptr .L 18 xY 0) (C4:b7 lh 18=⟨xY,.cells [.i .i64 2,.i .i64 x.op,.i .i64 x.num,.s x.name,b] 0 true⟩) (H:b7 lh 37=⟨1,.cells (mz Y Z fT c r O U V W X (mL r1 r2 r3 c1 (.nilsl) c3 .nilsl nb)) 0 true⟩) (I:dE) (J:I=rP jq∨I=rQ jq):
  ∃f1 K,DC pE 232 I ⟨fr,lh,lL r m kn R⟩=some (.nrm,⟨f1,K,lL r m j1 (iH R R.length ⟨1,.cells [.i .i64 y.op,.i .i64 y.num,F] 0 false⟩)⟩)∧(∀k,(j2 jq).contains k=false→k≠37→b7 K k=b7 lh k)∧b7 K 37=⟨1,.cells (mz Y Z fT c r O U V W X (mL r1 r2 r3 c1 (.isl .S (R.length+7) 1 0 1 3) c3 .nilsl nb)) 0 true⟩:=by
 have Ff:=HZ
 unfold mz jB mL at H ⊢
 simp only[List.cons_append,List.nil_append]at H ⊢
 rcases J with rfl|rfl
 ·
  simp only[qA,seval,k9,repl,jI,iE,lj,jl,j3,jq,rP,h8,jH,mq,C4,H,im,ri,rZ,C3,D,jV,kl,iK,jx,iQ,jR,GL,sY,GM,Ff,jY,ko,tX,Nat.lt_succ_self]
  refine⟨_,_,rfl, ?_, ?_⟩
  ·intro k hk Fa
   have N:k≠111:=by rintro rfl;exact absurd hk (by decide)
   repeat (first|rw[jz _ _ Fa]|rw[jz _ _ N])
  ·simp only[qA,seval]
 ·
  simp only[qA,seval,k9,repl,jI,iE,lj,jl,j3,jq,rQ,h8,jH,mq,C4,H,im,ri,rZ,C3,D,jV,kl,iK,jx,iQ,jR,GL,sY,GM,Ff,jY,ko,tX,Nat.lt_succ_self]
  refine⟨_,_,rfl, ?_, ?_⟩
  ·intro k hk Fa
   have N:k≠111:=by rintro rfl;exact absurd hk (by decide)
   repeat (first|rw[jz _ _ Fa]|rw[jz _ _ N])
  ·simp only[qA,seval]
theorem avp(c:Ct)(r O U V W X Y Z fT nb r1 r2 r3 c1 c3:T)(m:List (List Nat×Nat))(kn j1:List (Nat×Int))(R:List b8)(x:Ex)(b:T)(y:Fm)(F:T)(xY:Nat)(i g n:Nat)(cs:List T)(hE:iz R i=⟨g,.cells cs 0 false⟩)(hn:n*3=cs.length)(Cv:n≤1000)(fr:Fr)(lh:iq b8)
  (TN:froz1 b=true) (C3:kept1 b=true) (D:froz1 F=true) (O4:kept1 F=true)
  (im:be pE 52 [.ptr .S 2 1 0,.i .i64 2,.agg [.i .i64 x.op,.i .i64 x.num,.s x.name,b]] (lL r m kn R)=some (.agg [.i .i64 y.op,.i .i64 y.num,F],lL r m j1 R))
  (h8:an fr 8= .ptr .L 37 1 0) (jH:an fr 14= .ptr .S 2 1 0) (mq:an fr 18= .ptr .L 18 xY 0) (C4:b7 lh 18=⟨xY,.cells [.i .i64 2,.i .i64 x.op,.i .i64 x.num,.s x.name,b] 0 true⟩) (H:b7 lh 37=⟨1,.cells (mz Y Z fT c r O U V W X (mL r1 r2 r3 c1 (.isl .S (i+7) g 0 n 3) c3 .nilsl nb)) 0 true⟩) (I:dE) (J:I=rP jq∨I=rQ jq):
  ∃f1 K,DC pE 232 I ⟨fr,lh,lL r m kn R⟩=some (.nrm,⟨f1,K,lL r m j1 (iH R i ⟨g+1,.cells (cs++ [.i .i64 y.op,.i .i64 y.num,F]) 0 false⟩)⟩)∧(∀k,(j2 jq).contains k=false→k≠37→b7 K k=b7 lh k)∧b7 K 37=⟨1,.cells (mz Y Z fT c r O U V W X (mL r1 r2 r3 c1 (.isl .S (i+7) (g+1) 0 (n+1) 3) c3 .nilsl nb)) 0 true⟩:=by
 have wD:(n+1)*40≤roomy:=CE Cv
 unfold mz jB mL at H ⊢
 simp only[List.cons_append,List.nil_append]at H ⊢
 rcases J with rfl|rfl
 ·
  simp only[qA,seval,k9,repl,jI,iE,lj,jl,j3,jq,rP,h8,jH,mq,C4,H,im,ri,rZ,C3,D,jV,kl,iK,ju,iQ,jS,jc,GL,sY,GM,jY,ko,mZ,tY,Nat.lt_succ_self,hE,hn,wD]
  refine⟨_,_,rfl, ?_, ?_⟩
  ·intro k hk Fa
   have N:k≠111:=by rintro rfl;exact absurd hk (by decide)
   repeat (first|rw[jz _ _ Fa]|rw[jz _ _ N])
  ·simp only[qA,seval]
 ·
  simp only[qA,seval,k9,repl,jI,iE,lj,jl,j3,jq,rQ,h8,jH,mq,C4,H,im,ri,rZ,C3,D,jV,kl,iK,ju,iQ,jS,jc,GL,sY,GM,jY,ko,mZ,tY,Nat.lt_succ_self,hE,hn,wD]
  refine⟨_,_,rfl, ?_, ?_⟩
  ·intro k hk Fa
   have N:k≠111:=by rintro rfl;exact absurd hk (by decide)
   repeat (first|rw[jz _ _ Fa]|rw[jz _ _ N])
  ·simp only[qA,seval]
theorem avq(c:Ct)(r O U V W X Y Z fT nb r1 r2 r3 c1 c2:T)(m:List (List Nat×Nat))(kn j1:List (Nat×Int))(R:List b8)(x:Ex)(b:T)(y:Fm)(F:T)(xY:Nat)(fr:Fr)(lh:iq b8)
  (TN:froz1 b=true) (C3:kept1 b=true) (D:froz1 F=true) (O4:kept1 F=true)
  (im:be pE 52 [.ptr .S 2 1 0,.i .i64 3,.agg [.i .i64 x.op,.i .i64 x.num,.s x.name,b]] (lL r m kn R)=some (.agg [.i .i64 y.op,.i .i64 y.num,F],lL r m j1 R))
  (h8:an fr 8= .ptr .L 37 1 0) (jH:an fr 14= .ptr .S 2 1 0) (mq:an fr 18= .ptr .L 18 xY 0) (C4:b7 lh 18=⟨xY,.cells [.i .i64 3,.i .i64 x.op,.i .i64 x.num,.s x.name,b] 0 true⟩) (H:b7 lh 37=⟨1,.cells (mz Y Z fT c r O U V W X (mL r1 r2 r3 c1 c2 (.nilsl) .nilsl nb)) 0 true⟩) (I:dE) (J:I=rP jq∨I=rQ jq):
  ∃f1 K,DC pE 232 I ⟨fr,lh,lL r m kn R⟩=some (.nrm,⟨f1,K,lL r m j1 (iH R R.length ⟨1,.cells [.i .i64 y.op,.i .i64 y.num,F] 0 false⟩)⟩)∧(∀k,(j2 jq).contains k=false→k≠37→b7 K k=b7 lh k)∧b7 K 37=⟨1,.cells (mz Y Z fT c r O U V W X (mL r1 r2 r3 c1 c2 (.isl .S (R.length+7) 1 0 1 3) .nilsl nb)) 0 true⟩:=by
 have Ff:=HZ
 unfold mz jB mL at H ⊢
 simp only[List.cons_append,List.nil_append]at H ⊢
 rcases J with rfl|rfl
 ·
  simp only[qA,seval,k9,repl,jI,iE,lj,jl,j3,jq,rP,h8,jH,mq,C4,H,im,ri,rZ,C3,D,jV,kl,iK,jx,iQ,jR,GL,sY,GM,Ff,jY,ko,tX,Nat.lt_succ_self]
  refine⟨_,_,rfl, ?_, ?_⟩
  ·intro k hk Fa
   have N:k≠111:=by rintro rfl;exact absurd hk (by decide)
   repeat (first|rw[jz _ _ Fa]|rw[jz _ _ N])
  ·simp only[qA,seval]
 ·
  simp only[qA,seval,k9,repl,jI,iE,lj,jl,j3,jq,rQ,h8,jH,mq,C4,H,im,ri,rZ,C3,D,jV,kl,iK,jx,iQ,jR,GL,sY,GM,Ff,jY,ko,tX,Nat.lt_succ_self]
  refine⟨_,_,rfl, ?_, ?_⟩
  ·intro k hk Fa
   have N:k≠111:=by rintro rfl;exact absurd hk (by decide)
   repeat (first|rw[jz _ _ Fa]|rw[jz _ _ N])
  ·simp only[qA,seval]
theorem avr(c:Ct)(r O U V W X Y Z fT nb r1 r2 r3 c1 c2:T)(m:List (List Nat×Nat))(kn j1:List (Nat×Int))(R:List b8)(x:Ex)(b:T)(y:Fm)(F:T)(xY:Nat)(i g n:Nat)(cs:List T)(hE:iz R i=⟨g,.cells cs 0 false⟩)(hn:n*3=cs.length)(Cv:n≤1000)(fr:Fr)(lh:iq b8)
  (TN:froz1 b=true) (C3:kept1 b=true) (D:froz1 F=true) (O4:kept1 F=true)
  (im:be pE 52 [.ptr .S 2 1 0,.i .i64 3,.agg [.i .i64 x.op,.i .i64 x.num,.s x.name,b]] (lL r m kn R)=some (.agg [.i .i64 y.op,.i .i64 y.num,F],lL r m j1 R))
  (h8:an fr 8= .ptr .L 37 1 0) (jH:an fr 14= .ptr .S 2 1 0) (mq:an fr 18= .ptr .L 18 xY 0) (C4:b7 lh 18=⟨xY,.cells [.i .i64 3,.i .i64 x.op,.i .i64 x.num,.s x.name,b] 0 true⟩) (H:b7 lh 37=⟨1,.cells (mz Y Z fT c r O U V W X (mL r1 r2 r3 c1 c2 (.isl .S (i+7) g 0 n 3) .nilsl nb)) 0 true⟩) (I:dE) (J:I=rP jq∨I=rQ jq):
  ∃f1 K,DC pE 232 I ⟨fr,lh,lL r m kn R⟩=some (.nrm,⟨f1,K,lL r m j1 (iH R i ⟨g+1,.cells (cs++ [.i .i64 y.op,.i .i64 y.num,F]) 0 false⟩)⟩)∧(∀k,(j2 jq).contains k=false→k≠37→b7 K k=b7 lh k)∧b7 K 37=⟨1,.cells (mz Y Z fT c r O U V W X (mL r1 r2 r3 c1 c2 (.isl .S (i+7) (g+1) 0 (n+1) 3) .nilsl nb)) 0 true⟩:=by
 have wD:(n+1)*40≤roomy:=CE Cv
 unfold mz jB mL at H ⊢
 simp only[List.cons_append,List.nil_append]at H ⊢
 rcases J with rfl|rfl
 ·
  simp only[qA,seval,k9,repl,jI,iE,lj,jl,j3,jq,rP,h8,jH,mq,C4,H,im,ri,rZ,C3,D,jV,kl,iK,ju,iQ,jS,jc,GL,sY,GM,jY,ko,mZ,tY,Nat.lt_succ_self,hE,hn,wD]
  refine⟨_,_,rfl, ?_, ?_⟩
  ·intro k hk Fa
   have N:k≠111:=by rintro rfl;exact absurd hk (by decide)
   repeat (first|rw[jz _ _ Fa]|rw[jz _ _ N])
  ·simp only[qA,seval]
 ·
  simp only[qA,seval,k9,repl,jI,iE,lj,jl,j3,jq,rQ,h8,jH,mq,C4,H,im,ri,rZ,C3,D,jV,kl,iK,ju,iQ,jS,jc,GL,sY,GM,jY,ko,mZ,tY,Nat.lt_succ_self,hE,hn,wD]
  refine⟨_,_,rfl, ?_, ?_⟩
  ·intro k hk Fa
   have N:k≠111:=by rintro rfl;exact absurd hk (by decide)
   repeat (first|rw[jz _ _ Fa]|rw[jz _ _ N])
  ·simp only[qA,seval]
theorem tm{fr:Fr}{lh:iq b8}{sh SH:List b8}{X:b8}(A: ∀F,(F=rP jq∨F=rQ jq)→ ∃H r,DC pE 232 F ⟨fr,lh,sh⟩=some (.nrm,⟨H,r,SH⟩)∧(∀k,(j2 jq).contains k=false→k≠37→b7 r k=b7 lh k)∧b7 r 37=X):
  ∃D i,DC pE 232 jq ⟨fr,lh,sh⟩=some (.nrm,⟨D,i,SH⟩)∧(∀k,(j2 jq).contains k=false→an D k=an fr k)∧(∀k,(j2 jq).contains k=false→k≠37→b7 i k=b7 lh k)∧b7 i 37=X:=by
 obtain⟨H,r,N,I,x1⟩:=A _ (.inl rfl)
 obtain⟨Y,Z,O,U,x2⟩:=A _ (.inr rfl)
 obtain⟨D,i,V,W,J⟩:=acx (by rfl) N O (fun k hk=>by
  by_cases h:k=37
  ·subst h;rw[x1,x2]
  ·rw[I k hk h,U k hk h])
 exact⟨D,i,V,W,fun j K h=>(J j K).trans (I j K h),(J 37 (by decide)).trans x1⟩
theorem aCY{fr:Fr}{lh:iq b8}{D:Option (Out×St)}(c:Ct)(J a8 a9 iv iy iw zT aT fT nb Y Z r3 K N O:T)(m:List (List Nat×Nat))(kn j1:List (Nat×Int))(R:List b8)(x:Ex)(b:T)(y:Fm)(r:T)(xY:Nat)(sc:Int)(k:Nat)(nk:sc=1∨sc=2∨sc=3)(hk:k≤900)(l1 l2 l3 k1 k2 k3:RL)(qw:lK R k (nE Y Z r3 K N O .nilsl l1 l2 l3 k1 k2 k3 []))(hy:oB y [.i .i64 y.op,.i .i64 y.num,r])(po:y.sz≤1000)
  (TN:froz1 b=true) (C3:kept1 b=true) (I:froz1 r=true) (O4:kept1 r=true)
  (im:be pE 52 [.ptr .S 2 1 0,.i .i64 sc,.agg [.i .i64 x.op,.i .i64 x.num,.s x.name,b]] (lL J m kn R)=some (.agg [.i .i64 y.op,.i .i64 y.num,r],lL J m j1 R))
  (hD:DC pE 232 jq ⟨fr,lh,lL J m kn R⟩=D)
  (h8:an fr 8= .ptr .L 37 1 0) (jH:an fr 14= .ptr .S 2 1 0) (mq:an fr 18= .ptr .L 18 xY 0) (C4:b7 lh 18=⟨xY,.cells [.i .i64 sc,.i .i64 x.op,.i .i64 x.num,.s x.name,b] 0 true⟩) (j5:b7 lh 37=⟨1,.cells (mz zT aT fT c J a8 a9 iv iy iw (mL Y Z r3 K N O .nilsl nb)) 0 true⟩):
  ∃H F R' c1' c2' c3',D=some (.nrm,⟨H,F,lL J m j1 R'⟩)∧lK R' (k+1) (nE Y Z r3 c1' c2' c3' .nilsl l1 l2 l3 (if sc=1 then k1++ [([],y)]else k1) (if sc=2 then k2++ [([],y)]else k2) (if sc=3 then k3++ [([],y)]else k3) [])∧(∀k,(j2 jq).contains k=false→an H k=an fr k)∧(∀k,(j2 jq).contains k=false→k≠37→b7 F k=b7 lh k)∧b7 F 37=⟨1,.cells (mz zT aT fT c J a8 a9 iv iy iw (mL Y Z r3 c1' c2' c3' .nilsl nb)) 0 true⟩:=by
 have zw:Ac 3 [([],y)] [.i .i64 y.op,.i .i64 y.num,r]:=by
  have:=(Ac.nil 3).app3 ([],y) _ hy po
  simpa using this
 rcases nk with rfl|rfl|rfl
 ·rcases qw.1 (3,K,k1) (by simp[nE])with⟨mR,Bx⟩|⟨i,g,n,cs,hv,hE,hi,hn,hB,ZJ⟩
  ·simp only at mR Bx
   subst mR Bx
   have wz:=(qw.mono (Nat.le_succ k)).new (by omega) 3 (by simp[nE]) (sz:=3) rfl [.i .i64 y.op,.i .i64 y.num,r] rfl _ zw
   obtain⟨H,F,U,V,W,X⟩:=tm (avm c J a8 a9 iv iy iw zT aT fT nb Y Z r3 N O m kn j1 R x b y r xY fr lh TN C3 I O4 im h8 jH mq C4 j5)
   exact⟨H,F,_,_,N,O,hD.symm.trans U,wz,V,W,X⟩
  ·simp only at hv
   subst hv
   have A0:=qw.app 3 (by simp[nE]) (sz:=3) rfl rfl hE hi hn hB [.i .i64 y.op,.i .i64 y.num,r] rfl _ (ZJ.app3 ([],y) _ hy po) (g+1)
   obtain⟨H,F,U,V,W,X⟩:=tm (avn c J a8 a9 iv iy iw zT aT fT nb Y Z r3 N O m kn j1 R x b y r xY i g n cs hE hn (by omega) fr lh TN C3 I O4 im h8 jH mq C4 j5)
   exact⟨H,F,_,_,N,O,hD.symm.trans U,A0,V,W,X⟩
 ·rcases qw.1 (3,N,k2) (by simp[nE])with⟨mR,Bx⟩|⟨i,g,n,cs,hv,hE,hi,hn,hB,ZJ⟩
  ·simp only at mR Bx
   subst mR Bx
   have wz:=(qw.mono (Nat.le_succ k)).new (by omega) 4 (by simp[nE]) (sz:=3) rfl [.i .i64 y.op,.i .i64 y.num,r] rfl _ zw
   obtain⟨H,F,U,V,W,X⟩:=tm (avo c J a8 a9 iv iy iw zT aT fT nb Y Z r3 K O m kn j1 R x b y r xY fr lh TN C3 I O4 im h8 jH mq C4 j5)
   exact⟨H,F,_,K,_,O,hD.symm.trans U,wz,V,W,X⟩
  ·simp only at hv
   subst hv
   have A0:=qw.app 4 (by simp[nE]) (sz:=3) rfl rfl hE hi hn hB [.i .i64 y.op,.i .i64 y.num,r] rfl _ (ZJ.app3 ([],y) _ hy po) (g+1)
   obtain⟨H,F,U,V,W,X⟩:=tm (avp c J a8 a9 iv iy iw zT aT fT nb Y Z r3 K O m kn j1 R x b y r xY i g n cs hE hn (by omega) fr lh TN C3 I O4 im h8 jH mq C4 j5)
   exact⟨H,F,_,K,_,O,hD.symm.trans U,A0,V,W,X⟩
 ·rcases qw.1 (3,O,k3) (by simp[nE])with⟨mR,Bx⟩|⟨i,g,n,cs,hv,hE,hi,hn,hB,ZJ⟩
  ·simp only at mR Bx
   subst mR Bx
   have wz:=(qw.mono (Nat.le_succ k)).new (by omega) 5 (by simp[nE]) (sz:=3) rfl [.i .i64 y.op,.i .i64 y.num,r] rfl _ zw
   obtain⟨H,F,U,V,W,X⟩:=tm (avq c J a8 a9 iv iy iw zT aT fT nb Y Z r3 K N m kn j1 R x b y r xY fr lh TN C3 I O4 im h8 jH mq C4 j5)
   exact⟨H,F,_,K,N,_,hD.symm.trans U,wz,V,W,X⟩
  ·simp only at hv
   subst hv
   have A0:=qw.app 5 (by simp[nE]) (sz:=3) rfl rfl hE hi hn hB [.i .i64 y.op,.i .i64 y.num,r] rfl _ (ZJ.app3 ([],y) _ hy po) (g+1)
   obtain⟨H,F,U,V,W,X⟩:=tm (avr c J a8 a9 iv iy iw zT aT fT nb Y Z r3 K N m kn j1 R x b y r xY i g n cs hE hn (by omega) fr lh TN C3 I O4 im h8 jH mq C4 j5)
   exact⟨H,F,_,K,N,_,hD.symm.trans U,A0,V,W,X⟩
theorem nwc(c:Ct)(r J:T)(c7 c9:List T)(i7:IsSl r c.cs.length c7)(j7:mh c.cs c7)(i9:IsSl J c.co.length c9)(j9:iA ZY c.co c9)(hlen:c.co.length≤40)(tW: ∀u∈c.co,Se c.cs u.sc u.x)(Y Z fT a8 iv iy iw nb K N O:T)(k2 k3 uK:b8)(Ek:List (Nat×Int))(AZ:oI c.cs Ek)(R0:List b8)(l1 l2 l3:RL)(I0:lK R0 40 (nE K N O .nilsl .nilsl .nilsl .nilsl l1 l2 l3 [] [] [] []))(fr:Fr)(lh:iq b8)(sh:List b8)(lU:sh=lL r (jt c.cs c.cs.length) Ek R0)
  (h8:an fr 8= .ptr .L 37 1 0) (jH:an fr 14= .ptr .S 2 1 0) (Nq:an fr 105=J) (K0:an fr 106= .i .i64 (c.co.length:Int)) (K1:an fr 107= .i .i64 0) (o2:b7 lh 2=k2) (o3:b7 lh 3=k3) (mE:b7 lh 35=uK) (j5:b7 lh 37=⟨1,.cells (mz Y Z fT c r a8 J iv iy iw (mL K N O .nilsl .nilsl .nilsl .nilsl nb)) 0 true⟩):
  wS 232 pY fr lh sh (.ext 6)∧
  (b7 (n5 pE 232 pY fr lh sh) 2=k2∧b7 (n5 pE 232 pY fr lh sh) 3=k3∧b7 (n5 pE 232 pY fr lh sh) 35=uK∧ ∃(R:List b8) (kn:List (Nat×Int)) (F H I:T),oH pE 232 pY fr lh sh=lL r (jt c.cs c.cs.length) kn R∧oI c.cs kn∧lK R 80 (nE K N O F H I .nilsl l1 l2 l3 (Ca c 1 c.co.length) (Ca c 2 c.co.length) (Ca c 3 c.co.length) [])∧b7 (n5 pE 232 pY fr lh sh) 37=⟨1,.cells (mz Y Z fT c r a8 J iv iy iw (mL K N O F H I .nilsl nb)) 0 true⟩):=by
 refine jJ (P:=fun X U iT=>b7 U 2=k2∧b7 U 3=k3∧b7 U 35=uK∧ ∃(R:List b8) (kn:List (Nat×Int)) (F H I:T),iT=lL r (jt c.cs c.cs.length) kn R∧oI c.cs kn∧lK R 80 (nE K N O F H I .nilsl l1 l2 l3 (Ca c 1 c.co.length) (Ca c 2 c.co.length) (Ca c 3 c.co.length) [])∧b7 U 37=⟨1,.cells (mz Y Z fT c r a8 J iv iy iw (mL K N O F H I .nilsl nb)) 0 true⟩)
  (j6 (fun k st=> ∃(fr:Fr) (V:iq b8) (R:List b8) (kn:List (Nat×Int)) (F H I:T),st=⟨fr,V,lL r (jt c.cs c.cs.length) kn R⟩∧oI c.cs kn∧lK R (40+k) (nE K N O F H I .nilsl l1 l2 l3 (Ca c 1 k) (Ca c 2 k) (Ca c 3 k) [])∧an fr 8= .ptr .L 37 1 0∧an fr 14= .ptr .S 2 1 0∧an fr 105=J∧an fr 106= .i .i64 (c.co.length:Int)∧an fr 107= .i .i64 (k:Int)∧b7 V 2=k2∧b7 V 3=k3∧b7 V 35=uK∧b7 V 37=⟨1,.cells (mz Y Z fT c r a8 J iv iy iw (mL K N O F H I .nilsl nb)) 0 true⟩) _ c.co.length ?_ ?_ 0 _ (Nat.zero_le _) ⟨fr,lh,R0,Ek,.nilsl,.nilsl,.nilsl,by rw[lU],AZ,I0,h8,jH,Nq,K0,K1,o2,o3,mE,j5⟩)
 ·rintro k _ hk ⟨fr,V,R,kn,F,H,I,rfl,qn,qw,h8,jH,Nq,K0,K1,o2,o3,mE,j5⟩
  left
  have iX:(k:Int)<c.co.length:=by omega
  have hw:=iN (k:=k) (by omega)
  obtain⟨b,cb,rr,jg,m9,hb⟩:=QD i9 j9 k hk
  obtain⟨nk,W,t,Ab⟩:=tW c.co[k] (List.getElem_mem hk)
  have El:=(pg W).1
  obtain⟨cf,j1,im,yX,oJ,_⟩:=HX c.cs r R c.cs.length (Nat.le_refl _) (HY c.cs r R c7 i7 j7) c.co[k].sc (.inr nk) c.co[k].x t kn _ qn hb El (oz W) (by rw[Em];exact Ab)
  have po:=CD (qd c.cs) c.co[k].sc c.co[k].x
  have s1:=E9 c 1 hk
  have s2:=E9 c 2 hk
  have s3:=E9 c 3 hk
  generalize c.co[k]=u at*
  generalize comp (qd c.cs) u.sc u.x=y at*
  obtain⟨fa,fc,rfl,B7,hf2⟩:=yX.cells
  simp only[qA,seval,pY,Nq,K0,K1,iX,jg]
  generalize hD:DC pE 232 jq _=D
  obtain⟨X,U,R',c1',c2',c3',rfl,hR',q2,q3,q4⟩:=aCY c r a8 J iv iy iw Y Z fT nb K N O F H I _ kn j1 R u.x b y fa ((b7 V 18).g+1) u.sc (40+k) nk (by omega) l1 l2 l3 _ _ _ qw yX (by omega) m9.froz1 m9.kept1 B7.froz1 B7.kept1 im hD (by simp only[qA,seval,h8]) (by simp only[qA,seval,jH]) (by simp only[qA,seval]) (by simp only[qA,seval]) (by simp only[qA,seval,j5])
  rw[←s1,←s2,←s3]at hR'
  have f8:an X 8= .ptr .L 37 1 0:=by rw[q2 8 (by decide)];simp only[qA,seval,h8]
  have f14:an X 14= .ptr .S 2 1 0:=by rw[q2 14 (by decide)];simp only[qA,seval,jH]
  have f105:an X 105=J:=by rw[q2 105 (by decide)];simp only[qA,seval,Nq]
  have f106:an X 106= .i .i64 (c.co.length:Int):=by rw[q2 106 (by decide)];simp only[qA,seval,K0]
  have f107:an X 107= .i .i64 (k:Int):=by rw[q2 107 (by decide)];simp only[qA,seval,K1]
  have p2:b7 U 2=k2:=by rw[q3 2 (by decide) (by decide)];simp only[qA,seval,o2]
  have p3:b7 U 3=k3:=by rw[q3 3 (by decide) (by decide)];simp only[qA,seval,o3]
  have p35:b7 U 35=uK:=by rw[q3 35 (by decide) (by decide)];simp only[qA,seval,mE]
  simp only[qA,seval,f107,hw]
  refine⟨_,rfl,_,_,R',j1,c1',c2',c3',rfl,oJ,hR', ?_, ?_, ?_, ?_, ?_, ?_, ?_, ?_, ?_⟩
  all_goals (simp only[qA,seval,f8,f14,f105,f106,p2,p3,p35,q4])
 ·rintro _ ⟨fr,V,R,kn,F,H,I,rfl,qn,qw,h8,jH,Nq,K0,K1,o2,o3,mE,j5⟩
  simp only[qA,seval,pY,K0,K1,Int.lt_irrefl]
  exact⟨_,_,uO,rfl,rfl,o2,o3,mE,R,kn,F,H,I,rfl,qn,qw.mono (by omega),j5⟩
end Go.Proofs.YtcpceiclnbmgiaaGreat
