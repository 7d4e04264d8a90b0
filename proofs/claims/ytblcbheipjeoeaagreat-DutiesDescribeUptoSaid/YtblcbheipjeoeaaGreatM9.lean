/- Walks of functions of the program and of the reference, and their plain laws, part 9. Conditions: the theorems' own. -/
import Derived.Test.YtblcbheipjeoeaaGreatM8
import Derived.KernelRfl
set_option maxRecDepth 100000
set_option linter.unusedSimpArgs false
set_option linter.unusedVariables false
set_option maxHeartbeats 16000000
namespace Go.Proofs.YtblcbheipjeoeaaGreat
open Go Go.Ev
theorem azd(s:List Nat)(o:Out)(I:o=if FW s then .ret else .ext 0)(fr:Fr)(lh:hJ gR)(sh:List gR)(D:an fr 0= .s s)(r:an fr 3= .i .i64 1):
  kV 18 sn fr lh sh o∧((FW s→an (kh pE 18 sn fr lh sh) 2= .b true)∧kH pE 18 sn fr lh sh=lh∧kb pE 18 sn fr lh sh=sh):=by
 refine ib (P:=fun J K N=>(FW s→an J 2= .b true)∧K=lh∧N=sh) (ij (fun j st=> ∃fr:Fr,st=⟨fr,lh,sh⟩∧an fr 0= .s s∧an fr 3= .i .i64 ((j:Int)+1)∧atX s j) _ 3 ?_ ?_ 0 _ (Nat.zero_le _) ⟨fr,rfl,D,r,fun i h=>by omega⟩)
 ·rintro j _ U ⟨fr,rfl,D,r,t⟩
  have E:=AB ((j:Int)+1) s
  unfold tW at E
  have F:(j:Int)+1≤3:=by omega
  have O:wr .i64 ((j:Int)+1+1)=((j+1:Nat):Int)+1:=by
   have:=iD (k:=j+1) (ku (by omega))
   push_cast at this ⊢
   exact this
  by_cases C:ki ((j:Int)+1) s=0
  ·left
   rw[if_pos C,C]at E
   simp only[qA,seval,sn,D,r,F,O,E,wq]
   refine⟨_,rfl,_,rfl, ?_, ?_, ?_⟩
   ·simp only[qA,seval,D]
   ·simp only[qA,seval]
   ·intro i h
    by_cases e:i=j
    ·subst e;exact C
    ·exact t i (by omega)
  ·right
   rw[if_neg C]at E
   have H:FW s:=by
    unfold FW
    have:j=0∨j=1∨j=2:=by omega
    rcases this with rfl|rfl|rfl
    ·exact .inl C
    ·exact .inr (.inl C)
    ·exact .inr (.inr C)
   simp only[qA,seval,sn,D,r,F,E,wq]
   exact⟨_,_,jJ,rfl,by rw[I,if_pos H],fun _=>by simp only[qA,seval],rfl,rfl⟩
 ·rintro _ ⟨fr,rfl,D,r,t⟩
  have H: ¬FW s:=by
   unfold FW
   rintro(h|h|h)
   ·exact h (t 0 (by decide))
   ·exact h (t 1 (by decide))
   ·exact h (t 2 (by decide))
  rw[show((3:Nat):Int)+1=4 from rfl]at r
  simp only[qA,seval,sn,r]
  exact⟨_,_,jB,rfl,by rw[I,if_neg H],fun h=>absurd h H,rfl,rfl⟩
theorem Ti(s:List Nat):gS pE 156 [.s s] []=some (.b (decide (FW s)),[]):=by
 have i:=fun fr lh sh r C=>azd s _ rfl fr lh sh r C
 rw[gX aep (by simp[QD])]
 by_cases h:FW s
 ·simp only[h,if_true,forall_const]at i
  simp only[qA,seval,QD,i,h]
 ·simp only[h,if_false,false_implies,true_and]at i
  simp only[qA,seval,QD,i,h]
section
variable(c:Ct)(a7 a8 a9 a10 hZ hU:T)(hT:xG c a7 a8 a9 a10 hZ hU)(hS:AK c)
include hT hS
theorem Je(scope r:Int)(x:Ex)(cs:List T)(F:lK x cs)(H:Mc x):gS pE 157 [.agg (iS c a7 a8 a9 a10 hZ hU),.i .i64 scope,.agg cs,.i .i64 r] []=some (.i .i64 (FO c.cs scope x r),[]):=by
 obtain⟨⟨K,C,N⟩,⟨Y,Z,j8⟩,⟨c9,i9,j9⟩,⟨vv,O,vw⟩,⟨yg,U,xH⟩,⟨yY,V,yt⟩⟩:=hT
 have D:=E3 c.cs a7 K C N hS.s7.2 hS.s7.1 scope x cs F H.1 H.2
 obtain⟨a,cc,rfl,E,BB⟩:=F.cells
 rw[gX Vc (by simp[Mo])]
 unfold FO iS
 generalize sN c.cs scope x=q at*
 obtain⟨W,X⟩:=q
 simp only at D ⊢
 by_cases I:X=0
 ·subst I
  by_cases J:W=r
  ·subst J
   simp only[qA,seval,Mo,D,Dn,E.froz1,C.froz]
  ·simp only[qA,seval,Mo,D,Dn,E.froz1,C.froz,J]
 ·simp only[qA,seval,Mo,D,Dn,E.froz1,C.froz,I]
theorem aze(r:Int)(C:r=Th c.cs 0 c.cs)(o:Out)(Y:o=if r=0 then .ext 0 else .ret)(fr:Fr)(lh:hJ gR)(sh:List gR)
  (F:an fr 1= .ptr .L 1 1 0) (hi:an fr 4= .i .i64 0) (D:a6 lh 1=⟨1,.cells (iS c a7 a8 a9 a10 hZ hU) 0 true⟩):
  kV 114 tc fr lh sh o∧
  ((r≠0→an (kh pE 114 tc fr lh sh) 2= .i .i64 r)∧a6 (kH pE 114 tc fr lh sh) 1=⟨1,.cells (iS c a7 a8 a9 a10 hZ hU) 0 true⟩∧kb pE 114 tc fr lh sh=sh):=by
 obtain⟨⟨U,V,Z⟩,⟨c8,i8,j8⟩,⟨c9,i9,j9⟩,⟨vv,i10,vw⟩,⟨yg,i11,xH⟩,⟨yY,i12,yt⟩⟩:=hT
 have hlen:=hS.s7.2
 have qJ:=hS.s7.1
 refine ib (P:=fun iq il iw=>(r≠0→an iq 2= .i .i64 r)∧a6 il 1=⟨1,.cells (iS c a7 a8 a9 a10 hZ hU) 0 true⟩∧iw=sh)
  (ij (fun k st=> ∃(fr:Fr) (K:hJ gR),st=⟨fr,K,sh⟩∧an fr 1= .ptr .L 1 1 0∧an fr 4= .i .i64 (k:Int)∧a6 K 1=⟨1,.cells (iS c a7 a8 a9 a10 hZ hU) 0 true⟩∧r=Th c.cs k (c.cs.drop k)) _ c.cs.length ?_ ?_ 0 _ (Nat.zero_le _) ⟨fr,lh,rfl,F,hi,D,by rw[C];rfl⟩)
 ·rintro k _ H ⟨fr,K,rfl,F,hi,D,C⟩
  have W:(k:Int)<c.cs.length:=by omega
  have N:k≤c.cs.length:=Nat.le_of_lt H
  have hw:=iD (k:=k) (by omega)
  rw[List.drop_eq_getElem_cons H,Th]at C
  have E: ∀e:Int,e≠0→r=e→o= .ret:=fun e he h=>by rw[Y,h,if_neg he]
  obtain⟨b,cb,rr,X,jE,oV,hb⟩:=lL V Z k H
  obtain⟨Qf,N5⟩:=qJ c.cs[k] (List.getElem_mem H)
  have I:=Ti c.cs[k].1
  obtain⟨ex,rfl,rE,yk,N6⟩:=Qn c.cs a7 U H V Z
  have lB:(c.cs.take k).length=k:=by rw[List.length_take,Nat.min_eq_left N]
  have O:=E3 (c.cs.take k) (.sl (List.take (k*5) U) k (ex&&decide (k=c.cs.length))) (U.take (k*5)) (by rw[lB];exact rE) yk (by rw[lB];omega) (LS c.cs qJ k) 0 c.cs[k].2 _ hb Qf N5
  rw[Fe c.cs N,←IX c.cs H]at O
  generalize wa c.cs k=q at*
  obtain⟨q1,q2⟩:=q
  simp only at O C
  generalize c.cs[k]=u at*
  unfold iS at D ⊢
  by_cases hs:FW u.1
  ·right
   rw[if_pos hs]at C
   rw[decide_eq_true hs]at I
   simp only[qA,seval,tc,F,hi,D,W,X,I,Vb]
   refine⟨_,_,jJ,rfl,(E _ (by decide) C).symm,fun _=> ?_, ?_,rfl⟩ <;> simp only[qA,seval,C,D]
  rw[if_neg hs]at C
  rw[decide_eq_false hs]at I
  by_cases J:q2=0
  ·left
   rw[if_neg (by simp[J])]at C
   subst J
   simp only[qA,seval,u9,iR,iy,tc,F,hi,D,W,X,jE.froz1,I,Vb,hw,N,N6,Nat.sub_zero,O,Dn,Oq]
   refine⟨_,rfl,_,_,rfl, ?_, ?_, ?_,C⟩
   all_goals (simp only[qA,seval,F,D])
  ·right
   rw[if_pos J]at C
   simp only[qA,seval,u9,iR,iy,tc,F,hi,D,W,X,jE.froz1,I,Vb,N,N6,Nat.sub_zero,O,Dn,Oq,J]
   refine⟨_,_,jJ,rfl,(E _ J C).symm,fun _=> ?_, ?_,rfl⟩ <;> simp only[qA,seval,C,D]
 ·rintro _ ⟨fr,K,rfl,F,hi,D,C⟩
  rw[List.drop_length,Th]at C
  unfold iS at D ⊢
  simp only[qA,seval,tc,F,hi,D,V.lenI,Int.lt_irrefl]
  exact⟨_,_,jB,rfl,by rw[Y,C];rfl,fun h=>absurd C h,D,rfl⟩
theorem azf(r:Int)(C:r=Nw c.cs c.ru)(o:Out)(X:o=if r=0 then .ext 2 else .ret)(fr:Fr)(lh:hJ gR)(sh:List gR)
  (E:an fr 1= .ptr .L 1 1 0) (hi:an fr 7= .i .i64 0) (D:a6 lh 1=⟨1,.cells (iS c a7 a8 a9 a10 hZ hU) 0 true⟩):
  kV 114 uC fr lh sh o∧
  ((r≠0→an (kh pE 114 uC fr lh sh) 2= .i .i64 r)∧a6 (kH pE 114 uC fr lh sh) 1=⟨1,.cells (iS c a7 a8 a9 a10 hZ hU) 0 true⟩∧kb pE 114 uC fr lh sh=sh):=by
 have V:=hT
 obtain⟨⟨c7,Y,j7⟩,⟨c8,I,j8⟩,⟨c9,Z,j9⟩,⟨vv,J,vw⟩,⟨yg,K,xH⟩,⟨yY,N,yt⟩⟩:=hT
 have hlen:=hS.s8.2
 have qJ:=hS.s8.1
 refine ib (P:=fun iq il iw=>(r≠0→an iq 2= .i .i64 r)∧a6 il 1=⟨1,.cells (iS c a7 a8 a9 a10 hZ hU) 0 true⟩∧iw=sh)
  (ij (fun k st=> ∃(fr:Fr) (U:hJ gR),st=⟨fr,U,sh⟩∧an fr 1= .ptr .L 1 1 0∧an fr 7= .i .i64 (k:Int)∧a6 U 1=⟨1,.cells (iS c a7 a8 a9 a10 hZ hU) 0 true⟩∧r=Nw c.cs (c.ru.drop k)) _ c.ru.length ?_ ?_ 0 _ (Nat.zero_le _) ⟨fr,lh,rfl,E,hi,D,by rw[C];rfl⟩)
 ·rintro k _ W ⟨fr,U,rfl,E,hi,D,C⟩
  have iu:(k:Int)<c.ru.length:=by omega
  have hw:=iD (k:=k) (by omega)
  rw[List.drop_eq_getElem_cons W,Nw]at C
  have F: ∀e:Int,e≠0→r=e→o= .ret:=fun e he h=>by rw[X,h,if_neg he]
  obtain⟨b,cb,rr,iv,jE,hb⟩:=Ck I j8 k W
  have H:=Je c a7 a8 a9 a10 hZ hU V hS c.ru[k].sc 4 c.ru[k].x _ hb (qJ c.ru[k] (List.getElem_mem W))
  generalize c.ru[k]=u at*
  generalize FO c.cs u.sc u.x 4=q at*
  unfold iS at D H ⊢
  by_cases O:q=0
  ·left
   rw[if_neg (by simp[O])]at C
   subst O
   simp only[qA,seval,iR,iy,uC,E,hi,D,I.lenI,iu,iv,jE.froz1,Y.froz1,I.froz1,Z.froz1,J.froz1,K.froz1,N.froz1,H,Gh,Gi,hw]
   refine⟨_,rfl,_,_,rfl, ?_, ?_, ?_,C⟩
   all_goals (simp only[qA,seval,E,D])
  ·right
   rw[if_pos O]at C
   simp only[qA,seval,iR,iy,uC,E,hi,D,I.lenI,iu,iv,jE.froz1,Y.froz1,I.froz1,Z.froz1,J.froz1,K.froz1,N.froz1,H,Gh,Gi,O]
   refine⟨_,_,jJ,rfl,(F _ O C).symm,fun _=> ?_, ?_,rfl⟩ <;> simp only[qA,seval,C,D]
 ·rintro _ ⟨fr,U,rfl,E,hi,D,C⟩
  rw[List.drop_length,Nw]at C
  unfold iS at D ⊢
  simp only[qA,seval,uC,E,hi,D,I.lenI,Int.lt_irrefl]
  exact⟨_,_,jB,rfl,by rw[X,C];rfl,fun h=>absurd C h,D,rfl⟩
theorem azg(r:Int)(C:r=Nx c.cs c.co)(o:Out)(X:o=if r=0 then .ext 4 else .ret)(fr:Fr)(lh:hJ gR)(sh:List gR)
  (E:an fr 1= .ptr .L 1 1 0) (hi:an fr 9= .i .i64 0) (D:a6 lh 1=⟨1,.cells (iS c a7 a8 a9 a10 hZ hU) 0 true⟩):
  kV 114 uB fr lh sh o∧
  ((r≠0→an (kh pE 114 uB fr lh sh) 2= .i .i64 r)∧a6 (kH pE 114 uB fr lh sh) 1=⟨1,.cells (iS c a7 a8 a9 a10 hZ hU) 0 true⟩∧kb pE 114 uB fr lh sh=sh):=by
 have V:=hT
 obtain⟨⟨c7,Y,j7⟩,⟨c8,Z,j8⟩,⟨c9,I,j9⟩,⟨vv,J,vw⟩,⟨yg,K,xH⟩,⟨yY,N,yt⟩⟩:=hT
 have hlen:=hS.s9.2
 have qJ:=hS.s9.1
 refine ib (P:=fun iq il iw=>(r≠0→an iq 2= .i .i64 r)∧a6 il 1=⟨1,.cells (iS c a7 a8 a9 a10 hZ hU) 0 true⟩∧iw=sh)
  (ij (fun k st=> ∃(fr:Fr) (U:hJ gR),st=⟨fr,U,sh⟩∧an fr 1= .ptr .L 1 1 0∧an fr 9= .i .i64 (k:Int)∧a6 U 1=⟨1,.cells (iS c a7 a8 a9 a10 hZ hU) 0 true⟩∧r=Nx c.cs (c.co.drop k)) _ c.co.length ?_ ?_ 0 _ (Nat.zero_le _) ⟨fr,lh,rfl,E,hi,D,by rw[C];rfl⟩)
 ·rintro k _ W ⟨fr,U,rfl,E,hi,D,C⟩
  have iu:(k:Int)<c.co.length:=by omega
  have hw:=iD (k:=k) (by omega)
  rw[List.drop_eq_getElem_cons W,Nx]at C
  have F: ∀e:Int,e≠0→r=e→o= .ret:=fun e he h=>by rw[X,h,if_neg he]
  obtain⟨b,cb,rr,iv,jE,hb⟩:=Ez I j9 k W
  have H:=Je c a7 a8 a9 a10 hZ hU V hS c.co[k].sc 1 c.co[k].x _ hb (qJ c.co[k] (List.getElem_mem W))
  generalize c.co[k]=u at*
  generalize FO c.cs u.sc u.x 1=q at*
  unfold iS at D H ⊢
  by_cases O:q=0
  ·left
   rw[if_neg (by simp[O])]at C
   subst O
   simp only[qA,seval,iR,iy,uB,E,hi,D,I.lenI,iu,iv,jE.froz1,Y.froz1,Z.froz1,I.froz1,J.froz1,K.froz1,N.froz1,H,Gh,Gi,hw]
   refine⟨_,rfl,_,_,rfl, ?_, ?_, ?_,C⟩
   all_goals (simp only[qA,seval,E,D])
  ·right
   rw[if_pos O]at C
   simp only[qA,seval,iR,iy,uB,E,hi,D,I.lenI,iu,iv,jE.froz1,Y.froz1,Z.froz1,I.froz1,J.froz1,K.froz1,N.froz1,H,Gh,Gi,O]
   refine⟨_,_,jJ,rfl,(F _ O C).symm,fun _=> ?_, ?_,rfl⟩ <;> simp only[qA,seval,C,D]
 ·rintro _ ⟨fr,U,rfl,E,hi,D,C⟩
  rw[List.drop_length,Nx]at C
  unfold iS at D ⊢
  simp only[qA,seval,uB,E,hi,D,I.lenI,Int.lt_irrefl]
  exact⟨_,_,jB,rfl,by rw[X,C];rfl,fun h=>absurd C h,D,rfl⟩
theorem azh(r:Int)(D:r=PF c.cs c.cr)(o:Out)(W:o=if r=0 then .ext 6 else .ret)(fr:Fr)(lh:hJ gR)(sh:List gR)
  (F:an fr 1= .ptr .L 1 1 0) (hi:an fr 11= .i .i64 0) (E:a6 lh 1=⟨1,.cells (iS c a7 a8 a9 a10 hZ hU) 0 true⟩):
  kV 114 wj fr lh sh o∧
  ((r≠0→an (kh pE 114 wj fr lh sh) 2= .i .i64 r)∧a6 (kH pE 114 wj fr lh sh) 1=⟨1,.cells (iS c a7 a8 a9 a10 hZ hU) 0 true⟩∧kb pE 114 wj fr lh sh=sh):=by
 have U:=hT
 obtain⟨⟨c7,X,j7⟩,⟨c8,Y,j8⟩,⟨c9,Z,j9⟩,⟨vv,C,vw⟩,⟨yg,J,xH⟩,⟨yY,K,yt⟩⟩:=hT
 have hlen:=hS.s10.2
 have qJ:=hS.s10.1
 refine ib (P:=fun iq il iw=>(r≠0→an iq 2= .i .i64 r)∧a6 il 1=⟨1,.cells (iS c a7 a8 a9 a10 hZ hU) 0 true⟩∧iw=sh)
  (ij (fun k st=> ∃(fr:Fr) (O:hJ gR),st=⟨fr,O,sh⟩∧an fr 1= .ptr .L 1 1 0∧an fr 11= .i .i64 (k:Int)∧a6 O 1=⟨1,.cells (iS c a7 a8 a9 a10 hZ hU) 0 true⟩∧r=PF c.cs (c.cr.drop k)) _ c.cr.length ?_ ?_ 0 _ (Nat.zero_le _) ⟨fr,lh,rfl,F,hi,E,by rw[D];rfl⟩)
 ·rintro k _ V ⟨fr,O,rfl,F,hi,E,D⟩
  have iu:(k:Int)<c.cr.length:=by omega
  have hw:=iD (k:=k) (by omega)
  rw[List.drop_eq_getElem_cons V,PF]at D
  have H: ∀e:Int,e≠0→r=e→o= .ret:=fun e he h=>by rw[W,h,if_neg he]
  obtain⟨b,cb,rr,iv,jE,oV,hb⟩:=mY C vw k V
  have I:=Je c a7 a8 a9 a10 hZ hU U hS 1 2 c.cr[k] _ hb (qJ c.cr[k] (List.getElem_mem V))
  generalize c.cr[k]=u at*
  generalize FO c.cs 1 u 2=q at*
  unfold iS at E I ⊢
  by_cases N:q=0
  ·left
   rw[if_neg (by simp[N])]at D
   subst N
   simp only[qA,seval,iR,iy,wj,F,hi,E,C.lenI,iu,iv,jE.froz1,X.froz1,Y.froz1,Z.froz1,C.froz1,J.froz1,K.froz1,I,Gh,Gi,hw]
   refine⟨_,rfl,_,_,rfl, ?_, ?_, ?_,D⟩
   all_goals (simp only[qA,seval,F,E])
  ·right
   rw[if_pos N]at D
   simp only[qA,seval,iR,iy,wj,F,hi,E,C.lenI,iu,iv,jE.froz1,X.froz1,Y.froz1,Z.froz1,C.froz1,J.froz1,K.froz1,I,Gh,Gi,N]
   refine⟨_,_,jJ,rfl,(H _ N D).symm,fun _=> ?_, ?_,rfl⟩ <;> simp only[qA,seval,D,E]
 ·rintro _ ⟨fr,O,rfl,F,hi,E,D⟩
  rw[List.drop_length,PF]at D
  unfold iS at E ⊢
  simp only[qA,seval,wj,F,hi,E,C.lenI,Int.lt_irrefl]
  exact⟨_,_,jB,rfl,by rw[W,D];rfl,fun h=>absurd D h,E,rfl⟩
theorem Sx:gS pE 93 [.agg (iS c a7 a8 a9 a10 hZ hU)] []=some (.i .i64 (my c),[]):=by
 have EF:=ZI c a7 a8 a9 a10 hZ hU hT hS
 have E:=fun fr lh sh H hi I=>aze c a7 a8 a9 a10 hZ hU hT hS _ rfl _ rfl fr lh sh H hi I
 have F:=fun fr lh sh H hi I=>azf c a7 a8 a9 a10 hZ hU hT hS _ rfl _ rfl fr lh sh H hi I
 have J:=fun fr lh sh H hi I=>azg c a7 a8 a9 a10 hZ hU hT hS _ rfl _ rfl fr lh sh H hi I
 have K:=fun fr lh sh H hi I=>azh c a7 a8 a9 a10 hZ hU hT hS _ rfl _ rfl fr lh sh H hi I
 obtain⟨⟨c7,N,j7⟩,⟨c8,O,j8⟩,⟨c9,U,j9⟩,⟨vv,r,vw⟩,⟨yg,C,xH⟩,⟨yY,D,yt⟩⟩:=hT
 unfold iS at E F J K EF ⊢
 rw[gX ahH (by simp[Tl])]
 unfold my
 by_cases V:mz c=0
 ·rw[V]at EF
  rw[if_neg (by simp[V])]
  by_cases W:Th c.cs 0 c.cs=0
  ·rw[W]at E
   rw[if_neg (by simp[W])]
   simp only[if_true,ne_eq,not_true_eq_false,false_implies,true_and]at E
   by_cases X:Nw c.cs c.ru=0
   ·rw[X]at F
    rw[if_neg (by simp[X])]
    simp only[if_true,ne_eq,not_true_eq_false,false_implies,true_and]at F
    by_cases Y:Nx c.cs c.co=0
    ·rw[Y]at J
     rw[if_neg (by simp[Y])]
     simp only[if_true,ne_eq,not_true_eq_false,false_implies,true_and]at J
     by_cases Z:PF c.cs c.cr=0
     ·rw[Z]at K
      simp only[if_true,ne_eq,not_true_eq_false,false_implies,true_and]at K
      simp(maxDischargeDepth:=6) only[qA,seval,Tl,Jw,Dk,zl,N.froz1,O.froz1,U.froz1,r.froz1,C.froz1,D.froz1,EF,Dr,E,F,J,K,Z]
     ·simp only[Z,if_false,ne_eq,not_false_eq_true,forall_const]at K
      simp(maxDischargeDepth:=6) only[qA,seval,Tl,Jw,Dk,zl,N.froz1,O.froz1,U.froz1,r.froz1,C.froz1,D.froz1,EF,Dr,E,F,J,K]
    ·rw[if_pos Y]
     simp only[Y,if_false,ne_eq,not_false_eq_true,forall_const]at J
     simp(maxDischargeDepth:=6) only[qA,seval,Tl,Dk,zl,N.froz1,O.froz1,U.froz1,r.froz1,C.froz1,D.froz1,EF,Dr,E,F,J]
   ·rw[if_pos X]
    simp only[X,if_false,ne_eq,not_false_eq_true,forall_const]at F
    simp(maxDischargeDepth:=6) only[qA,seval,Tl,zl,N.froz1,O.froz1,U.froz1,r.froz1,C.froz1,D.froz1,EF,Dr,E,F]
  ·rw[if_pos W]
   simp only[W,if_false,ne_eq,not_false_eq_true,forall_const]at E
   simp(maxDischargeDepth:=6) only[qA,seval,Tl,N.froz1,O.froz1,U.froz1,r.froz1,C.froz1,D.froz1,EF,Dr,E]
 ·rw[if_pos V]
  generalize mz c=e at*
  simp(maxDischargeDepth:=6) only[qA,seval,Tl,N.froz1,O.froz1,U.froz1,r.froz1,C.froz1,D.froz1,EF,Dr,V]
end
def se(n:Int):Bool:=decide (-840≤n)&&decide (n≤840)
def rR(n:Int):Bool:=decide (0≤n)&&decide (n<52596000)
theorem Qp(n:Int):gS pE 222 [.i .i64 n] []=some (.b (se n),[]):=by
 rw[gX aeQ (by simp[QN])]
 unfold se
 by_cases h: -840≤n
 ·simp only[qA,seval,QN,h]
 ·simp only[qA,seval,QN,h]
theorem Qq(n:Int):gS pE 236 [.i .i64 n] []=some (.b (se n),[]):=by
 rw[gX ae0 (by simp[QT])]
 unfold se
 by_cases h: -840≤n
 ·simp only[qA,seval,QT,h]
 ·simp only[qA,seval,QT,h]
theorem PK(n:Int):gS pE 223 [.i .i64 n] []=some (.b (rR n),[]):=by
 rw[gX aeR (by simp[QO])]
 unfold rR
 by_cases h:0≤n
 ·simp only[qA,seval,QO,h]
 ·simp only[qA,seval,QO,h]
theorem PL(n:Int):gS pE 237 [.i .i64 n] []=some (.b (rR n),[]):=by
 rw[gX ae1 (by simp[QU])]
 unfold rR
 by_cases h:0≤n
 ·simp only[qA,seval,QU,h]
 ·simp only[qA,seval,QU,h]
structure Zo where
 nm:List Nat
 o:Int
 sh:List (Int×Int)
def Sz(s:Int×Int)(c:List T):Prop:=c= [.i .i64 s.1,.i .i64 s.2]
theorem Sz.len(s:Int×Int)(c:List T)(h:Sz s c):c.length=2:=by rw[h];rfl
def EH(i:Option Int):List (Int×Int)→Int
 | []=>0
 |s::r=>if(rR s.1&&se s.2)=false then 5 else if(match i with|some p=>decide (s.1≤p)|none=>false)=true then 8 else EH (some s.1) r
def xb(l:List (Int×Int))(k:Nat):Option Int:=if k=0 then none else(l[k-1]?).map (·.1)
theorem ZL{l:List (Int×Int)}{k:Nat}(i:k<l.length):EH (xb l k) (l.drop k)=if(rR l[k].1&&se l[k].2)=false then 5 else if(match xb l k with|some p=>decide (l[k].1≤p)|none=>false)=true then 8 else EH (xb l (k+1)) (l.drop (k+1)):=by
 have e:xb l (k+1)=some l[k].1:=by unfold xb;rw[if_neg (by omega),Nat.add_sub_cancel,List.getElem?_eq_getElem i];rfl
 rw[List.drop_eq_getElem_cons i,e]
 conv=>lhs;unfold EH
theorem Hy{l:List (Int×Int)}{k:Nat}(r:0<k)(i:k-1<l.length):xb l k=some l[k-1].1:=by
 unfold xb;rw[if_neg (by omega),List.getElem?_eq_getElem i];rfl
theorem oF{k:Nat}(i:0<k)(h:k<4611686018427387904):wr .i64 ((k:Int)-1)=((k-1:Nat):Int):=by rw[jL (by omega)];omega
def mf(z:Zo):Int:=if lQ z.nm=false then 1 else if se z.o=false then 5 else if 16<z.sh.length then 10 else EH none z.sh
theorem EI{l:List (Int×Int)}{a:T}{C:List T}(E:g8 a l.length C)(F:ic Sz l C){k:Nat}(H:k<l.length): ∃r,∀kk,sH a (.i kk (k:Int)) 2=some (.vp (.i .i64 l[k].1:: .i .i64 l[k].2::r)):=by
 obtain⟨c,r,I,D⟩:=oK (k:=2) Sz.len E F k H
 rw[Sz]at D
 subst D
 exact⟨r,I⟩
theorem azi(z:Zo)(a:T)(Y:List T)(Z:g8 a z.sh.length Y)(hc:ic Sz z.sh Y)(hlen:z.sh.length≤16)(r:Int)(hr:r=EH none z.sh)(o:Out)(U:o=if r=0 then .ext 0 else .ret)(fr:Fr)(lh:hJ gR)(sh:List gR)
  (F:an fr 1= .ptr .L 1 1 0) (D:an fr 18=a) (FR:an fr 19= .i .i64 (z.sh.length:Int)) (Fg:an fr 20= .i .i64 0) (H:a6 lh 1=⟨1,.cells [.s z.nm,.i .i64 z.o,a] 0 true⟩):
  kV 50 pD fr lh sh o∧
  ((r≠0→an (kh pE 50 pD fr lh sh) 2= .i .i64 r)∧kb pE 50 pD fr lh sh=sh):=by
 refine ib (P:=fun iq il iw=>(r≠0→an iq 2= .i .i64 r)∧iw=sh)
  (ij (fun k st=> ∃(fr:Fr) (V:hJ gR),st=⟨fr,V,sh⟩∧r=EH (xb z.sh k) (z.sh.drop k)∧an fr 1= .ptr .L 1 1 0∧an fr 18=a∧an fr 19= .i .i64 (z.sh.length:Int)∧an fr 20= .i .i64 (k:Int)∧a6 V 1=⟨1,.cells [.s z.nm,.i .i64 z.o,a] 0 true⟩) _ z.sh.length ?_ ?_ 0 _ (Nat.zero_le _) ⟨fr,lh,rfl,hr,F,D,FR,Fg,H⟩)
 ·rintro k _ hk ⟨fr,V,rfl,C,F,D,FR,Fg,H⟩
  have K:(k:Int)<z.sh.length:=by omega
  have hw:=iG (k:=k) (by omega)
  obtain⟨rr,N⟩:=EI Z hc hk
  rw[ZL hk]at C
  have I:=PK z.sh[k].1
  have J:=Qp z.sh[k].2
  cases O:rR z.sh[k].1 with
  |false=>
   right
   rw[O]at I
   rw[O,Bool.false_and,if_pos rfl]at C
   subst C
   simp only[qA,seval,forall_const,pD,D,FR,Fg,K,N,I,Gk]
   refine⟨_,_,by simp,rfl,by rw[U];rfl, ?_,rfl⟩
   simp only[qA,seval]
  |true=>
   rw[O]at I
   cases W:se z.sh[k].2 with
   |false=>
    right
    rw[W]at J
    rw[O,W,Bool.and_false,if_pos rfl]at C
    subst C
    simp only[qA,seval,forall_const,pD,D,FR,Fg,K,N,I,J,Gk,zH]
    refine⟨_,_,by simp,rfl,by rw[U];rfl, ?_,rfl⟩
    simp only[qA,seval]
   |true=>
    rw[W]at J
    rw[O,W,Bool.and_self,if_neg (by simp)]at C
    by_cases Sr:k=0
    ·left
     have X: ¬(0:Int)<k:=by omega
     have hp:xb z.sh k=none:=by rw[Sr];rfl
     rw[hp]at C
     simp only[Bool.false_eq_true,if_false]at C
     simp only[qA,seval,pD,D,FR,Fg,K,N,I,J,X,hw,Gk,zH]
     refine⟨_,rfl,_,_,rfl,C, ?_, ?_, ?_, ?_, ?_⟩
     all_goals (simp only[qA,seval,F,D,FR,H])
    ·have X:(0:Int)<k:=by omega
     have tY:=oF (k:=k) (by omega) (by omega)
     obtain⟨r2,Cj⟩:=EI Z hc (k:=k-1) (by omega)
     rw[Hy (by omega) (by omega)]at C
     by_cases E:z.sh[k].1≤z.sh[k-1].1
     ·right
      rw[if_pos (by simpa using E)]at C
      subst C
      simp only[qA,seval,forall_const,pD,F,D,FR,Fg,H,K,N,I,J,X,tY,Cj,E,Gk,zH]
      refine⟨_,_,by simp,rfl,by rw[U];rfl, ?_,rfl⟩
      simp only[qA,seval]
     ·left
      rw[if_neg (by simpa using E)]at C
      simp only[qA,seval,pD,F,D,FR,Fg,H,K,N,I,J,X,hw,tY,Cj,E,Gk,zH]
      refine⟨_,rfl,_,_,rfl,C, ?_, ?_, ?_, ?_, ?_⟩
      all_goals (simp only[qA,seval,F,D,FR,H])
 ·rintro _ ⟨fr,V,rfl,C,F,D,FR,Fg,H⟩
  rw[List.drop_length,EH]at C
  subst C
  simp only[qA,seval,pD,FR,Fg,Int.lt_irrefl]
  exact⟨_,_,jB,rfl,by rw[U];rfl,by simp,rfl⟩
theorem Hz(l:List (Int×Int)): ∀p,EH p l=0∨EH p l=5∨EH p l=8:=by
 induction l with
 |nil=>intro p;exact .inl rfl
 |cons s r ih=>
  intro p
  unfold EH
  repeat' split
  all_goals first
   |exact .inr (.inl rfl)
   |exact .inr (.inr rfl)
   |exact ih _
theorem En(z:Zo)(a:T)(H:List T)(E:g8 a z.sh.length H)(K:ic Sz z.sh H):gS pE 138 [.agg [.s z.nm,.i .i64 z.o,a]] []=some (.i .i64 (mf z),[]):=by
 rw[gX aec (by simp[Fo])]
 have r:=Ax z.nm
 have C:=Qp z.o
 unfold mf
 cases I:lQ z.nm with
 |false=>
  rw[I]at r
  simp only[qA,seval,Fo,r,vR]
 |true=>
  rw[I]at r
  cases J:se z.o with
  |false=>
   rw[J]at C
   simp only[qA,seval,Fo,r,C,vR,zH]
  |true=>
   rw[J]at C
   by_cases F:16<z.sh.length
   ·have JS:(16:Int)<z.sh.length:=by omega
    simp only[qA,seval,Fo,r,C,E.lenI,F,JS,vR,zH]
   ·have JS: ¬(16:Int)<z.sh.length:=by omega
    have D:=fun fr lh sh N O FR Fg U=>azi z a H E K (by omega) _ rfl _ rfl fr lh sh N O FR Fg U
    rcases Hz z.sh none with h|h|h
    ·rw[h]at D ⊢
     simp only[qA,seval,Fo,r,C,E.lenI,F,JS,D,vR,zH]
    ·rw[h]at D ⊢
     simp only[qA,seval,Fo,r,C,E.lenI,F,JS,D,vR,zH]
    ·rw[h]at D ⊢
     simp only[qA,seval,Fo,r,C,E.lenI,F,JS,D,vR,zH]
theorem azj(z:Zo)(a:T)(Y:List T)(H:g8 a z.sh.length Y)(Z:ic Sz z.sh Y)(hlen:z.sh.length≤16)(r:Int)(hr:r=EH none z.sh)(o:Out)(U:o=if r=0 then .ext 0 else .ret)(fr:Fr)(lh:hJ gR)(sh:List gR)
  (D:an fr 1= .ptr .L 1 1 0) (Fg:an fr 3= .i .i64 0) (E:a6 lh 1=⟨1,.cells [.s z.nm,.i .i64 z.o,a] 0 true⟩):
  kV 59 pG fr lh sh o∧
  ((r≠0→an (kh pE 59 pG fr lh sh) 2= .i .i64 r)∧kb pE 59 pG fr lh sh=sh):=by
 refine ib (P:=fun iq il iw=>(r≠0→an iq 2= .i .i64 r)∧iw=sh)
  (ij (fun k st=> ∃(fr:Fr) (V:hJ gR),st=⟨fr,V,sh⟩∧r=EH (xb z.sh k) (z.sh.drop k)∧an fr 1= .ptr .L 1 1 0∧an fr 3= .i .i64 (k:Int)∧a6 V 1=⟨1,.cells [.s z.nm,.i .i64 z.o,a] 0 true⟩) _ z.sh.length ?_ ?_ 0 _ (Nat.zero_le _) ⟨fr,lh,rfl,hr,D,Fg,E⟩)
 ·rintro k _ hk ⟨fr,V,rfl,C,D,Fg,E⟩
  have K:(k:Int)<z.sh.length:=by omega
  have hw:=iG (k:=k) (by omega)
  obtain⟨rr,N⟩:=EI H Z hk
  rw[ZL hk]at C
  have I:=PL z.sh[k].1
  have J:=Qq z.sh[k].2
  cases O:rR z.sh[k].1 with
  |false=>
   right
   rw[O]at I
   rw[O,Bool.false_and,if_pos rfl]at C
   subst C
   simp only[qA,seval,forall_const,pG,D,Fg,E,H.lenI,K,N,I,Gl]
   refine⟨_,_,by simp,rfl,by rw[U];rfl, ?_,rfl⟩
   simp only[qA,seval]
  |true=>
   rw[O]at I
   cases W:se z.sh[k].2 with
   |false=>
    right
    rw[W]at J
    rw[O,W,Bool.and_false,if_pos rfl]at C
    subst C
    simp only[qA,seval,forall_const,pG,D,Fg,E,H.lenI,K,N,I,J,Gl,zI]
    refine⟨_,_,by simp,rfl,by rw[U];rfl, ?_,rfl⟩
    simp only[qA,seval]
   |true=>
    rw[W]at J
    rw[O,W,Bool.and_self,if_neg (by simp)]at C
    by_cases Sr:k=0
    ·left
     have X: ¬(0:Int)<k:=by omega
     have hp:xb z.sh k=none:=by rw[Sr];rfl
     rw[hp]at C
     simp only[Bool.false_eq_true,if_false]at C
     simp only[qA,seval,pG,D,Fg,E,H.lenI,K,N,I,J,X,hw,Gl,zI]
     refine⟨_,rfl,_,_,rfl,C, ?_, ?_, ?_⟩
     all_goals (simp only[qA,seval,D,E])
    ·have X:(0:Int)<k:=by omega
     have tY:=oF (k:=k) (by omega) (by omega)
     obtain⟨r2,Cj⟩:=EI H Z (k:=k-1) (by omega)
     rw[Hy (by omega) (by omega)]at C
     by_cases F:z.sh[k].1≤z.sh[k-1].1
     ·right
      rw[if_pos (by simpa using F)]at C
      subst C
      simp only[qA,seval,forall_const,pG,D,Fg,E,H.lenI,K,N,I,J,X,tY,Cj,F,Gl,zI]
      refine⟨_,_,by simp,rfl,by rw[U];rfl, ?_,rfl⟩
      simp only[qA,seval]
     ·left
      rw[if_neg (by simpa using F)]at C
      simp only[qA,seval,pG,D,Fg,E,H.lenI,K,N,I,J,X,hw,tY,Cj,F,Gl,zI]
      refine⟨_,rfl,_,_,rfl,C, ?_, ?_, ?_⟩
      all_goals (simp only[qA,seval,D,E])
 ·rintro _ ⟨fr,V,rfl,C,D,Fg,E⟩
  rw[List.drop_length,EH]at C
  subst C
  simp only[qA,seval,pG,D,Fg,E,H.lenI,Int.lt_irrefl]
  exact⟨_,_,jB,rfl,by rw[U];rfl,by simp,rfl⟩
theorem Eo(z:Zo)(a:T)(H:List T)(E:g8 a z.sh.length H)(K:ic Sz z.sh H):gS pE 150 [.agg [.s z.nm,.i .i64 z.o,a]] []=some (.i .i64 (mf z),[]):=by
 rw[gX ael (by simp[Fp])]
 have r:=Av z.nm
 have C:=Qq z.o
 unfold mf
 cases I:lQ z.nm with
 |false=>
  rw[I]at r
  simp only[qA,seval,Fp,r,tg]
 |true=>
  rw[I]at r
  cases J:se z.o with
  |false=>
   rw[J]at C
   simp only[qA,seval,Fp,r,C,tg,zI]
  |true=>
   rw[J]at C
   by_cases F:16<z.sh.length
   ·have JS:(16:Int)<z.sh.length:=by omega
    simp only[qA,seval,Fp,r,C,E.lenI,F,JS,tg,zI]
   ·have JS: ¬(16:Int)<z.sh.length:=by omega
    have D:=fun fr lh sh N Fg O=>azj z a H E K (by omega) _ rfl _ rfl fr lh sh N Fg O
    rcases Hz z.sh none with h|h|h
    ·rw[h]at D ⊢
     simp only[qA,seval,Fp,r,C,E.lenI,F,JS,D,tg,zI]
    ·rw[h]at D ⊢
     simp only[qA,seval,Fp,r,C,E.lenI,F,JS,D,tg,zI]
    ·rw[h]at D ⊢
     simp only[qA,seval,Fp,r,C,E.lenI,F,JS,D,tg,zI]
mutual
def Ex.al:Ex→Prop
 | .mk _ _ _ args=>args.length≤l6∧alL args
def alL:List Ex→Prop
 | []=>True
 |x::xs=>x.al∧alL xs
end
theorem Ex.al_eq(x:Ex):x.al↔(x.args.length≤l6∧alL x.args):=by obtain⟨_,_,_,_⟩:=x;rw[Ex.al];rfl
theorem IT: ∀{xs:List Ex},alL xs↔ ∀x∈xs,x.al
 | []=>by simp[alL]
 |x::xs=>by rw[alL,IT (xs:=xs)];simp
def A3:T→Bool
 | .i .i64 _=>true
 |_=>false
theorem oW{n:Int}:A3 (.i .i64 n)=true:=nr rfl
theorem vG{v:T}(h:A3 v=true): ∃n,v= .i .i64 n:=by
 cases v with
 |i k n=>cases k <;> first|exact⟨n,rfl⟩|(simp[A3]at h)
 |_=>simp[A3]at h
def at0(y:Ex):Prop:= ∀cs:List T,lK y cs→y.al→ ∃n:Int,gS pE 85 [.agg cs] []=some (.i .i64 n,[])
theorem azk(xs:List Ex)(ih: ∀y∈xs,at0 y)(a:T)(I:List T)(D:g8 a xs.length I)(O:jN xs I)(J:xs.length≤l6)(J3:alL xs)(op num:Int)(s:List Nat)(fr:Fr)(lh:hJ gR)(sh:List gR)
  (r:an fr 1= .ptr .L 1 1 0) (C:A3 (an fr 3)=true) (hi:an fr 4= .i .i64 0) (E:a6 lh 1=⟨1,.cells [.i .i64 op,.i .i64 num,.s s,a] 0 true⟩):
  kV 25 wh fr lh sh (.ext 0)∧(A3 (an (kh pE 25 wh fr lh sh) 3)=true∧kH pE 25 wh fr lh sh=lh∧kb pE 25 wh fr lh sh=sh):=by
 refine ib (P:=fun U V W=>A3 (an U 3)=true∧V=lh∧W=sh)
  (ij (fun k st=> ∃(fr:Fr),st=⟨fr,lh,sh⟩∧an fr 1= .ptr .L 1 1 0∧A3 (an fr 3)=true∧an fr 4= .i .i64 (k:Int)) _ xs.length ?_ ?_ 0 _ (Nat.zero_le _) ⟨fr,rfl,r,C,hi⟩)
 ·rintro k _ F ⟨fr,rfl,r,C,hi⟩
  have K:(k:Int)<xs.length:=by omega
  have X:=nQ (k:=k) (by omega)
  obtain⟨b,cb,rr,Y,Z,oV,hb⟩:=mY D O k F
  obtain⟨n,H⟩:=vG C
  obtain⟨m,gZ⟩:=ih xs[k] (List.getElem_mem F) _ hb (IT.1 J3 _ (List.getElem_mem F))
  by_cases N:n<1000
  ·left
   simp only[qA,seval,wh,r,H,hi,E,D.lenI,K,N,Y,X,Z.froz1,gZ,UU]
   refine⟨_,rfl,_,rfl, ?_, ?_, ?_⟩
   ·simp only[qA,seval,r]
   ·simp only[qA,seval,oW]
   ·simp only[qA,seval]
  ·right
   simp only[qA,seval,wh,r,H,hi,E,D.lenI,K,N]
   refine⟨_,_,jB,rfl,rfl, ?_,rfl,rfl⟩
   simp only[qA,seval,H,oW]
 ·rintro _ ⟨fr,rfl,r,C,hi⟩
  simp only[qA,seval,wh,r,hi,E,D.lenI,Int.lt_irrefl]
  refine⟨_,_,jB,rfl,rfl, ?_,rfl,rfl⟩
  simp only[qA,seval,C]
theorem Jf(x:Ex):at0 x:=by
 induction x using Ex.ind with
 |h x ih=>
  intro cs D J3
  obtain⟨a,E,rfl,F,BB⟩:=D.cells
  obtain⟨r,H⟩:=(Ex.al_eq x).1 J3
  have C:=fun fr lh sh I J hi K=>azk x.args (fun y N=>ih y N) a E F BB r H x.op x.num x.name fr lh sh I J hi K
  rw[gX aoG (by simp[c85])]
  simp only[qA,seval,c85,oW,C]
  generalize O:an (kh _ _ _ _ _ _) 3=X
  obtain⟨n,U⟩: ∃n,X= .i .i64 n:=by
   rw[←O]
   refine vG (C _ _ _ ?_ ?_ ?_ ?_).2.1 <;> simp only[qA,seval,oW]
  rw[U]
  simp only[qA,seval]
  exact⟨n,rfl⟩
theorem azl(xs:Cs)(a:T)(H:List T)(D:g8 a xs.length H)(O:kD xs H)(I:xs.length≤l6)(J3: ∀u∈xs,u.2.al)(c:Ct)(a8 a9 a10 hZ hU:T)(fr:Fr)(lh:hJ gR)(sh:List gR)
  (r:an fr 1= .ptr .L 1 1 0) (C:A3 (an fr 3)=true) (hi:an fr 4= .i .i64 0) (E:a6 lh 1=⟨1,.cells [.i .i64 c.rp,.i .i64 c.rl,.i .i64 c.cn,.i .i64 c.st,.i .i64 c.ly,.i .i64 c.nf,.i .i64 c.nt,a,a8,a9,a10,hZ,hU,.i .i64 c.gu] 0 true⟩):
  kV 96 uv fr lh sh (.ext 0)∧(A3 (an (kh pE 96 uv fr lh sh) 3)=true∧kH pE 96 uv fr lh sh=lh∧kb pE 96 uv fr lh sh=sh):=by
 refine ib (P:=fun U V W=>A3 (an U 3)=true∧V=lh∧W=sh)
  (ij (fun k st=> ∃(fr:Fr),st=⟨fr,lh,sh⟩∧an fr 1= .ptr .L 1 1 0∧A3 (an fr 3)=true∧an fr 4= .i .i64 (k:Int)) _ xs.length ?_ ?_ 0 _ (Nat.zero_le _) ⟨fr,rfl,r,C,hi⟩)
 ·rintro k _ J ⟨fr,rfl,r,C,hi⟩
  have K:(k:Int)<xs.length:=by omega
  have X:=nQ (k:=k) (by omega)
  obtain⟨b,cb,rr,Y,Z,oV,hb⟩:=lL D O k J
  obtain⟨n,F⟩:=vG C
  obtain⟨m,gZ⟩:=Jf xs[k].2 _ hb (J3 _ (List.getElem_mem J))
  by_cases N:n<3000
  ·left
   simp only[qA,seval,uv,r,F,hi,E,D.lenI,K,N,Y,X,Z.froz1,gZ,UU]
   refine⟨_,rfl,_,rfl, ?_, ?_, ?_⟩
   ·simp only[qA,seval,r]
   ·simp only[qA,seval,oW]
   ·simp only[qA,seval]
  ·right
   simp only[qA,seval,uv,r,F,hi,E,D.lenI,K,N]
   refine⟨_,_,jB,rfl,rfl, ?_,rfl,rfl⟩
   simp only[qA,seval,F,oW]
 ·rintro _ ⟨fr,rfl,r,C,hi⟩
  simp only[qA,seval,uv,r,hi,E,D.lenI,Int.lt_irrefl]
  refine⟨_,_,jB,rfl,rfl, ?_,rfl,rfl⟩
  simp only[qA,seval,C]
theorem azm(xs:List Ru)(a:T)(H:List T)(D:g8 a xs.length H)(O:ic Tv xs H)(I:xs.length≤l6)(J3: ∀u∈xs,u.x.al)(c:Ct)(a7 a9 a10 hZ hU:T)(fr:Fr)(lh:hJ gR)(sh:List gR)
  (r:an fr 1= .ptr .L 1 1 0) (C:A3 (an fr 3)=true) (hi:an fr 5= .i .i64 0) (E:a6 lh 1=⟨1,.cells [.i .i64 c.rp,.i .i64 c.rl,.i .i64 c.cn,.i .i64 c.st,.i .i64 c.ly,.i .i64 c.nf,.i .i64 c.nt,a7,a,a9,a10,hZ,hU,.i .i64 c.gu] 0 true⟩):
  kV 96 uu fr lh sh (.ext 2)∧(A3 (an (kh pE 96 uu fr lh sh) 3)=true∧kH pE 96 uu fr lh sh=lh∧kb pE 96 uu fr lh sh=sh):=by
 refine ib (P:=fun U V W=>A3 (an U 3)=true∧V=lh∧W=sh)
  (ij (fun k st=> ∃(fr:Fr),st=⟨fr,lh,sh⟩∧an fr 1= .ptr .L 1 1 0∧A3 (an fr 3)=true∧an fr 5= .i .i64 (k:Int)) _ xs.length ?_ ?_ 0 _ (Nat.zero_le _) ⟨fr,rfl,r,C,hi⟩)
 ·rintro k _ J ⟨fr,rfl,r,C,hi⟩
  have K:(k:Int)<xs.length:=by omega
  have X:=nQ (k:=k) (by omega)
  obtain⟨b,cb,rr,Y,Z,hb⟩:=Ck D O k J
  obtain⟨n,F⟩:=vG C
  obtain⟨m,gZ⟩:=Jf xs[k].x _ hb (J3 _ (List.getElem_mem J))
  by_cases N:n<3000
  ·left
   simp only[qA,seval,uu,r,F,hi,E,D.lenI,K,N,Y,X,Z.froz1,gZ,UU]
   refine⟨_,rfl,_,rfl, ?_, ?_, ?_⟩
   ·simp only[qA,seval,r]
   ·simp only[qA,seval,oW]
   ·simp only[qA,seval]
  ·right
   simp only[qA,seval,uu,r,F,hi,E,D.lenI,K,N]
   refine⟨_,_,jB,rfl,rfl, ?_,rfl,rfl⟩
   simp only[qA,seval,F,oW]
 ·rintro _ ⟨fr,rfl,r,C,hi⟩
  simp only[qA,seval,uu,r,hi,E,D.lenI,Int.lt_irrefl]
  refine⟨_,_,jB,rfl,rfl, ?_,rfl,rfl⟩
  simp only[qA,seval,C]
theorem azn(xs:List Co)(a:T)(H:List T)(D:g8 a xs.length H)(O:ic Z3 xs H)(I:xs.length≤l6)(J3: ∀u∈xs,u.x.al)(c:Ct)(a7 a8 a10 hZ hU:T)(fr:Fr)(lh:hJ gR)(sh:List gR)
  (r:an fr 1= .ptr .L 1 1 0) (C:A3 (an fr 3)=true) (hi:an fr 6= .i .i64 0) (E:a6 lh 1=⟨1,.cells [.i .i64 c.rp,.i .i64 c.rl,.i .i64 c.cn,.i .i64 c.st,.i .i64 c.ly,.i .i64 c.nf,.i .i64 c.nt,a7,a8,a,a10,hZ,hU,.i .i64 c.gu] 0 true⟩):
  kV 96 ur fr lh sh (.ext 4)∧(A3 (an (kh pE 96 ur fr lh sh) 3)=true∧kH pE 96 ur fr lh sh=lh∧kb pE 96 ur fr lh sh=sh):=by
 refine ib (P:=fun U V W=>A3 (an U 3)=true∧V=lh∧W=sh)
  (ij (fun k st=> ∃(fr:Fr),st=⟨fr,lh,sh⟩∧an fr 1= .ptr .L 1 1 0∧A3 (an fr 3)=true∧an fr 6= .i .i64 (k:Int)) _ xs.length ?_ ?_ 0 _ (Nat.zero_le _) ⟨fr,rfl,r,C,hi⟩)
 ·rintro k _ J ⟨fr,rfl,r,C,hi⟩
  have K:(k:Int)<xs.length:=by omega
  have X:=nQ (k:=k) (by omega)
  obtain⟨b,cb,rr,Y,Z,hb⟩:=Ez D O k J
  obtain⟨n,F⟩:=vG C
  obtain⟨m,gZ⟩:=Jf xs[k].x _ hb (J3 _ (List.getElem_mem J))
  by_cases N:n<3000
  ·left
   simp only[qA,seval,ur,r,F,hi,E,D.lenI,K,N,Y,X,Z.froz1,gZ,UU]
   refine⟨_,rfl,_,rfl, ?_, ?_, ?_⟩
   ·simp only[qA,seval,r]
   ·simp only[qA,seval,oW]
   ·simp only[qA,seval]
  ·right
   simp only[qA,seval,ur,r,F,hi,E,D.lenI,K,N]
   refine⟨_,_,jB,rfl,rfl, ?_,rfl,rfl⟩
   simp only[qA,seval,F,oW]
 ·rintro _ ⟨fr,rfl,r,C,hi⟩
  simp only[qA,seval,ur,r,hi,E,D.lenI,Int.lt_irrefl]
  refine⟨_,_,jB,rfl,rfl, ?_,rfl,rfl⟩
  simp only[qA,seval,C]
theorem azo(xs:List Ex)(a:T)(H:List T)(D:g8 a xs.length H)(O:jN xs H)(I:xs.length≤l6)(J3: ∀u∈xs,u.al)(c:Ct)(a7 a8 a9 hZ hU:T)(fr:Fr)(lh:hJ gR)(sh:List gR)
  (r:an fr 1= .ptr .L 1 1 0) (C:A3 (an fr 3)=true) (hi:an fr 7= .i .i64 0) (E:a6 lh 1=⟨1,.cells [.i .i64 c.rp,.i .i64 c.rl,.i .i64 c.cn,.i .i64 c.st,.i .i64 c.ly,.i .i64 c.nf,.i .i64 c.nt,a7,a8,a9,a,hZ,hU,.i .i64 c.gu] 0 true⟩):
  kV 96 uq fr lh sh (.ext 6)∧(A3 (an (kh pE 96 uq fr lh sh) 3)=true∧kH pE 96 uq fr lh sh=lh∧kb pE 96 uq fr lh sh=sh):=by
 refine ib (P:=fun U V W=>A3 (an U 3)=true∧V=lh∧W=sh)
  (ij (fun k st=> ∃(fr:Fr),st=⟨fr,lh,sh⟩∧an fr 1= .ptr .L 1 1 0∧A3 (an fr 3)=true∧an fr 7= .i .i64 (k:Int)) _ xs.length ?_ ?_ 0 _ (Nat.zero_le _) ⟨fr,rfl,r,C,hi⟩)
 ·rintro k _ J ⟨fr,rfl,r,C,hi⟩
  have K:(k:Int)<xs.length:=by omega
  have X:=nQ (k:=k) (by omega)
  obtain⟨b,cb,rr,Y,Z,oV,hb⟩:=mY D O k J
  obtain⟨n,F⟩:=vG C
  obtain⟨m,gZ⟩:=Jf xs[k] _ hb (J3 _ (List.getElem_mem J))
  by_cases N:n<3000
  ·left
   simp only[qA,seval,uq,r,F,hi,E,D.lenI,K,N,Y,X,Z.froz1,gZ,UU]
   refine⟨_,rfl,_,rfl, ?_, ?_, ?_⟩
   ·simp only[qA,seval,r]
   ·simp only[qA,seval,oW]
   ·simp only[qA,seval]
  ·right
   simp only[qA,seval,uq,r,F,hi,E,D.lenI,K,N]
   refine⟨_,_,jB,rfl,rfl, ?_,rfl,rfl⟩
   simp only[qA,seval,F,oW]
 ·rintro _ ⟨fr,rfl,r,C,hi⟩
  simp only[qA,seval,uq,r,hi,E,D.lenI,Int.lt_irrefl]
  refine⟨_,_,jB,rfl,rfl, ?_,rfl,rfl⟩
  simp only[qA,seval,C]
structure CtA (c:Ct):Prop where
 a7:(∀u∈c.cs,u.2.al)∧c.cs.length≤l6
 a8:(∀u∈c.ru,u.x.al)∧c.ru.length≤l6
 a9:(∀u∈c.co,u.x.al)∧c.co.length≤l6
 a10:(∀u∈c.cr,u.al)∧c.cr.length≤l6
 hZ:c.li.length≤l6
 hU:c.fs.length≤l6
theorem Y4(c:Ct)(a7 a8 a9 a10 hZ hU:T)(hT:xG c a7 a8 a9 a10 hZ hU)(r:CtA c): ∃b,gS pE 39 [.agg (iS c a7 a8 a9 a10 hZ hU)] []=some (.b b,[]):=by
 obtain⟨⟨U,V,W⟩,⟨Y,Z,j8⟩,⟨c9,i9,j9⟩,⟨vv,H,vw⟩,⟨yg,I,xH⟩,⟨yY,J,yt⟩⟩:=hT
 have K:=fun fr lh sh C D hi E=>azl c.cs a7 U V W r.a7.2 r.a7.1 c a8 a9 a10 hZ hU fr lh sh C D hi E
 have N:=fun fr lh sh C D hi E=>azm c.ru a8 Y Z j8 r.a8.2 r.a8.1 c a7 a9 a10 hZ hU fr lh sh C D hi E
 have O:=fun fr lh sh C D hi E=>azn c.co a9 c9 i9 j9 r.a9.2 r.a9.1 c a7 a8 a10 hZ hU fr lh sh C D hi E
 have F:=fun fr lh sh C D hi E=>azo c.cr a10 vv H vw r.a10.2 r.a10.1 c a7 a8 a9 hZ hU fr lh sh C D hi E
 unfold iS
 rw[gX aoo (by simp[c39])]
 simp(maxDischargeDepth:=6) only[qA,seval,c39,Jp,Jq,Jr,I.lenI,J.lenI,oW,K,N,O,F]
 generalize hX:an (kh _ _ uq _ _ _) 3=X
 obtain⟨n,hn⟩: ∃n,X= .i .i64 n:=by
  rw[←hX]
  refine vG (F _ _ _ ?_ ?_ ?_ ?_).2.1 <;> simp(maxDischargeDepth:=6) only[qA,seval,Jp,Jq,Jr,oW,K,N,O]
 rw[hn]
 simp(maxDischargeDepth:=6) only[qA,seval]
 exact⟨_,rfl⟩
def CY(c:Nat):Prop:=(65:Int)≤c∧(c:Int)≤90
instance (c:Nat):Decidable (CY c):=by unfold CY;infer_instance
def yR(c:Nat):Bool:=decide (CY c∨CB c)
def Em(s:List Nat):Bool:=decide (1≤s.length)&&(decide (s.length≤8)&&s.all yR)
def CC(s:List Nat):Bool:=decide (s.length=3)&&s.all fun c=>decide (CY c)
structure Ap where
 cd:List Nat
 zn:List Nat
structure Fl where
 nu:List Nat
 fr:List Nat
 to:List Nat
 dp:Int
 ar:Int
 ty:List Nat
 n0:Int
 n1:Int
 n2:Int
structure Tt where
 zo:List Zo
 ap:List Ap
 fl:List Fl
def C0(z:Zo)(c:List T):Prop:= ∃a r,c= [.s z.nm,.i .i64 z.o,a]∧g8 a z.sh.length r∧ic Sz z.sh r
def L8(u:Ap)(c:List T):Prop:=c= [.s u.cd,.s u.zn]
def CZ(f:Fl):List T:= [.s f.nu,.s f.fr,.s f.to,.i .i64 f.dp,.i .i64 f.ar,.s f.ty,.i .i64 f.n0,.i .i64 f.n1,.i .i64 f.n2]
def Z0(f:Fl)(c:List T):Prop:=c=CZ f
theorem C0.len(z:Zo)(c:List T)(h:C0 z c):c.length=3:=by obtain⟨a,i,rfl,_⟩:=h;rfl
theorem L8.len(u:Ap)(c:List T)(h:L8 u c):c.length=2:=by rw[h];rfl
theorem Z0.len(f:Fl)(c:List T)(h:Z0 f c):c.length=9:=by rw[h];rfl
theorem GW{xs:List Zo}{a:T}{E:List T}(F:g8 a xs.length E)(H:ic C0 xs E)(i:Nat)(hi:i<xs.length): ∃C D r,(∀kk,sH a (.i kk (i:Int)) 3=some (.vp (.s xs[i].nm:: .i .i64 xs[i].o::C::r)))∧g8 C xs[i].sh.length D∧ic Sz xs[i].sh D:=by
 obtain⟨c,r,e,h⟩:=oK (k:=3) C0.len F H i hi
 obtain⟨C,D,rfl,I,J⟩:=h
 exact⟨C,D,r,e,I,J⟩
theorem KJ{xs:List Ap}{a:T}{C:List T}(D:g8 a xs.length C)(E:ic L8 xs C)(i:Nat)(hi:i<xs.length): ∃r,∀kk,sH a (.i kk (i:Int)) 2=some (.vp (.s xs[i].cd:: .s xs[i].zn::r)):=by
 obtain⟨c,r,e,h⟩:=oK (k:=2) L8.len D E i hi
 rw[L8]at h
 subst h
 exact⟨r,e⟩
theorem tX{xs:List Fl}{a:T}{C:List T}(D:g8 a xs.length C)(E:ic Z0 xs C)(i:Nat)(hi:i<xs.length): ∃r,∀kk,sH a (.i kk (i:Int)) 9=some (.vp (.s xs[i].nu:: .s xs[i].fr:: .s xs[i].to:: .i .i64 xs[i].dp:: .i .i64 xs[i].ar:: .s xs[i].ty:: .i .i64 xs[i].n0:: .i .i64 xs[i].n1:: .i .i64 xs[i].n2::r)):=by
 obtain⟨c,r,e,h⟩:=oK (k:=9) Z0.len D E i hi
 rw[Z0]at h
 subst h
 exact⟨r,e⟩
def KH(seen:List (List Nat)):List Zo→Int
 | []=>0
 |z::r=>if mf z≠0 then mf z else if z.nm∈seen then 7 else KH (seen++ [z.nm]) r
def KI(i seen:List (List Nat)):List Ap→Int
 | []=>0
 |a::r=>if CC a.cd=false then 1 else if a.cd∈seen then 7 else if a.zn∉i then 6 else KI i (seen++ [a.cd]) r
def mq(n:Int):Bool:=decide (0≤n)&&decide (n≤8)
def rN(f:Fl):Bool:=decide (2880≤f.dp)&&(decide (f.ar≤52593120)&&(decide (f.dp<f.ar)&&decide (f.ar-f.dp≤1440)))
def Ip(i:List (List Nat))(f:Fl):Int:=
 if Em f.nu=false then 1 else if lQ f.ty=false then 1 else if f.fr∉i then 6 else if f.to∉i then 6 else if f.fr=f.to then 14 else if rN f=false then 5 else if(mq f.n0&&(mq f.n1&&mq f.n2))=false then 5 else 0
def CD(f g:Fl):Bool:=if f.dp≠g.dp then decide (f.dp<g.dp)else lG f.nu g.nu
def FI(C:List (List Nat))(i:Option Fl):List Fl→Int
 | []=>0
 |f::r=>if Ip C f≠0 then Ip C f else if(match i with|some p=> !CD p f|none=>false)=true then 8 else FI C (some f) r
def Tt.big(t:Tt):Prop:=16<t.zo.length∨64<t.ap.length∨200<t.fl.length
def tq(t:Tt):Int:=
 if 16<t.zo.length then 10 else if 64<t.ap.length then 10 else if 200<t.fl.length then 10 else if KH [] t.zo≠0 then KH [] t.zo else if KI (t.zo.map Zo.nm) [] t.ap≠0 then KI (t.zo.map Zo.nm) [] t.ap else FI (t.ap.map Ap.cd) none t.fl
def Pz(seen:List (List Nat)):List T:=(seen.map fun x=>(x,true)).map fun p=>sK p.1
def PA(seen:List (List Nat)):List T:=(seen.map fun x=>(x,true)).map fun p=>T.b p.2
theorem KG(seen:List (List Nat))(s:List Nat):nX (.one .str) (Pz seen) (PA seen) (.s s) (.b false) false=some (.b (decide (s∈seen))):=Jb seen s
theorem XS(seen:List (List Nat))(s:List Nat)(h:s∉seen):rB (.one .str) (.s s) (.b true) (Pz seen) (PA seen)=some (Pz (seen++ [s]),PA (seen++ [s])):=Ff seen s h
theorem AE{α β:Type}(f:α→β){l:List α}{k:Nat}(i:k<l.length):(l.take (k+1)).map f=(l.take k).map f++ [f l[k]]:=by rw[List.take_succ_eq_append_getElem i,List.map_append];rfl
end Go.Proofs.YtblcbheipjeoeaaGreat
