/- Walks of functions of the program and of the reference, and their plain laws, part 11. Conditions: the theorems' own. -/
import Derived.Test.YtblcbheipjeoeaaGreatM10
import Derived.KernelRfl
set_option maxRecDepth 100000
set_option linter.unusedSimpArgs false
set_option linter.unusedVariables false
set_option maxHeartbeats 16000000
namespace Go.Proofs.YtblcbheipjeoeaaGreat
open Go Go.Ev
theorem ic.take{α:Type}{R:α→List T→Prop}{k:Nat}(C: ∀x c,R x c→c.length=k): ∀{xs:List α} {cs:List T} (i:Nat),ic R xs cs→ic R (xs.take i) (cs.take (i*k))
 | [],cs,i,h=>by rw[ic]at h;subst h;simp[ic]
 |x::xs,cs,0,h=>by simp[ic]
 |x::xs,cs,i+1,h=>by
  rw[ic]at h
  obtain⟨c,r,rfl,D,F⟩:=h
  have e:(c++r).take ((i+1)*k)=c++r.take (i*k):=by
   rw[show(i+1)*k=c.length+i*k by rw[C _ _ D,Nat.add_mul,Nat.one_mul,Nat.add_comm],List.take_append,List.take_of_length_le (by omega),Nat.add_sub_cancel_left]
  rw[e]
  exact⟨c,r.take (i*k),rfl,D,ic.take C i F⟩
theorem XY{n i:Nat}{a:T}{r:List T}(hi:i<n)(C:g8 a n r): ∃ex,a= .sl r n ex:=by
 rcases C with⟨_,hz,_⟩|⟨ex,rfl⟩
 ·omega
 ·exact⟨ex,rfl⟩
theorem axh(l:List Zo)(K N a:T)(O:List T)(I:g8 a l.length O)(Y:ic C0 l O)(hlen:l.length≤100)(r:Int)(C:r=KH [] l)(o:Out)(Z:o=if r=0 then .ext 0 else .ret)(fr:Fr)(lh:hJ gR)(sh:List gR)
  (F:an fr 1= .ptr .L 1 1 0) (H:an fr 3= .i .i64 0) (D:a6 lh 1=⟨1,.cells [a,K,N] 0 true⟩):
  kV 96 tb fr lh sh o∧
  ((r≠0→an (kh pE 96 tb fr lh sh) 2= .i .i64 r)∧a6 (kH pE 96 tb fr lh sh) 1=⟨1,.cells [a,K,N] 0 true⟩∧kb pE 96 tb fr lh sh=sh):=by
 refine ib (P:=fun iq il iw=>(r≠0→an iq 2= .i .i64 r)∧a6 il 1=⟨1,.cells [a,K,N] 0 true⟩∧iw=sh)
  (ij (fun k st=> ∃(fr:Fr) (U:hJ gR),st=⟨fr,U,sh⟩∧r=KH ((l.take k).map Zo.nm) (l.drop k)∧an fr 1= .ptr .L 1 1 0∧an fr 3= .i .i64 (k:Int)∧a6 U 1=⟨1,.cells [a,K,N] 0 true⟩) _ l.length ?_ ?_ 0 _ (Nat.zero_le _) ⟨fr,lh,rfl,C,F,H,D⟩)
 ·rintro k _ V ⟨fr,U,rfl,C,F,H,D⟩
  have iu:(k:Int)<l.length:=by omega
  have sQ:k≤l.length:=by omega
  have hw:=iG (k:=k) (by omega)
  obtain⟨sT,sc,rr,iv,W,yk⟩:=GW I Y k V
  have X:=Eo l[k] sT sc W yk
  have lM:=ic.len C0.len Y
  obtain⟨ex,rfl⟩:=XY V I
  have lB:(l.take k).length=k:=by rw[List.length_take,Nat.min_eq_left sQ]
  obtain⟨v,ZO,JV⟩:=agr l[k].nm (l.take k) (.sl (O.take (k*3)) k (ex&&decide (k=l.length))) (O.take (k*3)) (by rw[lB];exact Or.inr ⟨_,rfl⟩) (ic.take C0.len k Y) (by rw[lB];omega)
  rw[List.drop_eq_getElem_cons V,KH]at C
  rw[AE Zo.nm V]
  generalize (l.take k).map Zo.nm=seen at*
  generalize l[k]=z at*
  by_cases J:mf z=0
  ·rw[if_neg (by simp[J])]at C
   rw[J]at X
   by_cases hs:z.nm∈seen
   ·right
    rw[if_pos hs]at C
    have hn:0≤v:=by have: ¬v<0:=fun h=>(JV.1 h) hs;omega
    simp only[qA,seval,u9,iR,iy,tb,F,H,D,I.lenI,iu,sQ,lM,Nat.sub_zero,iv,W.froz1,X,JH,ZO,JI,U8,hn]
    refine⟨_,_,jJ,rfl,by rw[Z,C];rfl,fun _=> ?_, ?_,rfl⟩ <;> simp only[qA,seval,C,D]
   ·left
    rw[if_neg hs]at C
    have hn: ¬0≤v:=by have:v<0:=JV.2 hs;omega
    simp only[qA,seval,u9,iR,iy,tb,F,H,D,I.lenI,iu,sQ,lM,Nat.sub_zero,iv,hw,W.froz1,X,JH,ZO,JI,U8,hn]
    refine⟨_,rfl,_,_,rfl,C, ?_, ?_, ?_⟩ <;> simp only[qA,seval,F,D]
  ·right
   rw[if_pos J]at C
   generalize mf z=e at*
   simp only[qA,seval,tb,F,H,D,I.lenI,iu,iv,W.froz1,X,JH,J]
   refine⟨_,_,jJ,rfl,by rw[Z,C,if_neg J],fun _=> ?_, ?_,rfl⟩ <;> simp only[qA,seval,C,D]
 ·rintro _ ⟨fr,U,rfl,C,F,H,D⟩
  rw[List.drop_length,KH]at C
  simp only[qA,seval,tb,F,H,D,I.lenI,Int.lt_irrefl]
  exact⟨_,_,jB,rfl,by rw[Z,C];rfl,fun h=>absurd C h,D,rfl⟩
theorem axi(I:List Zo)(K:T)(zc:List T)(z1:g8 K I.length zc)(z2:ic C0 I zc)(hzl:I.length≤100)(l:List Ap)(V a:T)(W:List T)(J:g8 a l.length W)(hc:ic L8 l W)(hlen:l.length≤100)(r:Int)(C:r=KI (I.map Zo.nm) [] l)(o:Out)(X:o=if r=0 then .ext 2 else .ret)(fr:Fr)(lh:hJ gR)(sh:List gR)
  (F:an fr 1= .ptr .L 1 1 0) (H:an fr 5= .i .i64 0) (D:a6 lh 1=⟨1,.cells [K,a,V] 0 true⟩):
  kV 96 ry fr lh sh o∧
  ((r≠0→an (kh pE 96 ry fr lh sh) 2= .i .i64 r)∧a6 (kH pE 96 ry fr lh sh) 1=⟨1,.cells [K,a,V] 0 true⟩∧kb pE 96 ry fr lh sh=sh):=by
 refine ib (P:=fun iq il iw=>(r≠0→an iq 2= .i .i64 r)∧a6 il 1=⟨1,.cells [K,a,V] 0 true⟩∧iw=sh)
  (ij (fun k st=> ∃(fr:Fr) (Y:hJ gR),st=⟨fr,Y,sh⟩∧r=KI (I.map Zo.nm) ((l.take k).map Ap.cd) (l.drop k)∧an fr 1= .ptr .L 1 1 0∧an fr 5= .i .i64 (k:Int)∧a6 Y 1=⟨1,.cells [K,a,V] 0 true⟩) _ l.length ?_ ?_ 0 _ (Nat.zero_le _) ⟨fr,lh,rfl,C,F,H,D⟩)
 ·rintro k _ Z ⟨fr,Y,rfl,C,F,H,D⟩
  have iu:(k:Int)<l.length:=by omega
  have sQ:k≤l.length:=by omega
  have hw:=iG (k:=k) (by omega)
  obtain⟨rr,iv⟩:=KJ J hc k Z
  have N:=acE l[k].cd
  have lM:=ic.len L8.len hc
  obtain⟨ex,rfl⟩:=XY Z J
  have lB:(l.take k).length=k:=by rw[List.length_take,Nat.min_eq_left sQ]
  obtain⟨v,ZO,JV⟩:=XW l[k].cd (l.take k) (.sl (W.take (k*2)) k (ex&&decide (k=l.length))) (W.take (k*2)) (by rw[lB];exact Or.inr ⟨_,rfl⟩) (ic.take L8.len k hc) (by rw[lB];omega)
  obtain⟨u,O,U⟩:=agr l[k].zn I K zc z1 z2 (by omega)
  rw[List.drop_eq_getElem_cons Z,KI]at C
  rw[AE Ap.cd Z]
  generalize (l.take k).map Ap.cd=seen at*
  generalize I.map Zo.nm=zs at*
  generalize l[k]=z at*
  cases hv:CC z.cd with
  |false=>
   right
   rw[if_pos hv]at C
   rw[hv]at N
   simp only[qA,seval,ry,F,H,D,J.lenI,iu,iv,N,Oz]
   refine⟨_,_,jJ,rfl,by rw[X,C];rfl,fun _=> ?_, ?_,rfl⟩ <;> simp only[qA,seval,C,D]
  |true=>
   rw[if_neg (by simp[hv])]at C
   rw[hv]at N
   by_cases hs:z.cd∈seen
   ·right
    rw[if_pos hs]at C
    have hn:0≤v:=by have: ¬v<0:=fun h=>(JV.1 h) hs;omega
    simp only[qA,seval,u9,iR,iy,ry,F,H,D,J.lenI,iu,sQ,lM,Nat.sub_zero,iv,N,Oz,ZO,qC,U9,hn]
    refine⟨_,_,jJ,rfl,by rw[X,C];rfl,fun _=> ?_, ?_,rfl⟩ <;> simp only[qA,seval,C,D]
   ·rw[if_neg hs]at C
    have hn: ¬0≤v:=by have:v<0:=JV.2 hs;omega
    by_cases hz:z.zn∈zs
    ·left
     rw[if_neg (by simp[hz])]at C
     have hm: ¬u<0:=fun h=>(U.1 h) hz
     simp only[qA,seval,u9,iR,iy,ry,F,H,D,J.lenI,iu,sQ,lM,Nat.sub_zero,iv,hw,N,Oz,ZO,qC,U9,hn,z1.froz,O,JI,hm]
     refine⟨_,rfl,_,_,rfl,C, ?_, ?_, ?_⟩ <;> simp only[qA,seval,F,D]
    ·right
     rw[if_pos hz]at C
     have hm:u<0:=U.2 hz
     simp only[qA,seval,u9,iR,iy,ry,F,H,D,J.lenI,iu,sQ,lM,Nat.sub_zero,iv,N,Oz,ZO,qC,U9,hn,z1.froz,O,JI,hm]
     refine⟨_,_,jJ,rfl,by rw[X,C];rfl,fun _=> ?_, ?_,rfl⟩ <;> simp only[qA,seval,C,D]
 ·rintro _ ⟨fr,Y,rfl,C,F,H,D⟩
  rw[List.drop_length,KI]at C
  simp only[qA,seval,ry,F,H,D,J.lenI,Int.lt_irrefl]
  exact⟨_,_,jB,rfl,by rw[X,C];rfl,fun h=>absurd C h,D,rfl⟩
theorem axj(t:Tt)(J K N:T)(V:vq t J K N)(ha:t.ap.length≤100)(hf:t.fl.length≤1000)(hN: ∀f∈t.fl,f.nu.length≤l6)(r:Int)(C:r=FI (t.ap.map Ap.cd) none t.fl)(o:Out)(W:o=if r=0 then .ext 4 else .ret)(fr:Fr)(lh:hJ gR)(sh:List gR)
  (D:an fr 1= .ptr .L 1 1 0) (H:an fr 7= .i .i64 0) (F:a6 lh 1=⟨1,.cells [J,K,N] 0 true⟩):
  kV 96 yz fr lh sh o∧
  ((r≠0→an (kh pE 96 yz fr lh sh) 2= .i .i64 r)∧kb pE 96 yz fr lh sh=sh):=by
 have U:=V
 obtain⟨⟨zc,X,z2⟩,⟨ac,a1,a2⟩,⟨fc,I,f2⟩⟩:=U
 refine ib (P:=fun iq il iw=>(r≠0→an iq 2= .i .i64 r)∧iw=sh)
  (ij (fun k st=> ∃(fr:Fr) (O:hJ gR),st=⟨fr,O,sh⟩∧r=FI (t.ap.map Ap.cd) (oE t.fl k) (t.fl.drop k)∧an fr 1= .ptr .L 1 1 0∧an fr 7= .i .i64 (k:Int)∧a6 O 1=⟨1,.cells [J,K,N] 0 true⟩) _ t.fl.length ?_ ?_ 0 _ (Nat.zero_le _) ⟨fr,lh,rfl,C,D,H,F⟩)
 ·rintro k _ Y ⟨fr,O,rfl,C,D,H,F⟩
  have Z:(k:Int)<t.fl.length:=by omega
  have hw:=iG (k:=k) (by omega)
  have xY:=No t J K N V ha hf hN k Y
  rw[XT _ Y]at C
  have L9:r=if flS (t.ap.map Ap.cd) (oE t.fl k) t.fl[k]≠0 then flS (t.ap.map Ap.cd) (oE t.fl k) t.fl[k]else FI (t.ap.map Ap.cd) (oE t.fl (k+1)) (t.fl.drop (k+1)):=by
   rw[C]
   unfold flS
   generalize FI (t.ap.map Ap.cd) (oE t.fl (k+1)) (t.fl.drop (k+1))=w
   generalize t.fl[k]=f
   generalize Ip (t.ap.map Ap.cd) f=q
   cases oE t.fl k with
   |none=>by_cases h:q=0 <;> simp[h]
   |some p=>by_cases h:q=0 <;> by_cases hb:CD p f=false <;> simp[h,hb]
  generalize flS (t.ap.map Ap.cd) (oE t.fl k) t.fl[k]=e at*
  by_cases q:e=0
  ·left
   subst q
   rw[if_neg (by simp)]at L9
   simp only[qA,seval,yz,D,H,F,X.froz1,a1.froz1,I.froz1,I.lenI,Z,hw,xY,aeo]
   refine⟨_,rfl,_,_,rfl,L9, ?_, ?_, ?_⟩ <;> simp only[qA,seval,D,F]
  ·right
   rw[if_pos q]at L9
   simp only[qA,seval,yz,D,H,F,X.froz1,a1.froz1,I.froz1,I.lenI,Z,xY,aeo,q]
   refine⟨_,_,jJ,rfl,by rw[W,L9,if_neg q],fun _=> ?_,rfl⟩
   simp only[qA,seval,L9]
 ·rintro _ ⟨fr,O,rfl,C,D,H,F⟩
  rw[List.drop_length,FI]at C
  simp only[qA,seval,yz,D,H,F,I.lenI,Int.lt_irrefl]
  exact⟨_,_,jB,rfl,by rw[W,C];rfl,fun h=>absurd C h,rfl⟩
theorem ajd(t:Tt)(D F H:T)(Z:vq t D F H)(hN: ∀f∈t.fl,f.nu.length≤l6):gS pE 92 [.agg [D,F,H]] []=some (.i .i64 (tq t),[]):=by
 have V:=Z
 obtain⟨⟨zc,r,z2⟩,⟨ac,a1,a2⟩,⟨fc,I,f2⟩⟩:=V
 rw[gX aoM (by simp[TN])]
 unfold tq
 by_cases O:16<t.zo.length
 ·have KK:(16:Int)<t.zo.length:=by omega
  simp only[qA,seval,TN,r.lenI,O,KK]
 have KK: ¬(16:Int)<t.zo.length:=by omega
 by_cases W:64<t.ap.length
 ·have Nn:(64:Int)<t.ap.length:=by omega
  simp only[qA,seval,TN,r.lenI,a1.lenI,O,KK,W,Nn]
 have Nn: ¬(64:Int)<t.ap.length:=by omega
 by_cases q3:200<t.fl.length
 ·have Ss:(200:Int)<t.fl.length:=by omega
  simp only[qA,seval,TN,r.lenI,a1.lenI,I.lenI,O,KK,W,Nn,q3,Ss]
 have Ss: ¬(200:Int)<t.fl.length:=by omega
 rw[if_neg O,if_neg W,if_neg q3]
 have C:=fun fr lh sh J h3 K=>axh t.zo F H D zc r z2 (by omega) _ rfl _ rfl fr lh sh J h3 K
 have N:=fun fr lh sh J h5 K=>axi t.zo D zc r z2 (by omega) t.ap H F ac a1 a2 (by omega) _ rfl _ rfl fr lh sh J h5 K
 have U:=fun fr lh sh J h7 K=>axj t D F H Z (by omega) (by omega) hN _ rfl _ rfl fr lh sh J h7 K
 generalize KH [] t.zo=r1 at*
 by_cases X:r1=0
 ·subst X
  rw[if_neg (by simp)]
  simp only[if_true,ne_eq,not_true_eq_false,false_implies,true_and]at C
  generalize KI (t.zo.map Zo.nm) [] t.ap=r2 at*
  by_cases Y:r2=0
  ·subst Y
   rw[if_neg (by simp)]
   simp only[if_true,ne_eq,not_true_eq_false,false_implies,true_and]at N
   generalize FI (t.ap.map Ap.cd) none t.fl=r3 at*
   by_cases e3:r3=0
   ·subst e3
    simp only[if_true,ne_eq,not_true_eq_false,false_implies,true_and]at U
    simp(maxDischargeDepth:=6) only[qA,seval,TN,Jv,Dj,r.lenI,a1.lenI,I.lenI,KK,Nn,Ss,C,N,U]
   ·simp only[e3,if_false,ne_eq,not_false_eq_true,forall_const]at U
    simp(maxDischargeDepth:=6) only[qA,seval,TN,Jv,Dj,r.lenI,a1.lenI,I.lenI,KK,Nn,Ss,C,N,U]
  ·rw[if_pos Y]
   simp only[Y,if_false,ne_eq,not_false_eq_true,forall_const]at N
   simp(maxDischargeDepth:=6) only[qA,seval,TN,Dj,r.lenI,a1.lenI,I.lenI,KK,Nn,Ss,C,N]
 ·rw[if_pos X]
  simp only[X,if_false,ne_eq,not_false_eq_true,forall_const]at C
  simp(maxDischargeDepth:=6) only[qA,seval,TN,r.lenI,a1.lenI,I.lenI,KK,Nn,Ss,C]
def Ep(sz:Nat):T→Bool
 | .sl ps 1 _=>decide (ps.length=sz∧0<sz)
 |_=>false
def GZ(sz:Nat):T→Bool
 | .nilsl=>true
 | .isl .S _ _ 0 _ i=>decide (i=sz)
 |_=>false
def PB(sh:List gR)(k bytes g len sz:Nat)(ps:List T)(e:gR):Option (T×List gR):=match e.ob with
 | .cells cs wm false=>if e.g=g∧len*sz=cs.length∧(len+1)*bytes≤roomy then some (.isl .S k (g+1) 0 (len+1) sz,jP sh k ⟨g+1,.cells (cs++ps) wm false⟩)else none
 |_=>none
def aje(sh:List gR)(bytes sz:Nat):T→T→Option (T×List gR)
 | .nilsl,.sl ps 1 _=>if bytes≤roomy then some (.isl .S sh.length 1 0 1 sz,jP sh sh.length ⟨1,.cells ps 0 false⟩)else none
 | .isl .S k g 0 len _,.sl ps 1 _=>PB sh k bytes g len sz ps (jr sh k)
 |_,_=>none
theorem jz{sz:Nat}{ps:List T}{ex:Bool}:Ep sz (.sl ps 1 ex)=decide (ps.length=sz∧0<sz):=nr rfl
theorem mD{sz:Nat}:GZ sz .nilsl=true:=nr rfl
theorem mE{k g len sz i:Nat}:GZ sz (.isl .S k g 0 len i)=decide (i=sz):=nr rfl
theorem m5{sh:List gR}{bytes sz:Nat}{ps:List T}{ex:Bool}:aje sh bytes sz .nilsl (.sl ps 1 ex)=if bytes≤roomy then some (.isl .S sh.length 1 0 1 sz,jP sh sh.length ⟨1,.cells ps 0 false⟩)else none:=nr rfl
theorem m6{sh:List gR}{k g len bytes sz i:Nat}{ps:List T}{ex:Bool}:aje sh bytes sz (.isl .S k g 0 len i) (.sl ps 1 ex)=PB sh k bytes g len sz ps (jr sh k):=nr rfl
theorem la{sh:List gR}{k g i len bytes wm sz:Nat}{ps:List T}{cs:List T}:PB sh k bytes g len sz ps ⟨i,.cells cs wm false⟩=if i=g∧len*sz=cs.length∧(len+1)*bytes≤roomy then some (.isl .S k (g+1) 0 (len+1) sz,jP sh k ⟨g+1,.cells (cs++ps) wm false⟩)else none:=nr rfl
theorem G0{sz:Nat}{t:T}(h:Ep sz t=true): ∃ps ex,t= .sl ps 1 ex∧ps.length=sz∧0<sz:=by
 unfold Ep at h
 split at h
 ·have:=of_decide_eq_true h;exact⟨_,_,rfl,this.1,this.2⟩
 ·cases h
theorem KN{sz:Nat}{t:T}(h:GZ sz t=true):t= .nilsl∨ ∃k g len,t= .isl .S k g 0 len sz:=by
 unfold GZ at h
 split at h
 ·exact .inl rfl
 ·have:=of_decide_eq_true h;subst this;exact .inr ⟨_,_,_,rfl⟩
 ·cases h
section
variable{E:Env}{call:rh}{n:Nat}{fr:Fr}{lh:hJ gR}{sh:List gR}{ds:List (List Nat×be)}{jM:List FP}{d:Option Nat}{os:List be}
theorem ma{D sz bytes:Nat}{s x:iz}(J:D<n)(i:Ep sz (rd fr x)=true)(hs:GZ sz (rd fr s)=true):gV E call n (⟨some D,.app sz bytes s x true false,none⟩::os) ⟨fr,lh,sh⟩=
  (aje sh bytes sz (rd fr s) (rd fr x)).bind fun q=>gV E call n os ⟨kj fr D q.1,lh,q.2⟩:=by
 obtain⟨ps,ex,i,N,O⟩:=G0 i
 have r:ps.length=1*sz:=by omega
 rw[qL (by rfl) (show FE n (some D)from J)]
 unfold Ev.one
 rcases KN hs with hs|⟨k,g,len,hs⟩
 ·simp only[jf,rA,js,hs,i,jQ,r,if_true,Q.run,Option.bind_some,m5]
  simp only[Nat.succ_ne_zero,if_false,Nat.one_mul]
  by_cases C:bytes≤roomy
  ·simp only[if_pos C,oT,Q.run,if_true];rfl
  ·simp only[if_neg C,Q.run];rfl
 ·have F:(St.mk fr lh sh).get .S k=jr sh k:=rfl
  rw[hs,i,m6]
  generalize U:jr sh k=e at*
  obtain⟨K,ob⟩:=e
  unfold PB
  simp only[jf,rA,js,hs,i,jQ,r,if_true,Q.run,Option.bind_some]
  simp only[Nat.succ_ne_zero,if_false,decide_true,Bool.true_and,decide_eq_true_eq]
  by_cases C:(len+1)*bytes≤roomy
  ·simp only[Q.run,F,if_true,C,and_true]
   by_cases H:K=g
   ·subst H
    simp only[if_true,true_and]
    cases ob with
    |none=>simp only[Q.run];rfl
    |map _ _ _=>simp only[Q.run];rfl
    |cells cs wm bx=>
     cases bx with
     |true=>simp only[Q.run];rfl
     |false=>
      simp only[]
      by_cases I:len*sz=cs.length
      ·simp only[if_pos I,Q.run];rfl
      ·simp only[if_neg I,Q.run];rfl
   ·simp only[Q.run,H,false_and,if_false]
    cases ob with
    |none=>rfl
    |map _ _ _=>rfl
    |cells cs wm bx=>cases bx <;> rfl
  ·simp only[C,if_false,Q.run,and_false]
   cases ob with
   |none=>rfl
   |map _ _ _=>rfl
   |cells cs wm bx=>cases bx <;> rfl
def KO(n:Nat):T→FP
 | .isl .S k _ _ _ _=>⟨false,[(.S,k)],[(.S,k)]⟩
 |_=>⟨true,[],[(.S,n)]⟩
theorem jx{i r:List (Sp×Nat)}{m:Nat}{t:T}(C:LZ i=true)(D:LZ r=true):apart ⟨false,i,r⟩ (KO m t)=true:=by
 have q: ∀(xs:List (Sp×Nat)) (k:Nat),LZ xs=true→(xs.all fun x=> !([(Sp.S,k)]:List (Sp×Nat)).contains x)=true:=by
  intro xs k h
  rw[List.all_eq_true]
  intro x F
  have:=List.all_eq_true.1 h x F
  obtain⟨sp,j⟩:=x
  cases sp with
  |L=>rfl
  |S=>simp at this
 have H: ∀(xs:List (Sp×Nat)),(xs.all fun x=> !([]:List (Sp×Nat)).contains x)=true:=by intro xs;rw[List.all_eq_true];intro x _;rfl
 unfold KO
 split
 ·unfold apart mS
  rw[q r _ D,q i _ C];rfl
 ·unfold apart mS
  dsimp only
  rw[q r _ D,q i _ C,H,C,D];rfl
theorem mb{u:List Nat}{D sz bytes:Nat}{s x:iz}(F:Ep sz (rd fr x)=true)(hs:GZ sz (rd fr s)=true):iK E call n ((u,⟨some D,.app sz bytes s x true false,none⟩)::ds) jM ⟨fr,lh,sh⟩=
  if meets u jM (KO sh.length (rd fr s))=true then ke E call n ds (jM++ [KO sh.length (rd fr s)]) (gV E call n [⟨some D,.app sz bytes s x true false,none⟩] ⟨fr,lh,sh⟩)else none:=by
 refine ve fun I=> ?_
 obtain⟨ps,ex,F,J,V⟩:=G0 F
 have K:jQ sz (rd fr x)= .ret (1,ps):=by rw[F];simp only[jQ,Nat.one_mul,J,if_true]
 obtain⟨v,N,i,r⟩:=yb (q:=rA D sz bytes (rd fr s) (rd fr x) true false) (by rfl) (by rw[lq];rfl) I
 unfold rA at i r
 rw[K]at i r
 simp only[Q.bind,Nat.one_ne_zero,if_false]at i r
 rcases KN hs with hs|⟨k,g,len,hs⟩
 ·rw[hs]at i r ⊢
  simp only at i r
  by_cases C:1*bytes≤roomy
  ·rw[if_pos C]at i r
   simp only[oT,if_true,Q.run,Option.some.injEq,Du.val.injEq]at i
   obtain⟨rfl,rfl⟩:=i
   rw[r (by simp[oT,Q.asks])]
   rfl
  ·rw[if_neg C]at i
   simp[Q.run]at i
 ·rw[hs]at i r ⊢
  simp only[decide_true,Bool.true_and,decide_eq_true_eq]at i r
  by_cases C:(len+1)*bytes≤roomy
  ·rw[if_pos (by simp[C])]at i r
   simp only[Q.run]at i
   generalize H:(St.mk fr lh sh).get .S k=e at i r
   obtain⟨W,ob⟩:=e
   simp only at i
   split at i
   ·rename_i O
    cases ob with
    |none=>simp[Q.run]at i
    |map a b c=>simp[Q.run]at i
    |cells Tp wm bx=>
     cases bx with
     |true=>simp[Q.run]at i
     |false=>
      simp only at i
      split at i
      ·rename_i U
       simp only[Q.run,Option.some.injEq,Du.val.injEq]at i
       obtain⟨rfl,rfl⟩:=i
       rw[r (by simp[yi,Dw,H])]
       simp only[Q.asks,Q.log,H,O,U,if_true,j6,List.map_cons,List.map_nil,KO]
      ·simp[Q.run]at i
   ·simp[Q.run]at i
  ·rw[if_neg (by simp[C])]at i
   simp[Q.run]at i
end
mutual
def Fm.us(p:Int):Fm→Bool
 | .mk op num args=>if op=6 then decide (num=p)else usL p args
def usL(p:Int):List Fm→Bool
 | []=>false
 |x::xs=>x.us p||usL p xs
end
theorem Fm.us_eq(p:Int)(x:Fm):x.us p=if x.op=6 then decide (x.num=p)else usL p x.args:=by obtain⟨_,_,_⟩:=x;rw[Fm.us];rfl
theorem KP: ∀xs:List Fm,xs.length≤yU xs
 | []=>by simp[yU]
 |x::xs=>by
  have i:=KP xs
  have r:=x.sz_eq
  rw[yU,List.length_cons];omega
mutual
theorem C2(r:List Nat→Int)(scope:Int): ∀x:Ex,(comp r scope x).sz≤x.nodes
 | .mk op num name args=>by
   have h:=KQ r scope args
   rw[Ex.nodes_eq,sR]
   show Fm.sz (if op=1∨op=2∨op=3 then .mk 1 num []else if op=4 then .mk 1 1 []else if op=5 then .mk 1 0 []else if op=6 then(match Ma scope name with|some i=> .mk 6 (i:Int) []|none=> .mk 1 (r name) [])else .mk op 0 (lR r scope args))≤1+jt args
   have l: ∀(a b:Int),Fm.sz (.mk a b [])≤1+jt args:=fun a b=>by rw[Fm.sz_eq];show 1+yU []≤_;rw[yU];omega
   split
   ·exact l _ _
   split
   ·exact l _ _
   split
   ·exact l _ _
   split
   ·split <;> exact l _ _
   ·rw[Fm.sz_eq];show 1+yU (lR r scope args)≤_;omega
theorem KQ(i:List Nat→Int)(scope:Int): ∀xs:List Ex,yU (lR i scope xs)≤jt xs
 | []=>by rw[lR,yU,jt];exact Nat.le_refl _
 |x::xs=>by
  have r:=C2 i scope x
  have C:=KQ i scope xs
  rw[lR,yU,jt];omega
end
section
variable(p:Int)
def usP(f:Fm):Prop:= ∀(b:T) (C r:List T),g8 b f.args.length C→iO f.args C→f.sz≤100000→gS pE 90 [.vp (.i .i64 f.op:: .i .i64 f.num::b::r),.i .i64 p] []=some (.b (f.us p),[])
theorem JU(op num:Int)(O:List T)(xs:List Fm)(ih: ∀y∈xs,usP p y)(a:T)(U:List T)(Z:g8 a xs.length U)(hx:iO xs U)(hn:yU xs≤100000)(r:Bool)(D:r=usL p xs)(o:Out)(V:o=if r then .ret else .ext 0)(fr:Fr)(lh:hJ gR)(sh:List gR)
  (F:an fr 0= .vp (.i .i64 op:: .i .i64 num::a::O)) (H:an fr 1= .i .i64 p) (C:an fr 21= .i .i64 (xs.length:Int)) (Tu:an fr 22= .i .i64 0):
  kV 34 yy fr lh sh o∧
  ((r=true→an (kh pE 34 yy fr lh sh) 4= .b true)∧kb pE 34 yy fr lh sh=sh):=by
 refine ib (P:=fun iq il iw=>(r=true→an iq 4= .b true)∧iw=sh)
  (ij (fun k st=> ∃(fr:Fr) (N:hJ gR),st=⟨fr,N,sh⟩∧r=usL p (xs.drop k)∧an fr 0= .vp (.i .i64 op:: .i .i64 num::a::O)∧an fr 1= .i .i64 p∧an fr 21= .i .i64 (xs.length:Int)∧an fr 22= .i .i64 (k:Int)) _ xs.length ?_ ?_ 0 _ (Nat.zero_le _) ⟨fr,lh,rfl,D,F,H,C,Tu⟩)
 ·rintro k _ I ⟨fr,N,rfl,D,F,H,C,Tu⟩
  have W:(k:Int)<xs.length:=by omega
  have X:=KP xs
  have hyk:=Er (List.getElem_mem I)
  have hw:=iD (k:=k) (ku (by omega))
  obtain⟨b,cb,r2,Y,jE,oV⟩:=XZ Z hx k I
  have J:=ih xs[k] (List.getElem_mem I) b cb r2 jE oV (by omega)
  rw[List.drop_eq_getElem_cons I,usL]at D
  generalize xs[k]=y at*
  cases K:y.us p with
  |true=>
   right
   rw[K]at J
   rw[K,Bool.true_or]at D
   simp only[qA,seval,yy,F,H,C,Tu,W,Y,J,aoK]
   refine⟨_,_,jJ,rfl,by rw[V,D];rfl,fun _=> ?_,rfl⟩
   simp only[qA,seval]
  |false=>
   left
   rw[K]at J
   rw[K,Bool.false_or]at D
   simp only[qA,seval,yy,F,H,C,Tu,W,Y,J,aoK,hw]
   refine⟨_,rfl,_,_,rfl,D, ?_, ?_, ?_, ?_⟩ <;> simp only[qA,seval,F,H,C]
 ·rintro _ ⟨fr,N,rfl,D,F,H,C,Tu⟩
  rw[List.drop_length,usL]at D
  simp only[qA,seval,yy,C,Tu,Int.lt_irrefl]
  exact⟨_,_,jB,rfl,by rw[V,D];rfl,fun h=>(by rw[D]at h;cases h),rfl⟩
theorem agt(f:Fm):usP p f:=by
 induction f using Fm.ind with
 |h f ih=>
  intro b I r D L9 O
  rw[gX ahG (by simp[c90]),Fm.us_eq]
  have hs:=f.sz_eq
  by_cases i:f.op=6
  ·simp only[qA,seval,c90,i]
  ·have C:=fun fr lh sh J K F Tu=>JU p f.op f.num r f.args (fun y N=>ih y N) b I D L9 (by omega) _ rfl _ rfl fr lh sh J K F Tu
   rw[if_neg i]
   cases H:usL p f.args with
   |true=>
    rw[H]at C
    simp only[qA,seval,c90,i,D.lenI,C]
   |false=>
    rw[H]at C
    simp only[qA,seval,c90,i,D.lenI,C]
end
theorem jI(R:List gR)(i j:Nat)(e:gR):jr (jP R i e) j=if j=i then e else jr R j:=xo _ _ _ _ _
theorem j5: ∀(R:List gR) (i:Nat) (a b:gR),jP (jP R i a) i b=jP R i b
 | [],0,a,b=>rfl
 | [],i+1,a,b=>by
   have:=j5 [] i a b
   unfold jP at this ⊢
   rw[pd,pd,pd,this]
 |x::R,0,a,b=>rfl
 |x::R,i+1,a,b=>by rw[tR,tR,tR,j5 R i a b]
theorem BD: ∀(R:List gR) (e:gR),(jP R R.length e).length=R.length+1
 | [],e=>rfl
 |x::R,e=>by rw[List.length_cons,tR,List.length_cons,BD R e]
section
variable(lT:T)(m:List (List Nat×Nat))(kn:List (Nat×Int))(R:List gR)
theorem G1(i:Nat):jr (lC lT m kn R) (i+7)=jr R i:=nr rfl
theorem tZ(i:Nat)(e:gR):jP (lC lT m kn R) (i+7) e=lC lT m kn (jP R i e):=nr rfl
theorem G2:(lC lT m kn R).length=R.length+7:=nr (by unfold lC;rw[List.length_append];show 7+R.length=_;omega)
end
def Z2(u:List Nat×Fm)(c:List T):Prop:= ∃i,c= .s u.1::i∧oG u.2 i
theorem Z2.len(u:List Nat×Fm)(c:List T)(h:Z2 u c):c.length=4:=by obtain⟨i,rfl,h⟩:=h;rw[List.length_cons,h.len]
abbrev RL:=List (List Nat×Fm)
def AZ(sz:Nat)(l:RL)(cs:List T):Prop:=(if sz=4 then ic Z2 l cs else iO (l.map Prod.snd) cs)∧ ∀u∈l,u.2.sz≤1000
theorem AZ.sz{sz:Nat}{l:RL}{cs:List T}(h:AZ sz l cs){u:List Nat×Fm}(i:u.2.sz≤1000): ∀v∈l++ [u],v.2.sz≤1000:=fun v hv=>by
 rcases List.mem_append.1 hv with hv|hv
 ·exact h.2 v hv
 ·rw[List.mem_singleton.1 hv];exact i
theorem AZ.app4{l:RL}{cs:List T}(h:AZ 4 l cs)(u:List Nat×Fm)(c:List T)(r:Z2 u c)(C:u.2.sz≤1000):AZ 4 (l++ [u]) (cs++c):=by
 refine⟨?_,h.sz C⟩
 have i:=h.1
 rw[if_pos rfl]at i ⊢
 exact ic.append i (ic.one r)
theorem AZ.app3{l:RL}{cs:List T}(h:AZ 3 l cs)(u:List Nat×Fm)(c:List T)(r:oG u.2 c)(C:u.2.sz≤1000):AZ 3 (l++ [u]) (cs++c):=by
 refine⟨?_,h.sz C⟩
 have i:=h.1
 rw[if_neg (by decide)]at i ⊢
 rw[List.map_append]
 exact iO.append i (iO.one r)
theorem AZ.nil(sz:Nat):AZ sz [] []:=by
 refine⟨?_,by simp⟩
 split
 ·rfl
 ·exact iO.nil
def RwK(R:List gR)(B:Nat)(p:Nat×T×RL):Prop:=(p.2.1= .nilsl∧p.2.2= [])∨ ∃i g n cs,p.2.1= .isl .S (i+7) g 0 n p.1∧jr R i=⟨g,.cells cs 0 false⟩∧i<R.length∧n*p.1=cs.length∧n≤B∧AZ p.1 p.2.2 cs
def kyZ:T→Option Nat
 | .isl .S k _ _ _ _=>some k
 |_=>none
theorem ra{k g o n s:Nat}:kyZ (.isl .S k g o n s)=some k:=rfl
def lD(R:List gR)(B:Nat)(r:List (Nat×T×RL)):Prop:=(∀p∈r,RwK R B p)∧ ∀i j:Nat,∀(hi:i<r.length) (C:j<r.length),i≠j→kyZ r[i].2.1=none∨kyZ r[i].2.1≠kyZ r[j].2.1
theorem RwK.mono{R:List gR}{B B':Nat}{p:Nat×T×RL}(h:RwK R B p)(I:B≤B'):RwK R B' p:=by
 rcases h with h|⟨i,g,n,cs,r,C,D,F,J,H⟩
 ·exact .inl h
 ·exact .inr ⟨i,g,n,cs,r,C,D,F,by omega,H⟩
theorem lD.mono{R:List gR}{B B':Nat}{i:List (Nat×T×RL)}(h:lD R B i)(r:B≤B'):lD R B' i:=⟨fun p C=>(h.1 p C).mono r,h.2⟩
theorem lD.new{R:List gR}{B:Nat}{C:List (Nat×T×RL)}(h:lD R B C)(J:1≤B)(j:Nat)(W:j<C.length){sz:Nat}(X:C[j].1=sz)(ps:List T)(K:ps.length=sz)(l:RL)(N:AZ sz l ps):
  lD (jP R R.length ⟨1,.cells ps 0 false⟩) B (C.set j (sz,.isl .S (R.length+7) 1 0 1 sz,l)):=by
 have To: ∀p∈C,RwK (jP R R.length ⟨1,.cells ps 0 false⟩) B p∧kyZ p.2.1≠some (R.length+7):=by
  intro p D
  rcases h.1 p D with r|⟨i,g,n,cs,r,F,Y,O,U,V⟩
  ·exact⟨.inl r,by rw[r.1];simp[kyZ]⟩
  ·refine⟨.inr ⟨i,g,n,cs,r, ?_, ?_,O,U,V⟩,by rw[r,ra];simp;omega⟩
   ·rw[jI,if_neg (by omega)];exact F
   ·rw[BD];omega
 refine⟨fun p D=> ?_,fun a b H I Np=> ?_⟩
 ·rcases List.mem_or_eq_of_mem_set D with D|rfl
  ·exact(To p D).1
  ·exact .inr ⟨R.length,1,1,ps,rfl,by rw[jI,if_pos rfl],by rw[BD];omega,by simp[K],J,N⟩
 ·rw[List.length_set]at H I
  rw[List.getElem_set,List.getElem_set]
  by_cases r:j=a
  ·rw[if_pos r,if_neg (by omega)]
   right
   rw[ra]
   exact fun e=>(To C[b] (List.getElem_mem I)).2 e.symm
  ·rw[if_neg r]
   by_cases F:j=b
   ·rw[if_pos F]
    right
    rw[ra]
    exact(To C[a] (List.getElem_mem H)).2
   ·rw[if_neg F];exact h.2 a b H I Np
theorem lD.app{R:List gR}{B:Nat}{C:List (Nat×T×RL)}(h:lD R B C)(j:Nat)(H:j<C.length){sz i g n:Nat}{cs:List T}(X:C[j].1=sz)(I:C[j].2.1= .isl .S (i+7) g 0 n sz)(Y:jr R i=⟨g,.cells cs 0 false⟩)(hi:i<R.length)(O:n*sz=cs.length)(Z:n≤B)(ps:List T)(U:ps.length=sz)(l:RL)(V:AZ sz l (cs++ps))(F:Nat):
  lD (jP R i ⟨F,.cells (cs++ps) 0 false⟩) (B+1) (C.set j (sz,.isl .S (i+7) F 0 (n+1) sz,l)):=by
 have K:(jP R i ⟨F,.cells (cs++ps) 0 false⟩).length=R.length:=wy _ _ _ hi
 refine⟨fun p W=> ?_,fun a b r J Np=> ?_⟩
 ·obtain⟨a,r,rfl⟩:=List.getElem_of_mem W
  rw[List.length_set]at r
  rw[List.getElem_set]
  by_cases D:j=a
  ·rw[if_pos D]
   exact .inr ⟨i,F,n+1,cs++ps,rfl,by rw[jI,if_pos rfl],by rw[K];exact hi,by rw[List.length_append,U,Nat.add_mul,O,Nat.one_mul],by omega,V⟩
  ·rw[if_neg D]
   have hd:=h.2 j a H r D
   rw[I,ra]at hd
   rcases h.1 C[a] (List.getElem_mem r)with q|⟨i',g2,n',Tp,q1,q2,q3,q4,q5,q6⟩
   ·exact .inl q
   ·refine .inr ⟨i',g2,n',Tp,q1, ?_,by rw[K];exact q3,q4,by omega,q6⟩
    rw[q1,ra]at hd
    rw[jI,if_neg (fun e=>by subst e;rcases hd with hd|hd <;> simp at hd)]
    exact q2
 ·rw[List.length_set]at r J
  rw[List.getElem_set,List.getElem_set]
  by_cases D:j=a
  ·rw[if_pos D,if_neg (by omega)]
   have:=h.2 j b H J (by omega)
   rw[I,ra]at this
   rw[ra];exact this
  ·rw[if_neg D]
   by_cases N:j=b
   ·rw[if_pos N]
    have:=h.2 a j r H (by omega)
    rw[I,ra]at this
    rw[ra];exact this
   ·rw[if_neg N];exact h.2 a b r J Np
theorem Es{α β:Type}[DecidableEq α]{s:α}: ∀{m:List (α×β)},s∉m.map Prod.fst→iF m s=none
 | [],_=>rfl
 |p::m,h=>by
  rw[List.map_cons,List.mem_cons,not_or]at h
  rw[iF,if_neg h.1,Es h.2]
theorem C0.fz{z:Zo}{c:List T}(h:C0 z c):c.all froz1=true∧c.length=3:=by
 obtain⟨a,r,rfl,i,_⟩:=h
 exact⟨by simp[i.froz1,H9,Al],rfl⟩
def Nq(i:List Zo)(m:List (List Nat×List T)):Prop:= ∀p∈m,∃z∈i,z.nm=p.1∧C0 z p.2
theorem PC{l:List (List Nat)}(i:l.Nodup){k:Nat}(r:k<l.length):l[k]∉l.take k:=by
 intro C
 obtain⟨j,D,e⟩:=List.getElem_of_mem C
 rw[List.length_take]at D
 rw[List.getElem_take]at e
 exact List.pairwise_iff_getElem.1 i j k (by omega) r (by omega) e
theorem nwz(l:List Zo)(hnd:(l.map Zo.nm).Nodup)(a:T)(cc:List T)(ha:g8 a l.length cc)(hc:ic C0 l cc)(hlen:l.length≤100)(X Y KR F:gR)(fr:Fr)(lh:hJ gR)(sh:List gR)
  (J:an fr 9= .mp .L 38 1) (C:an fr 40=a) (r:an fr 41= .i .i64 (l.length:Int)) (D:an fr 42= .i .i64 0) (K:a6 lh 2=X) (N:a6 lh 3=Y) (O:a6 lh 35=KR) (U:a6 lh 37=F) (KS:a6 lh 38=⟨1,.map [] [] false⟩):
  kV 232 pa fr lh sh (.ext 0)∧
  (a6 (kH pE 232 pa fr lh sh) 2=X∧a6 (kH pE 232 pa fr lh sh) 3=Y∧a6 (kH pE 232 pa fr lh sh) 35=KR∧a6 (kH pE 232 pa fr lh sh) 37=F∧(∃m,a6 (kH pE 232 pa fr lh sh) 38=⟨1,.map (m.map fun p=>sK p.1) (m.map fun p=>T.agg p.2) false⟩∧Nq l m∧m.map Prod.fst=l.map Zo.nm)∧kb pE 232 pa fr lh sh=sh):=by
 refine ib (P:=fun iq V iw=>a6 V 2=X∧a6 V 3=Y∧a6 V 35=KR∧a6 V 37=F∧(∃m,a6 V 38=⟨1,.map (m.map fun p=>sK p.1) (m.map fun p=>T.agg p.2) false⟩∧Nq l m∧m.map Prod.fst=l.map Zo.nm)∧iw=sh)
  (ij (fun k st=> ∃(fr:Fr) (H:hJ gR) (m:List (List Nat×List T)),st=⟨fr,H,sh⟩∧m.map Prod.fst=(l.map Zo.nm).take k∧Nq l m∧an fr 9= .mp .L 38 1∧an fr 40=a∧an fr 41= .i .i64 (l.length:Int)∧an fr 42= .i .i64 (k:Int)∧a6 H 2=X∧a6 H 3=Y∧a6 H 35=KR∧a6 H 37=F∧a6 H 38=⟨1,.map (m.map fun p=>sK p.1) (m.map fun p=>T.agg p.2) false⟩) _ l.length ?_ ?_ 0 _ (Nat.zero_le _) ⟨fr,lh,[],rfl,by simp,(fun p hp=>by cases hp),J,C,r,D,K,N,O,U,KS⟩)
 ·rintro k _ hk ⟨fr,H,m,rfl,Z,I,J,C,r,D,K,N,O,U,KS⟩
  left
  have iu:(k:Int)<l.length:=by omega
  have hw:=iG (k:=k) (by omega)
  obtain⟨W,sc,rr,iv,rE,yk⟩:=GW ha hc k hk
  have XP:k<(l.map Zo.nm).length:=by simpa using hk
  have tp:iF m l[k].nm=none:=Es (by rw[Z];have:=PC hnd XP;rwa [List.getElem_map]at this)
  have nF:rB (.one .str) (.s l[k].nm) (.agg [.s l[k].nm,.i .i64 l[k].o,W]) (m.map fun p=>sK p.1) (m.map fun p=>T.agg p.2)=_:=Aq (kT:=sK) (vT:=T.agg) FL m l[k].nm [.s l[k].nm,.i .i64 l[k].o,W] tp
  have hzr: ∃z∈l,z.nm=l[k].nm∧C0 z [.s l[k].nm,.i .i64 l[k].o,W]:=⟨l[k],List.getElem_mem hk,rfl,W,sc,rfl,rE,yk⟩
  have X0:(l.map Zo.nm).take (k+1)=(l.map Zo.nm).take k++ [l[k].nm]:=by rw[List.take_succ_eq_append_getElem XP,List.getElem_map]
  rw[X0]
  generalize l[k]=z at*
  simp only[qA,seval,pa,J,C,r,D,KS,iu,iv,hw,vf,Ch,nF,rE.froz1]
  refine⟨_,rfl,_,_,m++ [(z.nm,[.s z.nm,.i .i64 z.o,W])],rfl, ?_, ?_, ?_, ?_, ?_, ?_, ?_, ?_, ?_, ?_, ?_⟩
  ·rw[List.map_append,Z];rfl
  ·intro p hp
   rcases List.mem_append.1 hp with hp|hp
   ·exact I p hp
   ·rw[List.mem_singleton.1 hp];exact hzr
  all_goals (simp only[qA,seval,J,C,r,K,N,O,U])
 ·rintro _ ⟨fr,H,m,rfl,Z,I,J,C,r,D,K,N,O,U,KS⟩
  simp only[qA,seval,pa,r,D,Int.lt_irrefl]
  exact⟨_,_,jB,rfl,rfl,K,N,O,U,⟨m,KS,I,by rw[Z,List.take_of_length_le (by simp)]⟩,rfl⟩
def ml(r C D:T)(c:Ct)(F H I i J hU:T)(K:List T):List T:=r::C::D::(iS c F H I i J hU++ .mp .L 35 1::K)
theorem AF{α β:Type}[DecidableEq α]{s:α}{v:β}: ∀{m:List (α×β)},iF m s=some v→(s,v)∈m
 | [],h=>by cases h
 |p::m,h=>by
  rw[iF]at h
  split at h
  ·rename_i e;injection h with h;subst h;rw[e];exact List.mem_cons_self ..
  ·exact List.mem_cons_of_mem _ (AF h)
theorem BE{α β:Type}[DecidableEq α]{s:α}: ∀{m:List (α×β)},s∈m.map Prod.fst→ ∃v,iF m s=some v
 | [],h=>by cases h
 |p::m,h=>by
  rw[iF]
  split
  ·exact⟨_,rfl⟩
  ·rename_i e
   rw[List.map_cons,List.mem_cons]at h
   rcases h with h|h
   ·exact absurd h e
   ·exact BE h
def Sv(i:List Zo)(r:List Ap)(q:List (List Nat×List T)):Prop:= ∀p∈q,∃u∈r,u.cd=p.1∧ ∃z∈i,z.nm=u.zn∧C0 z p.2
theorem acJ{r:List Zo}{m:List (List Nat×List T)}(F:Nq r m)(H:m.map Prod.fst=r.map Zo.nm)(s:List Nat)(hs:s∈r.map Zo.nm): ∃v,(∃z∈r,z.nm=s∧C0 z v)∧nX (.one .str) (m.map fun p=>sK p.1) (m.map fun p=>T.agg p.2) (.s s) (.agg [.s [],.i .i64 0,.nilsl]) false=some (.agg v)∧v.all froz1=true∧v.length=3:=by
 have C:=Pu (kT:=sK) (vT:=T.agg) FL (fun _=>rfl) m s (.agg [.s [],.i .i64 0,.nilsl])
 obtain⟨v,h⟩:=BE (by rw[H];exact hs)
 rw[h]at C
 obtain⟨z,I,J,D⟩:=F _ (AF h)
 exact⟨v,⟨z,I,J,D⟩,C,D.fz⟩
theorem nwa(l:List Ap)(hnd:(l.map Ap.cd).Nodup)(a:T)(cc:List T)(ha:g8 a l.length cc)(hc:ic L8 l cc)(hlen:l.length≤100)(F:List Zo)(m:List (List Nat×List T))(I:Nq F m∧m.map Prod.fst=F.map Zo.nm)(hzn: ∀u∈l,u.zn∈F.map Zo.nm)(V W X:T)(c:Ct)(Y Z a9 r hZ hU:T)(vs:List T)(c2 c3:gR)(fr:Fr)(lh:hJ gR)(sh:List gR)
  (J:an fr 8= .ptr .L 37 1 0) (K:an fr 9= .mp .L 38 1) (Jj:an fr 52=a) (Ci:an fr 53= .i .i64 (l.length:Int)) (CE:an fr 54= .i .i64 0) (N:a6 lh 2=c2) (O:a6 lh 3=c3) (U:a6 lh 35=⟨1,.map [] [] false⟩) (C:a6 lh 37=⟨1,.cells (ml V W X c Y Z a9 r hZ hU vs) 0 true⟩) (KS:a6 lh 38=⟨1,.map (m.map fun p=>sK p.1) (m.map fun p=>T.agg p.2) false⟩):
  kV 232 ql fr lh sh (.ext 2)∧
  (a6 (kH pE 232 ql fr lh sh) 2=c2∧a6 (kH pE 232 ql fr lh sh) 3=c3∧a6 (kH pE 232 ql fr lh sh) 37=⟨1,.cells (ml V W X c Y Z a9 r hZ hU vs) 0 true⟩∧(∃q,a6 (kH pE 232 ql fr lh sh) 35=⟨1,.map (q.map fun p=>sK p.1) (q.map fun p=>T.agg p.2) false⟩∧Sv F l q∧q.map Prod.fst=l.map Ap.cd)∧kb pE 232 ql fr lh sh=sh):=by
 refine ib (P:=fun iq il iw=>a6 il 2=c2∧a6 il 3=c3∧a6 il 37=⟨1,.cells (ml V W X c Y Z a9 r hZ hU vs) 0 true⟩∧(∃q,a6 il 35=⟨1,.map (q.map fun p=>sK p.1) (q.map fun p=>T.agg p.2) false⟩∧Sv F l q∧q.map Prod.fst=l.map Ap.cd)∧iw=sh)
  (ij (fun k st=> ∃(fr:Fr) (D:hJ gR) (q:List (List Nat×List T)),st=⟨fr,D,sh⟩∧q.map Prod.fst=(l.map Ap.cd).take k∧Sv F l q∧an fr 8= .ptr .L 37 1 0∧an fr 9= .mp .L 38 1∧an fr 52=a∧an fr 53= .i .i64 (l.length:Int)∧an fr 54= .i .i64 (k:Int)∧a6 D 2=c2∧a6 D 3=c3∧a6 D 37=⟨1,.cells (ml V W X c Y Z a9 r hZ hU vs) 0 true⟩∧a6 D 38=⟨1,.map (m.map fun p=>sK p.1) (m.map fun p=>T.agg p.2) false⟩∧a6 D 35=⟨1,.map (q.map fun p=>sK p.1) (q.map fun p=>T.agg p.2) false⟩) _ l.length ?_ ?_ 0 _ (Nat.zero_le _) ⟨fr,lh,[],rfl,by simp,(fun p hp=>by cases hp),J,K,Jj,Ci,CE,N,O,C,KS,U⟩)
 ·rintro k _ hk ⟨fr,D,q,rfl,hq,H,J,K,Jj,Ci,CE,N,O,C,KS,U⟩
  left
  have iu:(k:Int)<l.length:=by omega
  have hw:=iG (k:=k) (by omega)
  obtain⟨rr,iv⟩:=KJ ha hc k hk
  have XP:k<(l.map Ap.cd).length:=by simpa using hk
  have tp:iF q l[k].cd=none:=Es (by rw[hq];have:=PC hnd XP;rwa [List.getElem_map]at this)
  obtain⟨v,hzv,lb,JV,hv3⟩:=acJ I.1 I.2 l[k].zn (hzn _ (List.getElem_mem hk))
  have hqv: ∃u∈l,u.cd=l[k].cd∧ ∃z∈F,z.nm=u.zn∧C0 z v:=⟨l[k],List.getElem_mem hk,rfl,hzv⟩
  have nF:rB (.one .str) (.s l[k].cd) (.agg v) (q.map fun p=>sK p.1) (q.map fun p=>T.agg p.2)=_:=Aq (kT:=sK) (vT:=T.agg) FL q l[k].cd v tp
  have X0:(l.map Ap.cd).take (k+1)=(l.map Ap.cd).take k++ [l[k].cd]:=by rw[List.take_succ_eq_append_getElem XP,List.getElem_map]
  rw[X0]
  generalize l[k]=z at*
  unfold ml iS at C ⊢
  simp only[List.cons_append,List.nil_append]at C ⊢
  simp only[qA,seval,iR,iy,ql,J,K,Jj,Ci,CE,U,C,KS,iu,iv,hw,ju,lb,JV,vf,Ch,nF]
  refine⟨_,rfl,_,_,q++ [(z.cd,v)],rfl, ?_, ?_, ?_, ?_, ?_, ?_, ?_, ?_, ?_, ?_, ?_, ?_⟩
  ·rw[List.map_append,hq];rfl
  ·intro p hp
   rcases List.mem_append.1 hp with hp|hp
   ·exact H p hp
   ·rw[List.mem_singleton.1 hp];exact hqv
  all_goals (simp only[qA,seval,J,K,Jj,Ci,N,O,C,KS])
 ·rintro _ ⟨fr,D,q,rfl,hq,H,J,K,Jj,Ci,CE,N,O,C,KS,U⟩
  simp only[qA,seval,ql,Ci,CE,Int.lt_irrefl]
  exact⟨_,_,jB,rfl,rfl,N,O,C,⟨q,U,H,by rw[hq,List.take_of_length_le (by simp)]⟩,rfl⟩
end Go.Proofs.YtblcbheipjeoeaaGreat
