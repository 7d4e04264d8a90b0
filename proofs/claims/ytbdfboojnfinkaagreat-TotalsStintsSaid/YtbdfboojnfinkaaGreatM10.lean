/- Walks of functions of the program and of the reference, and their plain laws, part 10. Conditions: the theorems' own. -/
import Derived.Test.YtbdfboojnfinkaaGreatM9
import Derived.KernelRfl
set_option maxRecDepth 100000
set_option linter.unusedSimpArgs false
set_option linter.unusedVariables false
set_option maxHeartbeats 16000000
namespace Go.Proofs.YtbdfboojnfinkaaGreat
open Go Go.Ev
theorem auU(c:Ct)(E a8 a9 iv iw iy zT aT fT H D I J K N O:T)(m:List (List Nat×Nat))(kn:List (Nat×Int))(UK:Bool)(R0:List ib)(l1 l2 l3 e1 e2 e3 er:RL)(Hb:wF R0 (nA H D I J K N O l1 l2 l3 e1 e2 e3 er))(U:Nat)(KG:(D= .nilsl∧U=0)∨ ∃i g,D= .isl .S (i+7) g 0 U 4)(FQ:U≤1000)(k2 k3 tY:ib)(fr:Fr)(lh:iz ib)(sh:List ib)(lC:sh=lp E m kn R0)
  (Y:an fr 8= .ptr .L 37 1 0) (V:an fr 181= .i .i64 (U:Int)) (hi:an fr 182= .i .i64 0) (o2:a6 lh 2=k2) (o3:a6 lh 3=k3) (mj:a6 lh 35=tY) (W:a6 lh 37=⟨1,.cells (ma zT aT fT c E a8 a9 iv iw iy (mB H D I J K N O (.b UK))) 0 true⟩):
  rD 232 ow fr lh sh (.ext 10)∧
  (a6 (lZ pE 232 ow fr lh sh) 2=k2∧a6 (lZ pE 232 ow fr lh sh) 3=k3∧a6 (lZ pE 232 ow fr lh sh) 35=tY∧ ∃(R:List ib) (F:Bool),ng pE 232 ow fr lh sh=lp E m kn R∧wF R (nA H D I J K N O l1 l2 l3 e1 e2 e3 er)∧a6 (lZ pE 232 ow fr lh sh) 37=⟨1,.cells (ma zT aT fT c E a8 a9 iv iw iy (mB H D I J K N O (.b F))) 0 true⟩):=by
 refine jc (P:=fun js iN jb=>a6 iN 2=k2∧a6 iN 3=k3∧a6 iN 35=tY∧ ∃(R:List ib) (F:Bool),jb=lp E m kn R∧wF R (nA H D I J K N O l1 l2 l3 e1 e2 e3 er)∧a6 iN 37=⟨1,.cells (ma zT aT fT c E a8 a9 iv iw iy (mB H D I J K N O (.b F))) 0 true⟩)
  (jm (fun k st=> ∃(fr:Fr) (Z:iz ib) (R:List ib) (F:Bool),st=⟨fr,Z,lp E m kn R⟩∧wF R (nA H D I J K N O l1 l2 l3 e1 e2 e3 er)∧an fr 8= .ptr .L 37 1 0∧an fr 181= .i .i64 (U:Int)∧an fr 182= .i .i64 (k:Int)∧a6 Z 2=k2∧a6 Z 3=k3∧a6 Z 35=tY∧a6 Z 37=⟨1,.cells (ma zT aT fT c E a8 a9 iv iw iy (mB H D I J K N O (.b F))) 0 true⟩) _ U ?_ ?_ 0 _ (Nat.zero_le _) ⟨fr,lh,R0,UK,by rw[lC],Hb,Y,V,hi,o2,o3,mj,W⟩)
 ·rintro k _ hk ⟨fr,Z,R,F,rfl,pP,Y,V,hi,o2,o3,mj,W⟩
  left
  have iR:(k:Int)<U:=by omega
  have hw:=iM (k:=k) (by omega)
  have DM: ∃i g,D= .isl .S (i+7) g 0 U 4:=by
   rcases KG with⟨_,h⟩|h
   ·omega
   ·exact h
  obtain⟨i0,g0,DM⟩:=DM
  rcases pP (4,D,l2) (by simp[nA])with⟨X,_⟩|⟨i,g,n,cs,wm,hv,hE,qh,hn,hB,hfz⟩
  ·simp only[DM]at X;cases X
  simp only[DM]at hv
  injection hv with _ q1 q2 _ q3 _
  have q1:i0=i:=by omega
  subst q1 q2 q3
  obtain⟨f,b,cb,r,hdr,hb,Ge,auW⟩:=hfz.at4 hn hk
  have hus:=acw (p:=1) f b cb r hb Ge (by omega)
  have hcz:=hfz.froz
  have hz: ∀lh,fzV lh (lp E m kn R) false (.ptr .S (i0+7) g0 (k*4+1))=some (.vp (.i .i64 f.op:: .i .i64 f.num::b::r),[(.S,i0+7,⟨g0,.cells cs cs.length false⟩)]):=fun lh=>by
   rw[IY (by rw[EF];exact hE) hcz,hdr]
  have hzL: ∀lh,Dn lh (lp E m kn R) false [.ptr .S (i0+7) g0 (k*4+1),.i .i64 1]=some ([.vp (.i .i64 f.op:: .i .i64 f.num::b::r),.i .i64 1],[(.S,i0+7,⟨g0,.cells cs cs.length false⟩)]):=fun lh=>by
   rw[rZ,rZ,FY,hz lh,uz (by rfl)];rfl
  have nQ: ∀x,scalar (.b x)=true:=fun _=>rfl
  unfold ma jf mB at W ⊢
  simp only[List.cons_append,List.nil_append,DM]at W ⊢
  cases F with
  |true=>
   simp only[qA,seval,ow,Y,V,hi,W,iR,hw]
   refine⟨_,rfl,_,_,R,true,rfl,(by rw[←DM];exact pP), ?_, ?_, ?_, ?_, ?_, ?_, ?_⟩
   all_goals (simp only[qA,seval,Y,V,o2,o3,mj])
  |false=>
   simp only[qA,seval,mf,ow,Y,V,hi,W,iR,hw,hzL,hus,nQ,akQ,hk]
   refine⟨_,rfl,_,_,R,f.us 1,rfl,(by rw[←DM];exact pP), ?_, ?_, ?_, ?_, ?_, ?_, ?_⟩
   all_goals (simp only[qA,seval,Y,V,o2,o3,mj])
 ·rintro _ ⟨fr,Z,R,F,rfl,pP,Y,V,hi,o2,o3,mj,W⟩
  simp only[qA,seval,ow,V,hi,Int.lt_irrefl]
  exact⟨_,_,qH,rfl,rfl,o2,o3,mj,R,F,rfl,pP,W⟩
theorem auZ(c:Ct)(E a8 a9 iv iw iy zT aT fT H I J K D N O:T)(m:List (List Nat×Nat))(kn:List (Nat×Int))(UK:Bool)(R0:List ib)(l1 l2 l3 e1 e2 e3 er:RL)(Hb:wF R0 (nA H I J K D N O l1 l2 l3 e1 e2 e3 er))(U:Nat)(KG:(D= .nilsl∧U=0)∨ ∃i g,D= .isl .S (i+7) g 0 U 3)(FQ:U≤1000)(k2 k3 tY:ib)(fr:Fr)(lh:iz ib)(sh:List ib)(lC:sh=lp E m kn R0)
  (Y:an fr 8= .ptr .L 37 1 0) (V:an fr 209= .i .i64 (U:Int)) (hi:an fr 210= .i .i64 0) (o2:a6 lh 2=k2) (o3:a6 lh 3=k3) (mj:a6 lh 35=tY) (W:a6 lh 37=⟨1,.cells (ma zT aT fT c E a8 a9 iv iw iy (mB H I J K D N O (.b UK))) 0 true⟩):
  rD 232 ov fr lh sh (.ext 12)∧
  (a6 (lZ pE 232 ov fr lh sh) 2=k2∧a6 (lZ pE 232 ov fr lh sh) 3=k3∧a6 (lZ pE 232 ov fr lh sh) 35=tY∧ ∃(R:List ib) (F:Bool),ng pE 232 ov fr lh sh=lp E m kn R∧wF R (nA H I J K D N O l1 l2 l3 e1 e2 e3 er)∧a6 (lZ pE 232 ov fr lh sh) 37=⟨1,.cells (ma zT aT fT c E a8 a9 iv iw iy (mB H I J K D N O (.b F))) 0 true⟩):=by
 refine jc (P:=fun js iN jb=>a6 iN 2=k2∧a6 iN 3=k3∧a6 iN 35=tY∧ ∃(R:List ib) (F:Bool),jb=lp E m kn R∧wF R (nA H I J K D N O l1 l2 l3 e1 e2 e3 er)∧a6 iN 37=⟨1,.cells (ma zT aT fT c E a8 a9 iv iw iy (mB H I J K D N O (.b F))) 0 true⟩)
  (jm (fun k st=> ∃(fr:Fr) (Z:iz ib) (R:List ib) (F:Bool),st=⟨fr,Z,lp E m kn R⟩∧wF R (nA H I J K D N O l1 l2 l3 e1 e2 e3 er)∧an fr 8= .ptr .L 37 1 0∧an fr 209= .i .i64 (U:Int)∧an fr 210= .i .i64 (k:Int)∧a6 Z 2=k2∧a6 Z 3=k3∧a6 Z 35=tY∧a6 Z 37=⟨1,.cells (ma zT aT fT c E a8 a9 iv iw iy (mB H I J K D N O (.b F))) 0 true⟩) _ U ?_ ?_ 0 _ (Nat.zero_le _) ⟨fr,lh,R0,UK,by rw[lC],Hb,Y,V,hi,o2,o3,mj,W⟩)
 ·rintro k _ hk ⟨fr,Z,R,F,rfl,pP,Y,V,hi,o2,o3,mj,W⟩
  left
  have iR:(k:Int)<U:=by omega
  have hw:=iM (k:=k) (by omega)
  have DM: ∃i g,D= .isl .S (i+7) g 0 U 3:=by
   rcases KG with⟨_,h⟩|h
   ·omega
   ·exact h
  obtain⟨i0,g0,DM⟩:=DM
  rcases pP (3,D,e2) (by simp[nA])with⟨X,_⟩|⟨i,g,n,cs,wm,hv,hE,qh,hn,hB,hfz⟩
  ·simp only[DM]at X;cases X
  simp only[DM]at hv
  injection hv with _ q1 q2 _ q3 _
  have q1:i0=i:=by omega
  subst q1 q2 q3
  obtain⟨f,b,cb,r,hdr,hb,Ge,auW⟩:=hfz.at3 hn hk
  have hus:=acw (p:=1) f b cb r hb Ge (by omega)
  have hcz:=hfz.froz
  have hz: ∀lh,fzV lh (lp E m kn R) false (.ptr .S (i0+7) g0 (k*3))=some (.vp (.i .i64 f.op:: .i .i64 f.num::b::r),[(.S,i0+7,⟨g0,.cells cs cs.length false⟩)]):=fun lh=>by
   rw[IY (by rw[EF];exact hE) hcz,hdr]
  have hzL: ∀lh,Dn lh (lp E m kn R) false [.ptr .S (i0+7) g0 (k*3),.i .i64 1]=some ([.vp (.i .i64 f.op:: .i .i64 f.num::b::r),.i .i64 1],[(.S,i0+7,⟨g0,.cells cs cs.length false⟩)]):=fun lh=>by
   rw[rZ,rZ,FY,hz lh,uz (by rfl)];rfl
  have nQ: ∀x,scalar (.b x)=true:=fun _=>rfl
  unfold ma jf mB at W ⊢
  simp only[List.cons_append,List.nil_append,DM]at W ⊢
  cases F with
  |true=>
   simp only[qA,seval,ov,Y,V,hi,W,iR,hw]
   refine⟨_,rfl,_,_,R,true,rfl,(by rw[←DM];exact pP), ?_, ?_, ?_, ?_, ?_, ?_, ?_⟩
   all_goals (simp only[qA,seval,Y,V,o2,o3,mj])
  |false=>
   simp only[qA,seval,mf,ov,Y,V,hi,W,iR,hw,hzL,hus,nQ,akQ,hk]
   refine⟨_,rfl,_,_,R,f.us 1,rfl,(by rw[←DM];exact pP), ?_, ?_, ?_, ?_, ?_, ?_, ?_⟩
   all_goals (simp only[qA,seval,Y,V,o2,o3,mj])
 ·rintro _ ⟨fr,Z,R,F,rfl,pP,Y,V,hi,o2,o3,mj,W⟩
  simp only[qA,seval,ov,V,hi,Int.lt_irrefl]
  exact⟨_,_,qH,rfl,rfl,o2,o3,mj,R,F,rfl,pP,W⟩
theorem au0{fr:Fr}{lh:iz ib}{sh:List ib}{D:Option (Out×St)}(l:List Zo)(F:(l.map Zo.nm).Nodup)(a:T)(H:List T)(W:IsSl a l.length H)(X:iB Dq l H)(E:l.length≤100)(I J AE Qr:ib)(Y:DC pE 232 (.loop oz) ⟨fr,lh,sh⟩=D)
  (Z:an fr 9= .mp .L 38 1) (K:an fr 40=a) (N:an fr 41= .i .i64 (l.length:Int)) (O:an fr 42= .i .i64 0) (o2:a6 lh 2=I) (o3:a6 lh 3=J) (mj:a6 lh 35=AE) (jR:a6 lh 37=Qr) (IZ:a6 lh 38=⟨1,.map [] [] false⟩):
  ∃(U:Fr) (h:iz ib) (V:List ib),D=some (.ext 0,⟨U,h,V⟩)∧(a6 h 2=I∧a6 h 3=J∧a6 h 35=AE∧a6 h 37=Qr∧(∃m,a6 h 38=⟨1,.map (m.map fun p=>sK p.1) (m.map fun p=>T.agg p.2) false⟩∧K9 l m∧m.map Prod.fst=l.map Zo.nm)∧V=sh)∧ ∀s,(jV (.loop oz)).contains s=false→an U s=an fr s:=by
 obtain⟨e,r⟩:=nwz l F a H W X E I J AE Qr fr lh sh Z K N O o2 o3 mj jR IZ
 exact⟨_,_,_,Y.symm.trans e,r,fun s hs=>nC e s hs⟩
theorem au1{fr:Fr}{lh:iz ib}{sh:List ib}{D:Option (Out×St)}(l:List Ap)(H:(l.map Ap.cd).Nodup)(a:T)(I:List T)(ha:IsSl a l.length I)(hc:iB La l I)(h:l.length≤100)(E:List Zo)(m:List (List Nat×List T))(J:K9 E m∧m.map Prod.fst=E.map Zo.nm)(K: ∀u∈l,u.zn∈E.map Zo.nm)(N O U:T)(c:Ct)(V W X Y Z iy:T)(vs:List T)(c2 c3:ib)(hD:DC pE 232 (.loop pn) ⟨fr,lh,sh⟩=D)
  (h8:an fr 8= .ptr .L 37 1 0) (h9:an fr 9= .mp .L 38 1) (Qv:an fr 52=a) (EG:an fr 53= .i .i64 (l.length:Int)) (Hc:an fr 54= .i .i64 0) (o2:a6 lh 2=c2) (o3:a6 lh 3=c3) (mj:a6 lh 35=⟨1,.map [] [] false⟩) (jR:a6 lh 37=⟨1,.cells (ma N O U c V W X Y Z iy vs) 0 true⟩) (IZ:a6 lh 38=⟨1,.map (m.map fun p=>sK p.1) (m.map fun p=>T.agg p.2) false⟩):
  ∃(js:Fr) (F:iz ib) (jb:List ib),D=some (.ext 2,⟨js,F,jb⟩)∧(a6 F 2=c2∧a6 F 3=c3∧a6 F 37=⟨1,.cells (ma N O U c V W X Y Z iy vs) 0 true⟩∧(∃q,a6 F 35=⟨1,.map (q.map fun p=>sK p.1) (q.map fun p=>T.agg p.2) false⟩∧PG E l q∧q.map Prod.fst=l.map Ap.cd)∧jb=sh)∧ ∀s,(jV (.loop pn)).contains s=false→an js s=an fr s:=by
 obtain⟨e,r⟩:=nwa l H a I ha hc h E m J K N O U c V W X Y Z iy vs c2 c3 fr lh sh h8 h9 Qv EG Hc o2 o3 mj jR IZ
 exact⟨_,_,_,hD.symm.trans e,r,fun s hs=>nC e s hs⟩
theorem au2{fr:Fr}{lh:iz ib}{sh:List ib}{D:Option (Out×St)}(c:Ct)(h E:T)(I J:List T)(i7:IsSl h c.cs.length I)(j7:kN c.cs I)(i8:IsSl E c.ru.length J)(j8:iB WN c.ru J)(F:c.ru.length≤40)(zC: ∀u∈c.ru,J7 c.cs u.sc u.x)(K N O U V W X Y:T)(Z c3 AE:ib)(CI:List (Nat×Int))(zD:oi c.cs CI)(hD:DC pE 232 (.loop mC) ⟨fr,lh,sh⟩=D)(lC:sh=lp h (jo c.cs c.cs.length) CI [])
  (h8:an fr 8= .ptr .L 37 1 0) (jN:an fr 14= .ptr .S 2 1 0) (I0:an fr 73=E) (Hd:an fr 74= .i .i64 (c.ru.length:Int)) (Qw:an fr 75= .i .i64 0) (o2:a6 lh 2=Z) (o3:a6 lh 3=c3) (mj:a6 lh 35=AE) (jR:a6 lh 37=⟨1,.cells (ma K N O c h E U V W X (mB .nilsl .nilsl .nilsl .nilsl .nilsl .nilsl .nilsl Y)) 0 true⟩):
  ∃(js:Fr) (H:iz ib) (jb:List ib),D=some (.ext 4,⟨js,H,jb⟩)∧(a6 H 2=Z∧a6 H 3=c3∧a6 H 35=AE∧ ∃(R:List ib) (kn:List (Nat×Int)) (r1 r2 r3:T),jb=lp h (jo c.cs c.cs.length) kn R∧oi c.cs kn∧lq R 40 (nA r1 r2 r3 .nilsl .nilsl .nilsl .nilsl (yC c 1 c.ru.length) (yC c 2 c.ru.length) (yC c 3 c.ru.length) [] [] [] [])∧a6 H 37=⟨1,.cells (ma K N O c h E U V W X (mB r1 r2 r3 .nilsl .nilsl .nilsl .nilsl Y)) 0 true⟩)∧ ∀s,(jV (.loop mC)).contains s=false→an js s=an fr s:=by
 obtain⟨e,r⟩:=nwr c h E I J i7 j7 i8 j8 F zC K N O U V W X Y Z c3 AE CI zD fr lh sh lC h8 jN I0 Hd Qw o2 o3 mj jR
 exact⟨_,_,_,hD.symm.trans e,r,fun s hs=>nC e s hs⟩
theorem au3{fr:Fr}{lh:iz ib}{sh:List ib}{D:Option (Out×St)}(c:Ct)(h E:T)(N O:List T)(i7:IsSl h c.cs.length N)(j7:kN c.cs N)(i9:IsSl E c.co.length O)(j9:iB CoR c.co O)(F:c.co.length≤40)(zC: ∀u∈c.co,J7 c.cs u.sc u.x)(U V W X Y Z iy nb H I J:T)(k2 k3 tY:ib)(CI:List (Nat×Int))(zD:oi c.cs CI)(R0:List ib)(l1 l2 l3:RL)(Hb:lq R0 40 (nA H I J .nilsl .nilsl .nilsl .nilsl l1 l2 l3 [] [] [] []))(hD:DC pE 232 (.loop pk) ⟨fr,lh,sh⟩=D)(lC:sh=lp h (jo c.cs c.cs.length) CI R0)
  (h8:an fr 8= .ptr .L 37 1 0) (jN:an fr 14= .ptr .S 2 1 0) (Lb:an fr 105=E) (I1:an fr 106= .i .i64 (c.co.length:Int)) (I2:an fr 107= .i .i64 0) (o2:a6 lh 2=k2) (o3:a6 lh 3=k3) (mj:a6 lh 35=tY) (jR:a6 lh 37=⟨1,.cells (ma U V W c h X E Y Z iy (mB H I J .nilsl .nilsl .nilsl .nilsl nb)) 0 true⟩):
  ∃(js:Fr) (K:iz ib) (jb:List ib),D=some (.ext 6,⟨js,K,jb⟩)∧(a6 K 2=k2∧a6 K 3=k3∧a6 K 35=tY∧ ∃(R:List ib) (kn:List (Nat×Int)) (c1 c2 c3:T),jb=lp h (jo c.cs c.cs.length) kn R∧oi c.cs kn∧lq R 80 (nA H I J c1 c2 c3 .nilsl l1 l2 l3 (AK c 1 c.co.length) (AK c 2 c.co.length) (AK c 3 c.co.length) [])∧a6 K 37=⟨1,.cells (ma U V W c h X E Y Z iy (mB H I J c1 c2 c3 .nilsl nb)) 0 true⟩)∧ ∀s,(jV (.loop pk)).contains s=false→an js s=an fr s:=by
 obtain⟨e,r⟩:=nwc c h E N O i7 j7 i9 j9 F zC U V W X Y Z iy nb H I J k2 k3 tY CI zD R0 l1 l2 l3 Hb fr lh sh lC h8 jN Lb I1 I2 o2 o3 mj jR
 exact⟨_,_,_,hD.symm.trans e,r,fun s hs=>nC e s hs⟩
theorem au4{fr:Fr}{lh:iz ib}{sh:List ib}{D:Option (Out×St)}(c:Ct)(h E:T)(V W:List T)(i7:IsSl h c.cs.length V)(j7:kN c.cs V)(X:IsSl E c.cr.length W)(As:jx c.cr W)(F:c.cr.length≤40)(zC: ∀u∈c.cr,J7 c.cs 1 u)(Y Z fT a8 a9 iw iy nb H I J K N O:T)(k2 k3 tY:ib)(CI:List (Nat×Int))(zD:oi c.cs CI)(R0:List ib)(l1 l2 l3 q1 q2 q3:RL)(Hb:lq R0 80 (nA H I J K N O .nilsl l1 l2 l3 q1 q2 q3 []))(hD:DC pE 232 (.loop oy) ⟨fr,lh,sh⟩=D)(lC:sh=lp h (jo c.cs c.cs.length) CI R0)
  (h8:an fr 8= .ptr .L 37 1 0) (jN:an fr 14= .ptr .S 2 1 0) (Gf:an fr 156=E) (DN:an fr 157= .i .i64 (c.cr.length:Int)) (I3:an fr 158= .i .i64 0) (o2:a6 lh 2=k2) (o3:a6 lh 3=k3) (mj:a6 lh 35=tY) (jR:a6 lh 37=⟨1,.cells (ma Y Z fT c h a8 a9 E iw iy (mB H I J K N O .nilsl nb)) 0 true⟩):
  ∃(js:Fr) (U:iz ib) (jb:List ib),D=some (.ext 8,⟨js,U,jb⟩)∧(a6 U 2=k2∧a6 U 3=k3∧a6 U 35=tY∧ ∃(R:List ib) (kn:List (Nat×Int)) (cr:T),jb=lp h (jo c.cs c.cs.length) kn R∧oi c.cs kn∧lq R 120 (nA H I J K N O cr l1 l2 l3 q1 q2 q3 (PH c c.cr.length))∧a6 U 37=⟨1,.cells (ma Y Z fT c h a8 a9 E iw iy (mB H I J K N O cr nb)) 0 true⟩)∧ ∀s,(jV (.loop oy)).contains s=false→an js s=an fr s:=by
 obtain⟨e,r⟩:=nwd c h E V W i7 j7 X As F zC Y Z fT a8 a9 iw iy nb H I J K N O k2 k3 tY CI zD R0 l1 l2 l3 q1 q2 q3 Hb fr lh sh lC h8 jN Gf DN I3 o2 o3 mj jR
 exact⟨_,_,_,hD.symm.trans e,r,fun s hs=>nC e s hs⟩
theorem aoy{fr:Fr}{lh:iz ib}{sh:List ib}{D:Option (Out×St)}(c:Ct)(E V W X Y Z zT aT fT F h H I J K N:T)(m:List (List Nat×Nat))(kn:List (Nat×Int))(UK:Bool)(R0:List ib)(l1 l2 l3 e1 e2 e3 er:RL)(Hb:wF R0 (nA F h H I J K N l1 l2 l3 e1 e2 e3 er))(O:Nat)(KG:(h= .nilsl∧O=0)∨ ∃i g,h= .isl .S (i+7) g 0 O 4)(FQ:O≤1000)(k2 k3 tY:ib)(hD:DC pE 232 (.loop ow) ⟨fr,lh,sh⟩=D)(lC:sh=lp E m kn R0)
  (h8:an fr 8= .ptr .L 37 1 0) (hl:an fr 181= .i .i64 (O:Int)) (hi:an fr 182= .i .i64 0) (o2:a6 lh 2=k2) (o3:a6 lh 3=k3) (mj:a6 lh 35=tY) (jR:a6 lh 37=⟨1,.cells (ma zT aT fT c E V W X Y Z (mB F h H I J K N (.b UK))) 0 true⟩):
  ∃(js:Fr) (U:iz ib) (jb:List ib),D=some (.ext 10,⟨js,U,jb⟩)∧(a6 U 2=k2∧a6 U 3=k3∧a6 U 35=tY∧ ∃(R:List ib) (nb:Bool),jb=lp E m kn R∧wF R (nA F h H I J K N l1 l2 l3 e1 e2 e3 er)∧a6 U 37=⟨1,.cells (ma zT aT fT c E V W X Y Z (mB F h H I J K N (.b nb))) 0 true⟩)∧ ∀s,(jV (.loop ow)).contains s=false→an js s=an fr s:=by
 obtain⟨e,r⟩:=auU c E V W X Y Z zT aT fT F h H I J K N m kn UK R0 l1 l2 l3 e1 e2 e3 er Hb O KG FQ k2 k3 tY fr lh sh lC h8 hl hi o2 o3 mj jR
 exact⟨_,_,_,hD.symm.trans e,r,fun s hs=>nC e s hs⟩
theorem aoz{fr:Fr}{lh:iz ib}{sh:List ib}{D:Option (Out×St)}(c:Ct)(E V W X Y Z zT aT fT F H I J h K N:T)(m:List (List Nat×Nat))(kn:List (Nat×Int))(UK:Bool)(R0:List ib)(l1 l2 l3 e1 e2 e3 er:RL)(Hb:wF R0 (nA F H I J h K N l1 l2 l3 e1 e2 e3 er))(O:Nat)(KG:(h= .nilsl∧O=0)∨ ∃i g,h= .isl .S (i+7) g 0 O 3)(FQ:O≤1000)(k2 k3 tY:ib)(hD:DC pE 232 (.loop ov) ⟨fr,lh,sh⟩=D)(lC:sh=lp E m kn R0)
  (h8:an fr 8= .ptr .L 37 1 0) (hl:an fr 209= .i .i64 (O:Int)) (hi:an fr 210= .i .i64 0) (o2:a6 lh 2=k2) (o3:a6 lh 3=k3) (mj:a6 lh 35=tY) (jR:a6 lh 37=⟨1,.cells (ma zT aT fT c E V W X Y Z (mB F H I J h K N (.b UK))) 0 true⟩):
  ∃(js:Fr) (U:iz ib) (jb:List ib),D=some (.ext 12,⟨js,U,jb⟩)∧(a6 U 2=k2∧a6 U 3=k3∧a6 U 35=tY∧ ∃(R:List ib) (nb:Bool),jb=lp E m kn R∧wF R (nA F H I J h K N l1 l2 l3 e1 e2 e3 er)∧a6 U 37=⟨1,.cells (ma zT aT fT c E V W X Y Z (mB F H I J h K N (.b nb))) 0 true⟩)∧ ∀s,(jV (.loop ov)).contains s=false→an js s=an fr s:=by
 obtain⟨e,r⟩:=auZ c E V W X Y Z zT aT fT F H I J h K N m kn UK R0 l1 l2 l3 e1 e2 e3 er Hb O KG FQ k2 k3 tY fr lh sh lC h8 hl hi o2 o3 mj jR
 exact⟨_,_,_,hD.symm.trans e,r,fun s hs=>nC e s hs⟩
theorem UL{R:List ib}{D:List (Nat×T×RL)}{sz:Nat}{v:T}(l:RL)(h:wF R D)(E:(sz,v,l)∈D): ∃n:Nat,((v= .nilsl∧n=0)∨ ∃i g,v= .isl .S (i+7) g 0 n sz)∧n≤1000∧lenI v=some (.i .i64 (n:Int)):=by
 rcases h _ E with⟨h,_⟩|⟨i,g,n,cs,wm,h1,h2,h3,h4,h5,h6⟩
 ·simp only at h;subst h;exact⟨0,.inl ⟨rfl,rfl⟩,by omega,rfl⟩
 ·simp only at h1;subst h1;exact⟨n,.inr ⟨i,g,rfl⟩,h5,rfl⟩
theorem UM{m:Nat}{lh:iz ib}{sh:List ib}{k g D:Nat}{cs:List T}{bx:Bool}(h:a6 lh k=⟨g,.cells cs D bx⟩):fzW (m+1) lh sh false (.ptr .L k g 0)=(xP m lh sh false cs).map fun q=>(.vp q.1,q.2++ [(.L,k,⟨g,.cells cs cs.length bx⟩)]):=by
 have E:(St.mk .nil lh sh).get .L k=a6 lh k:=rfl
 unfold fzW xP
 rw[fz]
 simp only[Bool.false_and,Bool.false_eq_true,if_false,Q.run,E,h,if_true,List.drop_zero]
 rw[jt]
 cases (jd (fz false (m+1)) cs).run (St.mk .nil lh sh).get sh.length <;> rfl
def UN(sz:Nat)(l:RL)(v:T):Prop:= ∃n cs,IsSl v n cs∧n*sz=cs.length∧yD sz l cs
theorem wG{R:List ib}{E:List (Nat×T×RL)}{sz:Nat}{v:T}(l:RL)(h:wF R E)(H:(sz,v,l)∈E)(F:T)(m:List (List Nat×Nat))(kn:List (Nat×Int)): ∃D us,froz1 D=true∧(∀lh n,fzW n lh (lp F m kn R) false v=some (D,us))∧UN sz l D:=by
 rcases h _ H with⟨h,hl⟩|⟨i,g,n,cs,wm,h1,h2,h3,h4,h5,h6⟩
 ·simp only at h hl;subst h hl;exact⟨.nilsl,[],rfl,fun lh n=>vt rfl,0,[],.inl ⟨rfl,rfl,rfl⟩,by simp,yD.nil sz⟩
 ·simp only at h1 h4 h6;subst h1
  refine⟨.sl ((cs.drop 0).take (n*sz)) n false,[(.S,i+7,⟨g,.cells cs cs.length false⟩)],rfl,fun lh k=> ?_,n,cs,.inr ⟨false,by rw[h4];simp⟩,h4,h6⟩
  have I:(St.mk .nil lh (lp F m kn R)).get .S (i+7)=jr R i:=EF _ _ _ _ _
  simp_all[fzW,fz,Bool.false_and,Bool.false_eq_true,Q.run,Nat.zero_add,Nat.le_refl]
def Gg(t:Tt)(c:Ct)(K:List T):Prop:= ∃(q:List (List Nat×List T)) (h D E F H I J:T) (N:Bool),K= [.vm (q.map fun p=>sK p.1) (q.map fun p=>T.agg p.2),.nilsl,h,D,E,.nilsl,F,H,I,J,.b N]∧PG t.zo t.ap q∧q.map Prod.fst=t.ap.map Ap.cd∧
 UN 4 (yC c 1 c.ru.length) h∧UN 4 (yC c 2 c.ru.length) D∧UN 4 (yC c 3 c.ru.length) E∧UN 3 (AK c 1 c.co.length) F∧UN 3 (AK c 2 c.co.length) H∧UN 3 (AK c 3 c.co.length) I∧UN 3 (PH c c.cr.length) J
theorem aoA(t:Tt)(c:Ct)(I J N F O U V W X:T)(hT:sI t I J N)(hC:tZ c F O U V W X)(hS:yc c)(ht:rL t=0)(hc:l0 c=0)(hnz:(t.zo.map Zo.nm).Nodup)(EH:t.zo.length≤100)(hna:(t.ap.map Ap.cd).Nodup)(hla:t.ap.length≤100)(hzn: ∀u∈t.ap,u.zn∈t.zo.map Zo.nm)
  (hru: ∀u∈c.ru,J7 c.cs u.sc u.x) (lru:c.ru.length≤40) (Ck: ∀u∈c.co,J7 c.cs u.sc u.x) (lco:c.co.length≤40) (XE: ∀u∈c.cr,J7 c.cs 1 u) (lcr:c.cr.length≤40) (lcs:c.cs.length≤32):
  ∃s vs,hZ pE 17 [.agg [I,J,N],.agg (jf c F O U V W X)] []=some (.tup [.vp (I::J::N::(jf c F O U V W X++vs)),.i .i64 0],s)∧vs.all froz1=true∧vs.length=11∧Gg t c vs:=by
 have WG:=Lc t I J N hT
 obtain⟨s1,hpc⟩:=MY c F O U V W X hC hS
 rw[ht]at WG
 rw[hc]at hpc
 obtain⟨⟨zc,z1,z2⟩,⟨ac,b1,b2⟩,⟨fc,f1,f2⟩⟩:=hT
 obtain⟨⟨c7,i7,j7⟩,⟨c8,i8,j8⟩,⟨c9,i9,j9⟩,⟨vU,i10,As⟩,⟨wT,i11,yF⟩,⟨yG,i12,DO⟩⟩:=hC
 have hfT:=f1.froz1
 have hnc:=afD c.cs F c7 i7 j7 (by unfold oh;omega)
 rw[show Gh F (jo c.cs c.cs.length) [] 4=lp F (jo c.cs c.cs.length) [] []by unfold lp;rw[List.append_nil]]at hnc
 have hk7:kept F=true:=by rcases i7 with⟨rfl,_,_⟩|⟨ex,rfl⟩ <;> rfl
 rw[im W9 (by simp[WX])]
 unfold jf at hpc ⊢
 simp only[qA,seval,WX,WG,hpc,adC,akN,z1.froz1,b1.froz1,f1.froz1,i7.froz1,i8.froz1,i9.froz1,i10.froz1,i11.froz1,i12.froz1,z1.lenI]
 generalize K:DC pE 232 (.loop oz) _=D
 obtain⟨f1,l1,s2,rfl,⟨o2,Y,mj,Z,⟨m,IZ,hm⟩,rfl⟩,H⟩:=au0 t.zo hnz I zc z1 z2 EH ⟨1,.cells [I,J,N] 0 true⟩ ⟨1,.cells [.i .i64 c.rp,.i .i64 c.rl,.i .i64 c.cn,.i .i64 c.st,.i .i64 c.ly,.i .i64 c.nf,.i .i64 c.nt,F,O,U,V,W,X,.i .i64 c.gu] 0 true⟩ ⟨1,.map [] [] false⟩ ⟨1,.cells (ma I J N c F O U V W X (mB .nilsl .nilsl .nilsl .nilsl .nilsl .nilsl .nilsl (.b false))) 0 true⟩ K (by simp only[qA,seval]) (by simp only[qA,seval]) (by simp only[qA,seval]) (by simp only[qA,seval]) (by simp only[qA,seval]) (by simp only[qA,seval]) (by simp only[qA,seval]) (by unfold ma jf mB;simp only[List.cons_append,List.nil_append];simp only[qA,seval]) (by simp only[qA,seval])
 have aoB:an f1 2= .ptr .L 2 1 0:=by rw[H 2 (by decide)];simp only[qA,seval]
 have au5:an f1 3= .ptr .L 3 1 0:=by rw[H 3 (by decide)];simp only[qA,seval]
 have aoC:an f1 8= .ptr .L 37 1 0:=by rw[H 8 (by decide)];simp only[qA,seval]
 have au6:an f1 9= .mp .L 38 1:=by rw[H 9 (by decide)];simp only[qA,seval]
 clear H
 simp only[qA,seval,aoB,o2,b1.lenI]
 have E:=Z
 unfold ma jf mB at E
 simp only[List.cons_append,List.nil_append]at E
 clear K
 generalize K:DC pE 232 (.loop pn) _=D
 obtain⟨f2,l1,s2,rfl,⟨o2,Y,Z,⟨q,mj,hq⟩,rfl⟩,H⟩:=au1 t.ap hna J ac b1 b2 hla t.zo m hm hzn I J N c F O U V W X (mB .nilsl .nilsl .nilsl .nilsl .nilsl .nilsl .nilsl (.b false)) ⟨1,.cells [I,J,N] 0 true⟩ ⟨1,.cells [.i .i64 c.rp,.i .i64 c.rl,.i .i64 c.cn,.i .i64 c.st,.i .i64 c.ly,.i .i64 c.nf,.i .i64 c.nt,F,O,U,V,W,X,.i .i64 c.gu] 0 true⟩ K (by simp only[qA,seval,aoC]) (by simp only[qA,seval,au6]) (by simp only[qA,seval]) (by simp only[qA,seval]) (by simp only[qA,seval]) (by simp only[o2]) (by simp only[Y]) (by simp only[mj]) (by unfold ma jf mB;simp only[List.cons_append,List.nil_append];simp only[E]) (by simp only[IZ])
 have aAc:an f2 2= .ptr .L 2 1 0:=by rw[H 2 (by decide)];simp(maxDischargeDepth:=6) only[qA,seval,aoB]
 have aoD:an f2 3= .ptr .L 3 1 0:=by rw[H 3 (by decide)];simp only[qA,seval,au5]
 have aoE:an f2 8= .ptr .L 37 1 0:=by rw[H 8 (by decide)];simp only[qA,seval,aoC]
 clear H E
 simp only[qA,seval,aoD,Y,hk7,hnc,asW,i8.lenI]
 have zD:oi c.cs []:=fun i v h=>by simp[iH]at h
 have E:=Z
 unfold ma jf mB at E
 simp only[List.cons_append,List.nil_append]at E
 clear K
 generalize K:DC pE 232 (.loop mC) _=D
 obtain⟨f3,l1,s2,rfl,⟨o2,Y,mj,R,kn,r1,r2,r3,rfl,ph,pP,Z⟩,H⟩:=au2 c F O c7 c8 i7 j7 i8 j8 lru hru I J N U V W X (.b false) ⟨1,.cells [I,J,N] 0 true⟩ ⟨1,.cells [.i .i64 c.rp,.i .i64 c.rl,.i .i64 c.cn,.i .i64 c.st,.i .i64 c.ly,.i .i64 c.nf,.i .i64 c.nt,F,O,U,V,W,X,.i .i64 c.gu] 0 true⟩ ⟨1,.map (q.map fun p=>sK p.1) (q.map fun p=>T.agg p.2) false⟩ [] zD K rfl (by simp only[qA,seval,aoE]) (by simp only[qA,seval]) (by simp only[qA,seval]) (by simp only[qA,seval]) (by simp only[qA,seval]) (by simp only[o2]) (by simp only[Y]) (by simp only[mj]) (by unfold ma jf mB;simp only[List.cons_append,List.nil_append];simp only[E])
 have aoF:an f3 3= .ptr .L 3 1 0:=by rw[H 3 (by decide)];simp only[qA,seval,aoD]
 have aoG:an f3 8= .ptr .L 37 1 0:=by rw[H 8 (by decide)];simp only[qA,seval,aoE]
 have acA:an f3 14= .ptr .S 2 1 0:=by rw[H 14 (by decide)];simp only[qA,seval]
 clear H E
 simp only[qA,seval,aoF,Y,i9.lenI]
 have E:=Z
 unfold ma jf mB at E
 simp only[List.cons_append,List.nil_append]at E
 clear K
 generalize K:DC pE 232 (.loop pk) _=D
 obtain⟨f4,l1,s2,rfl,⟨o2,Y,mj,R1,I4,c1,c2,c3,rfl,ph,pP,Z⟩,H⟩:=au3 c F U c7 c9 i7 j7 i9 j9 lco Ck I J N O V W X (.b false) r1 r2 r3 ⟨1,.cells [I,J,N] 0 true⟩ ⟨1,.cells [.i .i64 c.rp,.i .i64 c.rl,.i .i64 c.cn,.i .i64 c.st,.i .i64 c.ly,.i .i64 c.nf,.i .i64 c.nt,F,O,U,V,W,X,.i .i64 c.gu] 0 true⟩ ⟨1,.map (q.map fun p=>sK p.1) (q.map fun p=>T.agg p.2) false⟩ kn ph R _ _ _ pP K rfl (by simp only[qA,seval,aoG]) (by simp only[qA,seval,acA]) (by simp only[qA,seval]) (by simp only[qA,seval]) (by simp only[qA,seval]) (by simp only[o2]) (by simp only[Y]) (by simp only[mj]) (by unfold ma jf mB;simp only[List.cons_append,List.nil_append];simp only[E])
 have au7:an f4 3= .ptr .L 3 1 0:=by rw[H 3 (by decide)];simp only[qA,seval,aoF]
 have aoH:an f4 8= .ptr .L 37 1 0:=by rw[H 8 (by decide)];simp only[qA,seval,aoG]
 have aoI:an f4 14= .ptr .S 2 1 0:=by rw[H 14 (by decide)];simp only[qA,seval,acA]
 clear H E
 simp only[qA,seval,au7,Y,i10.lenI]
 have E:=Z
 unfold ma jf mB at E
 simp only[List.cons_append,List.nil_append]at E
 clear K
 generalize K:DC pE 232 (.loop oy) _=D
 obtain⟨f5,l1,s2,rfl,⟨o2,Y,mj,R2,MZ,cr,rfl,ph,pP,Z⟩,H⟩:=au4 c F V c7 vU i7 j7 i10 As lcr XE I J N O U W X (.b false) r1 r2 r3 c1 c2 c3 ⟨1,.cells [I,J,N] 0 true⟩ ⟨1,.cells [.i .i64 c.rp,.i .i64 c.rl,.i .i64 c.cn,.i .i64 c.st,.i .i64 c.ly,.i .i64 c.nf,.i .i64 c.nt,F,O,U,V,W,X,.i .i64 c.gu] 0 true⟩ ⟨1,.map (q.map fun p=>sK p.1) (q.map fun p=>T.agg p.2) false⟩ I4 ph R1 _ _ _ _ _ _ pP K rfl (by simp only[qA,seval,aoH]) (by simp only[qA,seval,aoI]) (by simp only[qA,seval]) (by simp only[qA,seval]) (by simp only[qA,seval]) (by simp only[o2]) (by simp only[Y]) (by simp only[mj]) (by unfold ma jf mB;simp only[List.cons_append,List.nil_append];simp only[E])
 have afE:an f5 8= .ptr .L 37 1 0:=by rw[H 8 (by decide)];simp only[qA,seval,aoH]
 clear H E
 have MX:=pP.toW (by omega)
 obtain⟨n2,KG,au8,Qu⟩:=UL (sz:=4) (v:=r2) (yC c 2 c.ru.length) MX (by simp[nA])
 obtain⟨n1,FQ,au9,J1⟩:=UL (sz:=3) (v:=c2) (AK c 2 c.co.length) MX (by simp[nA])
 have E:=Z
 unfold ma jf mB at E
 simp only[List.cons_append,List.nil_append]at E
 simp only[qA,seval,mf,afE,E,Qu]
 have E:=Z
 unfold ma jf mB at E
 simp only[List.cons_append,List.nil_append]at E
 clear K
 generalize K:DC pE 232 (.loop ow) _=D
 obtain⟨f6,l1,s2,rfl,⟨o2,Y,mj,R3,nb,rfl,hw3,Z⟩,H⟩:=aoy c F O U V W X I J N r1 r2 r3 c1 c2 c3 cr _ MZ false R2 _ _ _ _ _ _ _ MX n2 KG au8 ⟨1,.cells [I,J,N] 0 true⟩ ⟨1,.cells [.i .i64 c.rp,.i .i64 c.rl,.i .i64 c.cn,.i .i64 c.st,.i .i64 c.ly,.i .i64 c.nf,.i .i64 c.nt,F,O,U,V,W,X,.i .i64 c.gu] 0 true⟩ ⟨1,.map (q.map fun p=>sK p.1) (q.map fun p=>T.agg p.2) false⟩ K rfl (by simp only[qA,seval,afE]) (by simp only[qA,seval]) (by simp only[qA,seval]) (by simp only[o2]) (by simp only[Y]) (by simp only[mj]) (by unfold ma jf mB;simp only[List.cons_append,List.nil_append];simp only[E])
 have afF:an f6 8= .ptr .L 37 1 0:=by rw[H 8 (by decide)];simp only[qA,seval,afE]
 clear H E
 have E:=Z
 unfold ma jf mB at E
 simp only[List.cons_append,List.nil_append]at E
 simp only[qA,seval,mf,afF,E,J1]
 have E:=Z
 unfold ma jf mB at E
 simp only[List.cons_append,List.nil_append]at E
 clear K
 generalize K:DC pE 232 (.loop ov) _=D
 obtain⟨f7,l1,s2,rfl,⟨o2,Y,mj,R4,nb1,rfl,WM,Z⟩,H⟩:=aoz c F O U V W X I J N r1 r2 r3 c1 c2 c3 cr _ MZ nb R3 _ _ _ _ _ _ _ hw3 n1 FQ au9 ⟨1,.cells [I,J,N] 0 true⟩ ⟨1,.cells [.i .i64 c.rp,.i .i64 c.rl,.i .i64 c.cn,.i .i64 c.st,.i .i64 c.ly,.i .i64 c.nf,.i .i64 c.nt,F,O,U,V,W,X,.i .i64 c.gu] 0 true⟩ ⟨1,.map (q.map fun p=>sK p.1) (q.map fun p=>T.agg p.2) false⟩ K rfl (by simp only[qA,seval,afF]) (by simp only[qA,seval]) (by simp only[qA,seval]) (by simp only[o2]) (by simp only[Y]) (by simp only[mj]) (by unfold ma jf mB;simp only[List.cons_append,List.nil_append];simp only[E])
 have ava:an f7 8= .ptr .L 37 1 0:=by rw[H 8 (by decide)];simp only[qA,seval,afF]
 clear H E
 have E:=Z
 unfold ma jf mB at E
 simp only[List.cons_append,List.nil_append]at E
 simp only[qA,seval,ava]
 obtain⟨x0,u0,y0,w0,z0⟩:=wG (sz:=4) (v:=r1) (yC c 1 c.ru.length) WM (by simp[nA]) F (jo c.cs c.cs.length) MZ
 obtain⟨x1,u1,y1,w1,z1'⟩:=wG (sz:=4) (v:=r2) (yC c 2 c.ru.length) WM (by simp[nA]) F (jo c.cs c.cs.length) MZ
 obtain⟨x2,u2,y2,w2,z2'⟩:=wG (sz:=4) (v:=r3) (yC c 3 c.ru.length) WM (by simp[nA]) F (jo c.cs c.cs.length) MZ
 obtain⟨x3,u3,y3,w3,z3⟩:=wG (sz:=3) (v:=c1) (AK c 1 c.co.length) WM (by simp[nA]) F (jo c.cs c.cs.length) MZ
 obtain⟨x4,u4,y4,w4,z4⟩:=wG (sz:=3) (v:=c2) (AK c 2 c.co.length) WM (by simp[nA]) F (jo c.cs c.cs.length) MZ
 obtain⟨x5,u5,y5,w5,z5⟩:=wG (sz:=3) (v:=c3) (AK c 3 c.co.length) WM (by simp[nA]) F (jo c.cs c.cs.length) MZ
 obtain⟨x6,u6,y6,w6,z6⟩:=wG (sz:=3) (v:=cr) (PH c c.cr.length) WM (by simp[nA]) F (jo c.cs c.cs.length) MZ
 rw[UM E]
 simp only[qA,seval,mj,mpV,z1.froz1,b1.froz1,hfT,i7.froz1,i8.froz1,i9.froz1,i10.froz1,i11.froz1,i12.froz1,w0,w1,w2,w3,w4,w5,w6]
 refine⟨_,_,rfl, ?_, ?_,q,x0,x1,x2,x3,x4,x5,x6,nb1, ?_,hq.1,hq.2,z0,z1',z2',z3,z4,z5,z6⟩
 ·simp only[List.all_cons,List.all_nil,y0,y1,y2,y3,y4,y5,y6,Bool.and_true,Bool.true_and];rfl
 ·rfl
 ·rfl
theorem Zs(t:Tt)(c:Ct)(h D E F H I J K N:T)(O:sI t h D E)(U:tZ c F H I J K N)(V:rL t≠0):
  ∃s,hZ pE 17 [.agg [h,D,E],.agg (jf c F H I J K N)] []=some (.tup [.nilptr,.i .i64 (rL t)],s):=by
 have WG:=Lc t h D E O
 obtain⟨⟨zc,W,z2⟩,⟨ac,X,b2⟩,⟨fc,Y,f2⟩⟩:=O
 obtain⟨⟨c7,i7,j7⟩,⟨c8,i8,j8⟩,⟨c9,i9,j9⟩,⟨vU,Z,As⟩,⟨wT,i11,yF⟩,⟨yG,i12,DO⟩⟩:=U
 rw[im W9 (by simp[WX])]
 unfold jf
 simp only[qA,seval,WX,WG,V,adC,W.froz1,X.froz1,Y.froz1]
 exact⟨_,rfl⟩
theorem nzo: ∀(l:List Zo) (seen:List (List Nat)),He seen l=0→(l.map Zo.nm).Nodup∧ ∀z∈l,z.nm∉seen
 | [],seen,_=>⟨List.nodup_nil,fun z D=>by cases D⟩
 |z::r,seen,h=>by
  rw[He]at h
  by_cases E:nh z=0
  ·rw[if_neg (by simp[E])]at h
   by_cases F:z.nm∈seen
   ·grind
   ·rw[if_neg F]at h
    obtain⟨H,I⟩:=nzo r _ h
    grind
  ·grind
theorem nap(D:List (List Nat)): ∀(l:List Ap) (seen:List (List Nat)),Hf D seen l=0→(l.map Ap.cd).Nodup∧ ∀z∈l,z.cd∉seen
 | [],seen,_=>⟨List.nodup_nil,fun z I=>by cases I⟩
 |z::r,seen,h=>by
  rw[Hf]at h
  by_cases J:DP z.cd=false
  ·grind
  ·rw[if_neg J]at h
   by_cases E:z.cd∈seen
   ·grind
   ·rw[if_neg E]at h
    by_cases F:z.zn∉D
    ·rw[if_pos F]at h;cases h
    ·rw[if_neg F]at h
     obtain⟨K,H⟩:=nap D r _ h
     refine⟨?_,fun y hy=> ?_⟩
     ·rw[List.map_cons,List.nodup_cons]
      refine⟨fun N=> ?_,K⟩
      obtain⟨y,hy,e⟩:=List.mem_map.1 N
      exact H y hy (by rw[e];simp)
     ·rcases List.mem_cons.1 hy with rfl|hy
      ·exact E
      ·exact fun hs=>H y hy (by simp[hs])
theorem nzn(D:List (List Nat)): ∀(l:List Ap) (seen:List (List Nat)),Hf D seen l=0→ ∀u∈l,u.zn∈D
 | [],seen,_,u,hu=>by cases hu
 |z::r,seen,h,u,hu=>by
  rw[Hf]at h
  by_cases F:DP z.cd=false
  ·grind
  ·rw[if_neg F]at h
   by_cases H:z.cd∈seen
   ·grind
   ·rw[if_neg H]at h
    by_cases E:z.zn∉D
    ·rw[if_pos E]at h;cases h
    ·rw[if_neg E]at h
     rcases List.mem_cons.1 hu with rfl|hu
     ·simpa using E
     ·exact nzn D r _ h u hu
theorem nzs: ∀(l:List Zo) (seen:List (List Nat)),He seen l=0→ ∀z∈l,nh z=0
 | [],seen,_,u,hu=>by cases hu
 |z::r,seen,h,u,hu=>by
  rw[He]at h
  by_cases D:nh z=0
  ·rw[if_neg (by simp[D])]at h
   by_cases E:z.nm∈seen
   ·grind
   ·rw[if_neg E]at h
    rcases List.mem_cons.1 hu with rfl|hu
    ·exact D
    ·exact nzs r _ h u hu
  ·grind
theorem nfl(D:List (List Nat)): ∀(l:List Fl) (p:Option Fl),Gi D p l=0→ ∀f∈l,I5 D f=0
 | [],p,_,u,hu=>by cases hu
 |z::r,p,h,u,hu=>by
  unfold Gi at h
  by_cases F:I5 D z=0
  ·rw[if_neg (by simp[F])]at h
   have E:Gi D (some z) r=0:=by
    grind
   rcases List.mem_cons.1 hu with rfl|hu
   ·exact F
   ·exact nfl D r _ E u hu
  ·grind
theorem yf(t:Tt)(h:rL t=0):(∀z∈t.zo,nh z=0)∧(∀u∈t.ap,u.zn∈t.zo.map Zo.nm)∧(∀f∈t.fl,I5 (t.ap.map Ap.cd) f=0)∧t.fl.length≤200:=by
 unfold rL at h
 split at h
 ·cases h
 split at h
 ·cases h
 split at h
 ·cases h
 split at h
 ·grind
 split at h
 ·rename_i q;exact absurd h q
 rename_i a b c d e
 exact⟨nzs t.zo [] (by omega),nzn (t.zo.map Zo.nm) t.ap [] (by omega),nfl _ t.fl none h,by omega⟩
theorem Ld(t:Tt)(h:rL t=0):(t.zo.map Zo.nm).Nodup∧t.zo.length≤100∧(t.ap.map Ap.cd).Nodup∧t.ap.length≤100:=by
 unfold rL at h
 split at h
 ·cases h
 split at h
 ·cases h
 split at h
 ·cases h
 split at h
 ·grind
 split at h
 ·rename_i q;exact absurd h q
 rename_i a b c d e
 exact⟨(nzo t.zo [] (by omega)).1,by omega,(nap (t.zo.map Zo.nm) t.ap [] (by omega)).1,by omega⟩
theorem UO: ∀(l:List Ru) (seen:List (Int×List Nat)),J8 seen l=0→ ∀u∈l,Au u.sc 1 3=true∧jh u.x=0
 | [],seen,_,u,hu=>by cases hu
 |v::l,seen,h,u,hu=>by
  rw[J8]at h
  split at h
  ·cases h
  split at h
  ·cases h
  split at h
  ·grind
  rename_i a b c
  rcases List.mem_cons.1 hu with rfl|hu
  ·exact⟨by cases D:Au u.sc 1 3 with|true=>rfl|false=>exact absurd (.inl D) a,by omega⟩
  ·exact UO l _ h u hu
theorem UP: ∀(l:List Co),Le l=0→ ∀u∈l,Au u.sc 1 3=true∧jh u.x=0
 | [],_,u,hu=>by cases hu
 |v::l,h,u,hu=>by
  rw[Le]at h
  split at h
  ·cases h
  split at h
  ·grind
  rename_i a c
  rcases List.mem_cons.1 hu with rfl|hu
  ·grind
  ·exact UP l h u hu
theorem UQ: ∀(l:List Ex),Lf l=0→ ∀u∈l,jh u=0
 | [],_,u,hu=>by cases hu
 |v::l,h,u,hu=>by
  rw[Lf]at h
  split at h
  ·grind
  rename_i c
  rcases List.mem_cons.1 hu with rfl|hu
  ·omega
  ·exact UQ l h u hu
theorem UR{n:Int}(h:Au n 1 3=true):n=1∨n=2∨n=3:=by
 unfold Au at h
 simp only[Bool.and_eq_true,decide_eq_true_eq]at h
 omega
theorem Lh{l:Cs}{D:Int}{x:Ex}{w:Int}(F:jh x=0)(h:Lj l D x w=0): ∃k,x.ty (clk l (kB l l.length)) D=(k,0):=by
 have E:(si l D x).2=0:=by
  unfold Lj at h
  split at h
  ·cases h
  ·exact h
 unfold si at E
 rw[if_neg (by simp[F])]at E
 exact⟨(x.ty (clk l (kB l l.length)) D).1,Prod.ext rfl E⟩
theorem US(cs:Cs): ∀(l:List Ru),Lk cs l=0→ ∀u∈l,Lj cs u.sc u.x 4=0
 | [],_,u,hu=>by cases hu
 |v::l,h,u,hu=>by
  rw[Lk]at h
  split at h
  ·rename_i q;exact absurd h q
  rename_i c
  rcases List.mem_cons.1 hu with rfl|hu
  ·omega
  ·exact US cs l h u hu
theorem UT(cs:Cs): ∀(l:List Co),Ll cs l=0→ ∀u∈l,Lj cs u.sc u.x 1=0
 | [],_,u,hu=>by cases hu
 |v::l,h,u,hu=>by
  rw[Ll]at h
  split at h
  ·rename_i q;exact absurd h q
  rename_i c
  rcases List.mem_cons.1 hu with rfl|hu
  ·omega
  ·exact UT cs l h u hu
theorem UU(cs:Cs): ∀(l:List Ex),M0 cs l=0→ ∀u∈l,Lj cs 1 u 2=0
 | [],_,u,hu=>by cases hu
 |v::l,h,u,hu=>by
  rw[M0]at h
  split at h
  ·rename_i q;exact absurd h q
  rename_i c
  rcases List.mem_cons.1 hu with rfl|hu
  ·omega
  ·exact UU cs l h u hu
theorem yg(c:Ct)(h:l0 c=0):(∀u∈c.ru,J7 c.cs u.sc u.x)∧c.ru.length≤40∧(∀u∈c.co,J7 c.cs u.sc u.x)∧c.co.length≤40∧(∀u∈c.cr,J7 c.cs 1 u)∧c.cr.length≤40∧c.cs.length≤32:=by
 unfold l0 at h
 split at h
 ·rename_i q;exact absurd h q
 split at h
 ·rename_i q;exact absurd h q
 split at h
 ·rename_i q;exact absurd h q
 split at h
 ·rename_i q;exact absurd h q
 rename_i g _ r o
 have g:mK c=0:=by omega
 unfold mK at g
 split at g
 ·cases g
 split at g
 ·cases g
 split at g
 ·rename_i q;exact absurd g q
 split at g
 ·rename_i q;exact absurd g q
 split at g
 ·rename_i q;exact absurd g q
 split at g
 ·rename_i q;exact absurd g q
 rename_i _ sz _ E F H
 have sz:pI c=true:=by simpa using sz
 unfold pI at sz
 simp only[Bool.and_eq_true,decide_eq_true_eq]at sz
 refine⟨fun u D=> ?_,sz.2.1,fun u D=> ?_,by omega,fun u D=> ?_,by omega,sz.1⟩
 ·obtain⟨w,v⟩:=UO c.ru [] (by omega) u D
  exact⟨UR w,v,Lh v (US c.cs c.ru (by omega) u D)⟩
 ·obtain⟨w,v⟩:=UP c.co (by omega) u D
  exact⟨UR w,v,Lh v (UT c.cs c.co (by omega) u D)⟩
 ·have v:=UQ c.cr (by omega) u D
  exact⟨.inl rfl,v,Lh v (UU c.cs c.cr h u D)⟩
theorem afG(t:Tt)(c:Ct)(h D E F H I J K N:T)(W:sI t h D E)(X:tZ c F H I J K N)(Y:yc c)(U:rL t=0)(V:l0 c=0):
  ∃s O,hZ pE 17 [.agg [h,D,E],.agg (jf c F H I J K N)] []=some (.tup [.vp (h::D::E::(jf c F H I J K N++O)),.i .i64 0],s)∧O.all froz1=true∧O.length=11∧Gg t c O:=by
 obtain⟨Z,p2,p3,p4⟩:=Ld t U
 obtain⟨q1,q2,q3,q4,q5,q6,q7⟩:=yg c V
 exact aoA t c h D E F H I J K N W X Y U V Z p2 p3 p4 (yf t U).2.1 q1 q2 q3 q4 q5 q6 q7
theorem afH(I J F:T)(D K:List T)(n:Nat)(H:IsSl F n K)(i:Int):hZ pE 34 [.vp (I::J::F::D),.i .i64 i] []=some (.b (decide (0≤i∧i<(n:Int))),[]):=by
 rw[im akR (by simp[c34])]
 by_cases h:0≤i
 ·by_cases E:i<(n:Int)
  ·simp only[qA,seval,c34,H.lenI,h,E]
   try simp[h,E]
  ·simp only[qA,seval,c34,H.lenI,h,E]
   try simp[h,E]
 ·simp only[qA,seval,c34,h]
  try simp[h]
theorem Lm(F H D:T)(h E:List T)(l:List Fl)(I:IsSl D l.length E)(J:iB WO l E)(k:Nat)(K:k<l.length): ∃r,hZ pE 66 [.vp (F::H::D::h),.i .i64 (k:Int)] []=some (.vp (.s l[k].nu:: .s l[k].fr:: .s l[k].to:: .i .i64 l[k].dp:: .i .i64 l[k].ar:: .s l[k].ty:: .i .i64 l[k].n0:: .i .i64 l[k].n1:: .i .i64 l[k].n2::r),[]):=by
 obtain⟨r,N⟩:=sk I J k K
 refine⟨r, ?_⟩
 rw[im adS (by simp[c66])]
 simp only[qA,seval,c66,N]
def UW(c:Ct)(f g:Fl):Bool:=decide (f.to=g.fr)&&(decide (c.cn≤wr .i64 (g.dp-f.ar))&&decide (wr .i64 (g.dp-f.ar)≤c.st))
theorem afI(I J E K N O U V W:T)(c:Ct)(X F:List T)(l:List Fl)(Y:IsSl E l.length F)(Z:iB WO l F)(i j:Nat)(hi:i<l.length)(hj:j<l.length):hZ pE 35 [.vp (I::J::E::(jf c K N O U V W++X)),.i .i64 (i:Int),.i .i64 (j:Int)] []=some (.b (UW c l[i] l[j]),[]):=by
 obtain⟨r,h⟩:=Lm I J E (jf c K N O U V W++X) F l Y Z i hi
 obtain⟨r',D⟩:=Lm I J E (jf c K N O U V W++X) F l Y Z j hj
 rw[im adG (by simp[AE])]
 generalize l[i]=f at*
 generalize l[j]=g at*
 unfold jf at h D ⊢
 simp only[List.cons_append,List.nil_append]at h D ⊢
 unfold UW
 by_cases e:f.to=g.fr
 ·by_cases H:c.cn≤wr .i64 (g.dp-f.ar)
  ·simp only[qA,seval,AE,h,D,HW,e,H]
   try simp[e,H]
  ·simp only[qA,seval,AE,h,D,HW,e,H]
   try simp[e,H]
 ·simp only[qA,seval,AE,h,D,HW,e]
  try simp[e]
structure Sta where
 ff:Int
 fh:Bool
 lf:Int
 lh:Bool
 lg:Int
 hd:Int
 bl:Int
 lo:Int
 so:Int
 ty:List (List Nat)
def yh(n:Nat)(i:Int):Bool:=decide (0≤i∧i<(n:Int))
theorem M4{n a b:Int}:Au n a b=true↔a≤n∧n≤b:=by
 grind [Au]
def zE(f:Fl):Prop:=ou f.ty=true∧2880≤f.dp∧f.ar≤52593120∧f.dp<f.ar∧f.ar-f.dp≤1440
theorem afJ{D:List (List Nat)}{f:Fl}(h:I5 D f=0):zE f:=by
 unfold I5 at h
 split at h
 ·cases h
 split at h
 ·cases h
 split at h
 ·cases h
 split at h
 ·cases h
 split at h
 ·cases h
 split at h
 ·cases h
 rename_i a b c d e g
 have g:PI f=true:=by simpa using g
 unfold PI at g
 simp only[Bool.and_eq_true,decide_eq_true_eq]at g
 exact⟨by simpa using b,g⟩
theorem UX(D:List (List Nat)): ∀(l:List Fl) (p:Option Fl),Gi D p l=0→ ∀f∈l,zE f
 | [],_,_,f,hf=>by cases hf
 |g::r,p,h,f,hf=>by
  unfold Gi at h
  by_cases a:I5 D g=0
  ·rw[if_neg (by simp[a])]at h
   rcases List.mem_cons.1 hf with rfl|hf
   ·exact afJ a
   ·have:Gi D (some g) r=0:=by
     grind
    exact UX D r _ this f hf
  ·grind
theorem mL(t:Tt)(h:rL t=0):(∀f∈t.fl,zE f)∧t.fl.length≤200:=by
 unfold rL at h
 split at h
 ·cases h
 split at h
 ·cases h
 split at h
 ·cases h
 split at h
 ·grind
 split at h
 ·rename_i q;exact absurd h q
 rename_i a b c d e
 exact⟨UX _ _ _ h,by omega⟩
theorem UY(c:Ct)(h:l0 c=0):0≤c.cn∧c.cn≤1440∧c.st≤1440∧(0≤c.rp∧c.rp≤1440)∧(0≤c.rl∧c.rl≤1440):=by
 unfold l0 at h
 split at h
 ·grind
 rename_i g
 have g:mK c=0:=by omega
 unfold mK at g
 split at g
 ·cases g
 simp_all[pz,Bool.and_eq_true,M4]
end Go.Proofs.YtbdfboojnfinkaaGreat
