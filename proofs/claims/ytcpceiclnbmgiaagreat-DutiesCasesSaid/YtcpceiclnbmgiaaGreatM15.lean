/- Walks of functions of the program and of the reference, and their plain laws, part 15. Conditions: the theorems' own. -/
import Derived.Test.YtcpceiclnbmgiaaGreatGS
import Derived.Test.YtcpceiclnbmgiaaGreatM14
import Derived.KernelRfl
set_option maxRecDepth 100000
set_option linter.unusedSimpArgs false
set_option linter.unusedVariables false
set_option maxHeartbeats 16000000
namespace Go.Proofs.YtcpceiclnbmgiaaGreat
open Go Go.Ev
theorem aFV(c:Ct)(F a8 a9 H aw av zT aT fT J D K N O U cr:T)(m:List (List Nat×Nat))(kn:List (Nat×Int))(YG:Bool)(R0:List ah)(l1 l2 l3 e1 e2 e3 er:RL)(HI:tH R0 (iW J D K N O U cr l1 l2 l3 e1 e2 e3 er))(V:Nat)(Df:(D= .nilsl∧V=0)∨ ∃i g,D= .isl .S (i+7) g 0 V 4)(De:V≤1000)(k2 k3 qw:ah)(fr:Fr)(lh:aB ah)(sh:List ah)(fU:sh=eV F m kn R0)
  (Y:aa fr 8= .ptr .L 37 1 0) (W:aa fr 181= .i .i64 (V:Int)) (hi:aa fr 182= .i .i64 0) (o2:ab lh 2=k2) (o3:ab lh 3=k3) (gb:ab lh 35=qw) (X:ab lh 37=⟨1,.cells (fY zT aT fT c F a8 a9 H aw av (gw J D K N O U cr (.b YG))) 0 true⟩):
  mI 232 jR fr lh sh (.ext 10)∧
  (ab (iy pE 232 jR fr lh sh) 2=k2∧ab (iy pE 232 jR fr lh sh) 3=k3∧ab (iy pE 232 jR fr lh sh) 35=qw∧ ∃(R:List ah) (I:Bool),iF pE 232 jR fr lh sh=eV F m kn R∧tH R (iW J D K N O U cr l1 l2 l3 e1 e2 e3 er)∧ab (iy pE 232 jR fr lh sh) 37=⟨1,.cells (fY zT aT fT c F a8 a9 H aw av (gw J D K N O U cr (.b I))) 0 true⟩):=by
 refine bF (P:=fun bE aZ aY=>ab aZ 2=k2∧ab aZ 3=k3∧ab aZ 35=qw∧ ∃(R:List ah) (I:Bool),aY=eV F m kn R∧tH R (iW J D K N O U cr l1 l2 l3 e1 e2 e3 er)∧ab aZ 37=⟨1,.cells (fY zT aT fT c F a8 a9 H aw av (gw J D K N O U cr (.b I))) 0 true⟩)
  (cu (fun k st=> ∃(fr:Fr) (Z:aB ah) (R:List ah) (I:Bool),st=⟨fr,Z,eV F m kn R⟩∧tH R (iW J D K N O U cr l1 l2 l3 e1 e2 e3 er)∧aa fr 8= .ptr .L 37 1 0∧aa fr 181= .i .i64 (V:Int)∧aa fr 182= .i .i64 (k:Int)∧ab Z 2=k2∧ab Z 3=k3∧ab Z 35=qw∧ab Z 37=⟨1,.cells (fY zT aT fT c F a8 a9 H aw av (gw J D K N O U cr (.b I))) 0 true⟩) _ V ?_ ?_ 0 _ (Nat.zero_le _) ⟨fr,lh,R0,YG,by rw[fU],HI,Y,W,hi,o2,o3,gb,X⟩)
 ·rintro k _ hk ⟨fr,Z,R,I,rfl,lJ,Y,W,hi,o2,o3,gb,X⟩
  left
  have aN:(k:Int)<V:=zO
  have hw:=aI (k:=k) zO
  have B8: ∃i g,D= .isl .S (i+7) g 0 V 4:=by
   rcases Df with⟨_,h⟩|h
   ·omega
   ·exact h
  obtain⟨i0,g0,B8⟩:=B8
  rcases lJ (4,D,l2) (by simp[iW])with⟨gq,_⟩|⟨i,g,n,cs,wm,hv,hE,mC,hn,hB,hfz⟩
  ·simp only[B8]at gq;cases gq
  simp only[B8]at hv
  injection hv with _ q1 q2 _ q3 _
  have q1:i0=i:=zO
  subst q1 q2 q3
  obtain⟨f,b,cb,r,hdr,hb,hfs,aFW⟩:=hfz.at4 hn hk
  have hus:=ai9 (p:=1) f b cb r hb hfs zO
  have hcz:=hfz.froz
  have hz: ∀lh,fzV lh (eV F m kn R) false (.ptr .S (i0+7) g0 (k*4+1))=some (.vp (.i .i64 f.op:: .i .i64 f.num::b::r),[(.S,i0+7,⟨g0,.cells cs cs.length false⟩)]):=fun lh=>by
   rw[Jy (by rw[Ei];exact hE) hcz,hdr]
  have hzL: ∀lh,zD lh (eV F m kn R) false [.ptr .S (i0+7) g0 (k*4+1),.i .i64 1]=some ([.vp (.i .i64 f.op:: .i .i64 f.num::b::r),.i .i64 1],[(.S,i0+7,⟨g0,.cells cs cs.length false⟩)]):=fun lh=>by
   rw[l7,l7,zI,hz lh,od (by rfl)];rfl
  have fK: ∀x,scalar (.b x)=true:=fun _=>rfl
  unfold fY aR gw at X ⊢
  simp only[List.cons_append,List.nil_append,B8]at X ⊢
  cases I with
  |true=>
   simp only[qA,seval,jR,Y,W,hi,X,aN,hw]
   refine⟨_,rfl,_,_,R,true,rfl,(by rw[←B8];exact lJ), ?_, ?_, ?_, ?_, ?_, ?_, ?_⟩
   all_goals (simp only[qA,seval,Y,W,o2,o3,gb])
  |false=>
   simp only[qA,seval,eJ,jR,Y,W,hi,X,aN,hw,hzL,hus,fK,aun,hk]
   refine⟨_,rfl,_,_,R,f.us 1,rfl,(by rw[←B8];exact lJ), ?_, ?_, ?_, ?_, ?_, ?_, ?_⟩
   all_goals (simp only[qA,seval,Y,W,o2,o3,gb])
 ·rintro _ ⟨fr,Z,R,I,rfl,lJ,Y,W,hi,o2,o3,gb,X⟩
  simp only[qA,seval,jR,W,hi,Int.lt_irrefl]
  exact⟨_,_,k9,rfl,rfl,o2,o3,gb,R,I,rfl,lJ,X⟩
theorem aFZ(c:Ct)(F a8 a9 H aw av zT aT fT J K N O D U cr:T)(m:List (List Nat×Nat))(kn:List (Nat×Int))(YG:Bool)(R0:List ah)(l1 l2 l3 e1 e2 e3 er:RL)(HI:tH R0 (iW J K N O D U cr l1 l2 l3 e1 e2 e3 er))(V:Nat)(Df:(D= .nilsl∧V=0)∨ ∃i g,D= .isl .S (i+7) g 0 V 3)(De:V≤1000)(k2 k3 qw:ah)(fr:Fr)(lh:aB ah)(sh:List ah)(fU:sh=eV F m kn R0)
  (Y:aa fr 8= .ptr .L 37 1 0) (W:aa fr 209= .i .i64 (V:Int)) (hi:aa fr 210= .i .i64 0) (o2:ab lh 2=k2) (o3:ab lh 3=k3) (gb:ab lh 35=qw) (X:ab lh 37=⟨1,.cells (fY zT aT fT c F a8 a9 H aw av (gw J K N O D U cr (.b YG))) 0 true⟩):
  mI 232 jQ fr lh sh (.ext 12)∧
  (ab (iy pE 232 jQ fr lh sh) 2=k2∧ab (iy pE 232 jQ fr lh sh) 3=k3∧ab (iy pE 232 jQ fr lh sh) 35=qw∧ ∃(R:List ah) (I:Bool),iF pE 232 jQ fr lh sh=eV F m kn R∧tH R (iW J K N O D U cr l1 l2 l3 e1 e2 e3 er)∧ab (iy pE 232 jQ fr lh sh) 37=⟨1,.cells (fY zT aT fT c F a8 a9 H aw av (gw J K N O D U cr (.b I))) 0 true⟩):=by
 refine bF (P:=fun bE aZ aY=>ab aZ 2=k2∧ab aZ 3=k3∧ab aZ 35=qw∧ ∃(R:List ah) (I:Bool),aY=eV F m kn R∧tH R (iW J K N O D U cr l1 l2 l3 e1 e2 e3 er)∧ab aZ 37=⟨1,.cells (fY zT aT fT c F a8 a9 H aw av (gw J K N O D U cr (.b I))) 0 true⟩)
  (cu (fun k st=> ∃(fr:Fr) (Z:aB ah) (R:List ah) (I:Bool),st=⟨fr,Z,eV F m kn R⟩∧tH R (iW J K N O D U cr l1 l2 l3 e1 e2 e3 er)∧aa fr 8= .ptr .L 37 1 0∧aa fr 209= .i .i64 (V:Int)∧aa fr 210= .i .i64 (k:Int)∧ab Z 2=k2∧ab Z 3=k3∧ab Z 35=qw∧ab Z 37=⟨1,.cells (fY zT aT fT c F a8 a9 H aw av (gw J K N O D U cr (.b I))) 0 true⟩) _ V ?_ ?_ 0 _ (Nat.zero_le _) ⟨fr,lh,R0,YG,by rw[fU],HI,Y,W,hi,o2,o3,gb,X⟩)
 ·rintro k _ hk ⟨fr,Z,R,I,rfl,lJ,Y,W,hi,o2,o3,gb,X⟩
  left
  have aN:(k:Int)<V:=zO
  have hw:=aI (k:=k) zO
  have B8: ∃i g,D= .isl .S (i+7) g 0 V 3:=by
   rcases Df with⟨_,h⟩|h
   ·omega
   ·exact h
  obtain⟨i0,g0,B8⟩:=B8
  rcases lJ (3,D,e2) (by simp[iW])with⟨gq,_⟩|⟨i,g,n,cs,wm,hv,hE,mC,hn,hB,hfz⟩
  ·simp only[B8]at gq;cases gq
  simp only[B8]at hv
  injection hv with _ q1 q2 _ q3 _
  have q1:i0=i:=zO
  subst q1 q2 q3
  obtain⟨f,b,cb,r,hdr,hb,hfs,aFW⟩:=hfz.at3 hn hk
  have hus:=ai9 (p:=1) f b cb r hb hfs zO
  have hcz:=hfz.froz
  have hz: ∀lh,fzV lh (eV F m kn R) false (.ptr .S (i0+7) g0 (k*3))=some (.vp (.i .i64 f.op:: .i .i64 f.num::b::r),[(.S,i0+7,⟨g0,.cells cs cs.length false⟩)]):=fun lh=>by
   rw[Jy (by rw[Ei];exact hE) hcz,hdr]
  have hzL: ∀lh,zD lh (eV F m kn R) false [.ptr .S (i0+7) g0 (k*3),.i .i64 1]=some ([.vp (.i .i64 f.op:: .i .i64 f.num::b::r),.i .i64 1],[(.S,i0+7,⟨g0,.cells cs cs.length false⟩)]):=fun lh=>by
   rw[l7,l7,zI,hz lh,od (by rfl)];rfl
  have fK: ∀x,scalar (.b x)=true:=fun _=>rfl
  unfold fY aR gw at X ⊢
  simp only[List.cons_append,List.nil_append,B8]at X ⊢
  cases I with
  |true=>
   simp only[qA,seval,jQ,Y,W,hi,X,aN,hw]
   refine⟨_,rfl,_,_,R,true,rfl,(by rw[←B8];exact lJ), ?_, ?_, ?_, ?_, ?_, ?_, ?_⟩
   all_goals (simp only[qA,seval,Y,W,o2,o3,gb])
  |false=>
   simp only[qA,seval,eJ,jQ,Y,W,hi,X,aN,hw,hzL,hus,fK,aun,hk]
   refine⟨_,rfl,_,_,R,f.us 1,rfl,(by rw[←B8];exact lJ), ?_, ?_, ?_, ?_, ?_, ?_, ?_⟩
   all_goals (simp only[qA,seval,Y,W,o2,o3,gb])
 ·rintro _ ⟨fr,Z,R,I,rfl,lJ,Y,W,hi,o2,o3,gb,X⟩
  simp only[qA,seval,jQ,W,hi,Int.lt_irrefl]
  exact⟨_,_,k9,rfl,rfl,o2,o3,gb,R,I,rfl,lJ,X⟩
theorem aF0{fr:Fr}{lh:aB ah}{sh:List ah}{D:Option (Out×St)}(l:List Zo)(J:(l.map Zo.nm).Nodup)(a:T)(K:List T)(Y:IsSl a l.length K)(hc:aA BY l K)(I:l.length≤100)(N O uc F:ah)(Z:DC pE 232 (.loop jT) ⟨fr,lh,sh⟩=D)
  (h9:aa fr 9= .mp .L 38 1) (U:aa fr 40=a) (YB:aa fr 41= .i .i64 (l.length:Int)) (V:aa fr 42= .i .i64 0) (o2:ab lh 2=N) (o3:ab lh 3=O) (gb:ab lh 35=uc) (cU:ab lh 37=F) (Js:ab lh 38=⟨1,.map [] [] false⟩):
  ∃(W:Fr) (H:aB ah) (X:List ah),D=some (.ext 0,⟨W,H,X⟩)∧(ab H 2=N∧ab H 3=O∧ab H 35=uc∧ab H 37=F∧(∃m,ab H 38=⟨1,.map (m.map fun p=>sK p.1) (m.map fun p=>T.agg p.2) false⟩∧Ma l m∧m.map Prod.fst=l.map Zo.nm)∧X=sh)∧ ∀s,(jh (.loop jT)).contains s=false→aa W s=aa fr s:=by
 obtain⟨e,r⟩:=nwz l J a K Y hc I N O uc F fr lh sh h9 U YB V o2 o3 gb cU Js
 exact⟨_,_,_,Z.symm.trans e,r,fun s hs=>dY e s hs⟩
theorem aF1{fr:Fr}{lh:aB ah}{sh:List ah}{D:Option (Out×St)}(l:List Ap)(K:(l.map Ap.cd).Nodup)(a:T)(N:List T)(ha:IsSl a l.length N)(hc:aA L7 l N)(H:l.length≤100)(I:List Zo)(m:List (List Nat×List T))(O:Ma I m∧m.map Prod.fst=I.map Zo.nm)(U: ∀u∈l,u.zn∈I.map Zo.nm)(V W X:T)(c:Ct)(Y Z a9 F aw av:T)(vs:List T)(c2 c3:ah)(hD:DC pE 232 (.loop kY) ⟨fr,lh,sh⟩=D)
  (h8:aa fr 8= .ptr .L 37 1 0) (h9:aa fr 9= .mp .L 38 1) (SZ:aa fr 52=a) (yH:aa fr 53= .i .i64 (l.length:Int)) (zP:aa fr 54= .i .i64 0) (o2:ab lh 2=c2) (o3:ab lh 3=c3) (gb:ab lh 35=⟨1,.map [] [] false⟩) (cU:ab lh 37=⟨1,.cells (fY V W X c Y Z a9 F aw av vs) 0 true⟩) (Js:ab lh 38=⟨1,.map (m.map fun p=>sK p.1) (m.map fun p=>T.agg p.2) false⟩):
  ∃(bE:Fr) (J:aB ah) (aY:List ah),D=some (.ext 2,⟨bE,J,aY⟩)∧(ab J 2=c2∧ab J 3=c3∧ab J 37=⟨1,.cells (fY V W X c Y Z a9 F aw av vs) 0 true⟩∧(∃q,ab J 35=⟨1,.map (q.map fun p=>sK p.1) (q.map fun p=>T.agg p.2) false⟩∧RI I l q∧q.map Prod.fst=l.map Ap.cd)∧aY=sh)∧ ∀s,(jh (.loop kY)).contains s=false→aa bE s=aa fr s:=by
 obtain⟨e,r⟩:=nwa l K a N ha hc H I m O U V W X c Y Z a9 F aw av vs c2 c3 fr lh sh h8 h9 SZ yH zP o2 o3 gb cU Js
 exact⟨_,_,_,hD.symm.trans e,r,fun s hs=>dY e s hs⟩
theorem aF2{fr:Fr}{lh:aB ah}{sh:List ah}{D:Option (Out×St)}(c:Ct)(H I:T)(c7 c8:List T)(i7:IsSl H c.cs.length c7)(j7:dx c.cs c7)(i8:IsSl I c.ru.length c8)(j8:aA Ri c.ru c8)(J:c.ru.length≤40)(mg: ∀u∈c.ru,Jt c.cs u.sc u.x)(N O U V F W X Y:T)(Z c3 uc:ah)(B5:List (Nat×Int))(xg:jK c.cs B5)(hD:DC pE 232 (.loop gz) ⟨fr,lh,sh⟩=D)(fU:sh=eV H (bM c.cs c.cs.length) B5 [])
  (h8:aa fr 8= .ptr .L 37 1 0) (cH:aa fr 14= .ptr .S 2 1 0) (Ju:aa fr 73=I) (HH:aa fr 74= .i .i64 (c.ru.length:Int)) (S0:aa fr 75= .i .i64 0) (o2:ab lh 2=Z) (o3:ab lh 3=c3) (gb:ab lh 35=uc) (cU:ab lh 37=⟨1,.cells (fY N O U c H I V F W X (gw .nilsl .nilsl .nilsl .nilsl .nilsl .nilsl .nilsl Y)) 0 true⟩):
  ∃(bE:Fr) (K:aB ah) (aY:List ah),D=some (.ext 4,⟨bE,K,aY⟩)∧(ab K 2=Z∧ab K 3=c3∧ab K 35=uc∧ ∃(R:List ah) (kn:List (Nat×Int)) (r1 r2 r3:T),aY=eV H (bM c.cs c.cs.length) kn R∧jK c.cs kn∧eW R 40 (iW r1 r2 r3 .nilsl .nilsl .nilsl .nilsl (vz c 1 c.ru.length) (vz c 2 c.ru.length) (vz c 3 c.ru.length) [] [] [] [])∧ab K 37=⟨1,.cells (fY N O U c H I V F W X (gw r1 r2 r3 .nilsl .nilsl .nilsl .nilsl Y)) 0 true⟩)∧ ∀s,(jh (.loop gz)).contains s=false→aa bE s=aa fr s:=by
 obtain⟨e,r⟩:=nwr c H I c7 c8 i7 j7 i8 j8 J mg N O U V F W X Y Z c3 uc B5 xg fr lh sh fU h8 cH Ju HH S0 o2 o3 gb cU
 exact⟨_,_,_,hD.symm.trans e,r,fun s hs=>dY e s hs⟩
theorem aF3{fr:Fr}{lh:aB ah}{sh:List ah}{D:Option (Out×St)}(c:Ct)(H I:T)(c7 V:List T)(i7:IsSl H c.cs.length c7)(j7:dx c.cs c7)(i9:IsSl I c.co.length V)(j9:aA XZ c.co V)(J:c.co.length≤40)(mg: ∀u∈c.co,Jt c.cs u.sc u.x)(W X Y Z F aw av nb K N O:T)(k2 k3 qw:ah)(B5:List (Nat×Int))(xg:jK c.cs B5)(R0:List ah)(l1 l2 l3:RL)(HI:eW R0 40 (iW K N O .nilsl .nilsl .nilsl .nilsl l1 l2 l3 [] [] [] []))(hD:DC pE 232 (.loop kW) ⟨fr,lh,sh⟩=D)(fU:sh=eV H (bM c.cs c.cs.length) B5 R0)
  (h8:aa fr 8= .ptr .L 37 1 0) (cH:aa fr 14= .ptr .S 2 1 0) (Mb:aa fr 105=I) (Jv:aa fr 106= .i .i64 (c.co.length:Int)) (Jw:aa fr 107= .i .i64 0) (o2:ab lh 2=k2) (o3:ab lh 3=k3) (gb:ab lh 35=qw) (cU:ab lh 37=⟨1,.cells (fY W X Y c H Z I F aw av (gw K N O .nilsl .nilsl .nilsl .nilsl nb)) 0 true⟩):
  ∃(bE:Fr) (U:aB ah) (aY:List ah),D=some (.ext 6,⟨bE,U,aY⟩)∧(ab U 2=k2∧ab U 3=k3∧ab U 35=qw∧ ∃(R:List ah) (kn:List (Nat×Int)) (c1 c2 c3:T),aY=eV H (bM c.cs c.cs.length) kn R∧jK c.cs kn∧eW R 80 (iW K N O c1 c2 c3 .nilsl l1 l2 l3 (tF c 1 c.co.length) (tF c 2 c.co.length) (tF c 3 c.co.length) [])∧ab U 37=⟨1,.cells (fY W X Y c H Z I F aw av (gw K N O c1 c2 c3 .nilsl nb)) 0 true⟩)∧ ∀s,(jh (.loop kW)).contains s=false→aa bE s=aa fr s:=by
 obtain⟨e,r⟩:=nwc c H I c7 V i7 j7 i9 j9 J mg W X Y Z F aw av nb K N O k2 k3 qw B5 xg R0 l1 l2 l3 HI fr lh sh fU h8 cH Mb Jv Jw o2 o3 gb cU
 exact⟨_,_,_,hD.symm.trans e,r,fun s hs=>dY e s hs⟩
theorem aF4{fr:Fr}{lh:aB ah}{sh:List ah}{D:Option (Out×St)}(c:Ct)(H F:T)(c7 ta:List T)(i7:IsSl H c.cs.length c7)(j7:dx c.cs c7)(X:IsSl F c.cr.length ta)(ua:cG c.cr ta)(I:c.cr.length≤40)(mg: ∀u∈c.cr,Jt c.cs 1 u)(Y Z fT a8 a9 aw av nb J K N O U V:T)(k2 k3 qw:ah)(B5:List (Nat×Int))(xg:jK c.cs B5)(R0:List ah)(l1 l2 l3 q1 q2 q3:RL)(HI:eW R0 80 (iW J K N O U V .nilsl l1 l2 l3 q1 q2 q3 []))(hD:DC pE 232 (.loop jS) ⟨fr,lh,sh⟩=D)(fU:sh=eV H (bM c.cs c.cs.length) B5 R0)
  (h8:aa fr 8= .ptr .L 37 1 0) (cH:aa fr 14= .ptr .S 2 1 0) (Gu:aa fr 156=F) (Dp:aa fr 157= .i .i64 (c.cr.length:Int)) (Jx:aa fr 158= .i .i64 0) (o2:ab lh 2=k2) (o3:ab lh 3=k3) (gb:ab lh 35=qw) (cU:ab lh 37=⟨1,.cells (fY Y Z fT c H a8 a9 F aw av (gw J K N O U V .nilsl nb)) 0 true⟩):
  ∃(bE:Fr) (W:aB ah) (aY:List ah),D=some (.ext 8,⟨bE,W,aY⟩)∧(ab W 2=k2∧ab W 3=k3∧ab W 35=qw∧ ∃(R:List ah) (kn:List (Nat×Int)) (cr:T),aY=eV H (bM c.cs c.cs.length) kn R∧jK c.cs kn∧eW R 120 (iW J K N O U V cr l1 l2 l3 q1 q2 q3 (RJ c c.cr.length))∧ab W 37=⟨1,.cells (fY Y Z fT c H a8 a9 F aw av (gw J K N O U V cr nb)) 0 true⟩)∧ ∀s,(jh (.loop jS)).contains s=false→aa bE s=aa fr s:=by
 obtain⟨e,r⟩:=nwd c H F c7 ta i7 j7 X ua I mg Y Z fT a8 a9 aw av nb J K N O U V k2 k3 qw B5 xg R0 l1 l2 l3 q1 q2 q3 HI fr lh sh fU h8 cH Gu Dp Jx o2 o3 gb cU
 exact⟨_,_,_,hD.symm.trans e,r,fun s hs=>dY e s hs⟩
theorem ayz{fr:Fr}{lh:aB ah}{sh:List ah}{D:Option (Out×St)}(c:Ct)(I X Y F Z av zT aT fT J H K N O U cr:T)(m:List (List Nat×Nat))(kn:List (Nat×Int))(YG:Bool)(R0:List ah)(l1 l2 l3 e1 e2 e3 er:RL)(HI:tH R0 (iW J H K N O U cr l1 l2 l3 e1 e2 e3 er))(V:Nat)(Df:(H= .nilsl∧V=0)∨ ∃i g,H= .isl .S (i+7) g 0 V 4)(De:V≤1000)(k2 k3 qw:ah)(hD:DC pE 232 (.loop jR) ⟨fr,lh,sh⟩=D)(fU:sh=eV I m kn R0)
  (h8:aa fr 8= .ptr .L 37 1 0) (hl:aa fr 181= .i .i64 (V:Int)) (hi:aa fr 182= .i .i64 0) (o2:ab lh 2=k2) (o3:ab lh 3=k3) (gb:ab lh 35=qw) (cU:ab lh 37=⟨1,.cells (fY zT aT fT c I X Y F Z av (gw J H K N O U cr (.b YG))) 0 true⟩):
  ∃(bE:Fr) (W:aB ah) (aY:List ah),D=some (.ext 10,⟨bE,W,aY⟩)∧(ab W 2=k2∧ab W 3=k3∧ab W 35=qw∧ ∃(R:List ah) (nb:Bool),aY=eV I m kn R∧tH R (iW J H K N O U cr l1 l2 l3 e1 e2 e3 er)∧ab W 37=⟨1,.cells (fY zT aT fT c I X Y F Z av (gw J H K N O U cr (.b nb))) 0 true⟩)∧ ∀s,(jh (.loop jR)).contains s=false→aa bE s=aa fr s:=by
 obtain⟨e,r⟩:=aFV c I X Y F Z av zT aT fT J H K N O U cr m kn YG R0 l1 l2 l3 e1 e2 e3 er HI V Df De k2 k3 qw fr lh sh fU h8 hl hi o2 o3 gb cU
 exact⟨_,_,_,hD.symm.trans e,r,fun s hs=>dY e s hs⟩
theorem ayA{fr:Fr}{lh:aB ah}{sh:List ah}{D:Option (Out×St)}(c:Ct)(I X Y F Z av zT aT fT J K N O H U cr:T)(m:List (List Nat×Nat))(kn:List (Nat×Int))(YG:Bool)(R0:List ah)(l1 l2 l3 e1 e2 e3 er:RL)(HI:tH R0 (iW J K N O H U cr l1 l2 l3 e1 e2 e3 er))(V:Nat)(Df:(H= .nilsl∧V=0)∨ ∃i g,H= .isl .S (i+7) g 0 V 3)(De:V≤1000)(k2 k3 qw:ah)(hD:DC pE 232 (.loop jQ) ⟨fr,lh,sh⟩=D)(fU:sh=eV I m kn R0)
  (h8:aa fr 8= .ptr .L 37 1 0) (hl:aa fr 209= .i .i64 (V:Int)) (hi:aa fr 210= .i .i64 0) (o2:ab lh 2=k2) (o3:ab lh 3=k3) (gb:ab lh 35=qw) (cU:ab lh 37=⟨1,.cells (fY zT aT fT c I X Y F Z av (gw J K N O H U cr (.b YG))) 0 true⟩):
  ∃(bE:Fr) (W:aB ah) (aY:List ah),D=some (.ext 12,⟨bE,W,aY⟩)∧(ab W 2=k2∧ab W 3=k3∧ab W 35=qw∧ ∃(R:List ah) (nb:Bool),aY=eV I m kn R∧tH R (iW J K N O H U cr l1 l2 l3 e1 e2 e3 er)∧ab W 37=⟨1,.cells (fY zT aT fT c I X Y F Z av (gw J K N O H U cr (.b nb))) 0 true⟩)∧ ∀s,(jh (.loop jQ)).contains s=false→aa bE s=aa fr s:=by
 obtain⟨e,r⟩:=aFZ c I X Y F Z av zT aT fT J K N O H U cr m kn YG R0 l1 l2 l3 e1 e2 e3 er HI V Df De k2 k3 qw fr lh sh fU h8 hl hi o2 o3 gb cU
 exact⟨_,_,_,hD.symm.trans e,r,fun s hs=>dY e s hs⟩
theorem YH{R:List ah}{r:List (Nat×T×RL)}{sz:Nat}{v:T}(l:RL)(h:tH R r)(D:(sz,v,l)∈r): ∃n:Nat,((v= .nilsl∧n=0)∨ ∃i g,v= .isl .S (i+7) g 0 n sz)∧n≤1000∧lenI v=some (.i .i64 (n:Int)):=by
 rcases h _ D with⟨h,_⟩|⟨i,g,n,cs,wm,h1,h2,h3,h4,h5,h6⟩
 ·simp only at h;subst h;exact⟨0,.inl ⟨rfl,rfl⟩,by omega,rfl⟩
 ·simp only at h1;subst h1;exact⟨n,.inr ⟨i,g,rfl⟩,h5,rfl⟩
theorem YI{m:Nat}{lh:aB ah}{sh:List ah}{k g wm:Nat}{cs:List T}{bx:Bool}(h:ab lh k=⟨g,.cells cs wm bx⟩):fzW (m+1) lh sh false (.ptr .L k g 0)=(tw m lh sh false cs).map fun q=>(.vp q.1,q.2++ [(.L,k,⟨g,.cells cs cs.length bx⟩)]):=by
 have r:(St.mk .nil lh sh).get .L k=ab lh k:=rfl
 unfold fzW tw
 rw[fz]
 simp only[Bool.false_and,Bool.false_eq_true,if_false,Q.run,r,h,if_true,List.drop_zero]
 rw[bq]
 cases (bn (fz false (m+1)) cs).run (St.mk .nil lh sh).get sh.length <;> rfl
def KR(sz:Nat)(l:RL)(v:T):Prop:= ∃n cs,IsSl v n cs∧n*sz=cs.length∧we sz l cs
theorem tI{R:List ah}{D:List (Nat×T×RL)}{sz:Nat}{v:T}(l:RL)(h:tH R D)(H:(sz,v,l)∈D)(F:T)(m:List (List Nat×Nat))(kn:List (Nat×Int)): ∃r us,froz1 r=true∧(∀lh n,fzW n lh (eV F m kn R) false v=some (r,us))∧KR sz l r:=by
 rcases h _ H with⟨h,hl⟩|⟨i,g,n,cs,wm,h1,h2,h3,h4,h5,h6⟩
 ·simp only at h hl;subst h hl;exact⟨.nilsl,[],rfl,fun lh n=>wW rfl,0,[],.inl ⟨rfl,rfl,rfl⟩,by simp,we.nil sz⟩
 ·simp only at h1 h4 h6;subst h1
  refine⟨.sl ((cs.drop 0).take (n*sz)) n false,[(.S,i+7,⟨g,.cells cs cs.length false⟩)],rfl,fun lh k=> ?_,n,cs,.inr ⟨false,by rw[h4];simp⟩,h4,h6⟩
  have I:(St.mk .nil lh (eV F m kn R)).get .S (i+7)=aE R i:=Ei _ _ _ _ _
  simp_all[fzW,fz,Bool.false_and,Bool.false_eq_true,Q.run,Nat.zero_add,Nat.le_refl]
def Jz(t:Tt)(c:Ct)(K:List T):Prop:= ∃(q:List (List Nat×List T)) (r D F H I J cr:T) (N:Bool),K= [.vm (q.map fun p=>sK p.1) (q.map fun p=>T.agg p.2),.nilsl,r,D,F,.nilsl,H,I,J,cr,.b N]∧RI t.zo t.ap q∧q.map Prod.fst=t.ap.map Ap.cd∧
 KR 4 (vz c 1 c.ru.length) r∧KR 4 (vz c 2 c.ru.length) D∧KR 4 (vz c 3 c.ru.length) F∧KR 3 (tF c 1 c.co.length) H∧KR 3 (tF c 2 c.co.length) I∧KR 3 (tF c 3 c.co.length) J∧KR 3 (RJ c c.cr.length) cr
theorem ayB(t:Tt)(c:Ct)(J K O H U V F W X:T)(hT:ow t J K O)(hC:oP c H U V F W X)(hS:vn c)(ht:ou t=0)(hc:fI c=0)(hnz:(t.zo.map Zo.nm).Nodup)(hlz:t.zo.length≤100)(hna:(t.ap.map Ap.cd).Nodup)(Oz:t.ap.length≤100)(hzn: ∀u∈t.ap,u.zn∈t.zo.map Zo.nm)
  (hru: ∀u∈c.ru,Jt c.cs u.sc u.x) (lru:c.ru.length≤40) (qa: ∀u∈c.co,Jt c.cs u.sc u.x) (lco:c.co.length≤40) (NG: ∀u∈c.cr,Jt c.cs 1 u) (lcr:c.cr.length≤40) (lcs:c.cs.length≤32):
  ∃s vs,ae pE 23 [.agg [J,K,O],.agg (aR c H U V F W X)] []=some (.tup [.vp (J::K::O::(aR c H U V F W X++vs)),.i .i64 0],s)∧vs.all froz1=true∧vs.length=11∧Jz t c vs:=by
 have hpt:=L8 t J K O hT
 obtain⟨s1,hpc⟩:=Oo c H U V F W X hC hS
 rw[ht]at hpt
 rw[hc]at hpc
 obtain⟨⟨zc,z1,z2⟩,⟨ac,b1,b2⟩,⟨fc,f1,f2⟩⟩:=hT
 obtain⟨⟨c7,i7,j7⟩,⟨c8,i8,j8⟩,⟨c9,i9,j9⟩,⟨ta,i10,ua⟩,⟨tX,i11,yn⟩,⟨xJ,i12,zN⟩⟩:=hC
 have hfT:=f1.froz1
 have hnc:=amE c.cs H c7 i7 j7 (by unfold kP;omega)
 rw[show Gv H (bM c.cs c.cs.length) [] 4=eV H (bM c.cs c.cs.length) [] []by unfold eV;rw[List.append_nil]]at hnc
 have hk7:kept H=true:=by rcases i7 with⟨rfl,_,_⟩|⟨ex,rfl⟩ <;> rfl
 rw[an acg (by simp[c23])]
 unfold aR at hpc ⊢
 simp only[qA,seval,c23,hpt,hpc,akj,auk,z1.froz1,b1.froz1,f1.froz1,i7.froz1,i8.froz1,i9.froz1,i10.froz1,i11.froz1,i12.froz1,z1.lenI]
 generalize N:DC pE 232 (.loop jT) _=D
 obtain⟨f1,l1,s2,rfl,⟨o2,Y,gb,Z,⟨m,Js,hm⟩,rfl⟩,I⟩:=aF0 t.zo hnz J zc z1 z2 hlz ⟨1,.cells [J,K,O] 0 true⟩ ⟨1,.cells [.i .i64 c.rp,.i .i64 c.rl,.i .i64 c.cn,.i .i64 c.st,.i .i64 c.ly,.i .i64 c.nf,.i .i64 c.nt,H,U,V,F,W,X,.i .i64 c.gu] 0 true⟩ ⟨1,.map [] [] false⟩ ⟨1,.cells (fY J K O c H U V F W X (gw .nilsl .nilsl .nilsl .nilsl .nilsl .nilsl .nilsl (.b false))) 0 true⟩ N wL wL wL wL wL wL wL (by unfold fY aR gw;simp only[List.cons_append,List.nil_append];simp only[qA,seval]) wL
 have ayC:aa f1 2= .ptr .L 2 1 0:=by rw[I 2 yv];simp only[qA,seval]
 have aF6:aa f1 3= .ptr .L 3 1 0:=by rw[I 3 yv];simp only[qA,seval]
 have ayD:aa f1 8= .ptr .L 37 1 0:=by rw[I 8 yv];simp only[qA,seval]
 have aF7:aa f1 9= .mp .L 38 1:=by rw[I 9 yv];simp only[qA,seval]
 clear I
 simp only[qA,seval,ayC,o2,b1.lenI]
 have r:=Z
 unfold fY aR gw at r
 simp only[List.cons_append,List.nil_append]at r
 clear N
 generalize N:DC pE 232 (.loop kY) _=D
 obtain⟨f2,l1,s2,rfl,⟨o2,Y,Z,⟨q,gb,hq⟩,rfl⟩,I⟩:=aF1 t.ap hna K ac b1 b2 Oz t.zo m hm hzn J K O c H U V F W X (gw .nilsl .nilsl .nilsl .nilsl .nilsl .nilsl .nilsl (.b false)) ⟨1,.cells [J,K,O] 0 true⟩ ⟨1,.cells [.i .i64 c.rp,.i .i64 c.rl,.i .i64 c.cn,.i .i64 c.st,.i .i64 c.ly,.i .i64 c.nf,.i .i64 c.nt,H,U,V,F,W,X,.i .i64 c.gu] 0 true⟩ N (by simp only[qA,seval,ayD]) (by simp only[qA,seval,aF7]) wL wL wL (by simp only[o2]) (by simp only[Y]) (by simp only[gb]) (by unfold fY aR gw;simp only[List.cons_append,List.nil_append];simp only[r]) (by simp only[Js])
 have aKW:aa f2 2= .ptr .L 2 1 0:=by rw[I 2 yv];simp(maxDischargeDepth:=6) only[qA,seval,ayC]
 have ayE:aa f2 3= .ptr .L 3 1 0:=by rw[I 3 yv];simp only[qA,seval,aF6]
 have ayF:aa f2 8= .ptr .L 37 1 0:=by rw[I 8 yv];simp only[qA,seval,ayD]
 clear I r
 simp only[qA,seval,ayE,Y,hk7,hnc,aDc,i8.lenI]
 have xg:jK c.cs []:=fun i v h=>by simp[aU]at h
 have r:=Z
 unfold fY aR gw at r
 simp only[List.cons_append,List.nil_append]at r
 clear N
 generalize N:DC pE 232 (.loop gz) _=D
 obtain⟨f3,l1,s2,rfl,⟨o2,Y,gb,R,kn,r1,r2,r3,rfl,jN,lJ,Z⟩,I⟩:=aF2 c H U c7 c8 i7 j7 i8 j8 lru hru J K O V F W X (.b false) ⟨1,.cells [J,K,O] 0 true⟩ ⟨1,.cells [.i .i64 c.rp,.i .i64 c.rl,.i .i64 c.cn,.i .i64 c.st,.i .i64 c.ly,.i .i64 c.nf,.i .i64 c.nt,H,U,V,F,W,X,.i .i64 c.gu] 0 true⟩ ⟨1,.map (q.map fun p=>sK p.1) (q.map fun p=>T.agg p.2) false⟩ [] xg N rfl (by simp only[qA,seval,ayF]) wL wL wL wL (by simp only[o2]) (by simp only[Y]) (by simp only[gb]) (by unfold fY aR gw;simp only[List.cons_append,List.nil_append];simp only[r])
 have ayG:aa f3 3= .ptr .L 3 1 0:=by rw[I 3 yv];simp only[qA,seval,ayE]
 have ayH:aa f3 8= .ptr .L 37 1 0:=by rw[I 8 yv];simp only[qA,seval,ayF]
 have aje:aa f3 14= .ptr .S 2 1 0:=by rw[I 14 yv];simp only[qA,seval]
 clear I r
 simp only[qA,seval,ayG,Y,i9.lenI]
 have r:=Z
 unfold fY aR gw at r
 simp only[List.cons_append,List.nil_append]at r
 clear N
 generalize N:DC pE 232 (.loop kW) _=D
 obtain⟨f4,l1,s2,rfl,⟨o2,Y,gb,R1,JA,c1,c2,c3,rfl,jN,lJ,Z⟩,I⟩:=aF3 c H V c7 c9 i7 j7 i9 j9 lco qa J K O U F W X (.b false) r1 r2 r3 ⟨1,.cells [J,K,O] 0 true⟩ ⟨1,.cells [.i .i64 c.rp,.i .i64 c.rl,.i .i64 c.cn,.i .i64 c.st,.i .i64 c.ly,.i .i64 c.nf,.i .i64 c.nt,H,U,V,F,W,X,.i .i64 c.gu] 0 true⟩ ⟨1,.map (q.map fun p=>sK p.1) (q.map fun p=>T.agg p.2) false⟩ kn jN R _ _ _ lJ N rfl (by simp only[qA,seval,ayH]) (by simp only[qA,seval,aje]) wL wL wL (by simp only[o2]) (by simp only[Y]) (by simp only[gb]) (by unfold fY aR gw;simp only[List.cons_append,List.nil_append];simp only[r])
 have aF8:aa f4 3= .ptr .L 3 1 0:=by rw[I 3 yv];simp only[qA,seval,ayG]
 have ayI:aa f4 8= .ptr .L 37 1 0:=by rw[I 8 yv];simp only[qA,seval,ayH]
 have ayJ:aa f4 14= .ptr .S 2 1 0:=by rw[I 14 yv];simp only[qA,seval,aje]
 clear I r
 simp only[qA,seval,aF8,Y,i10.lenI]
 have r:=Z
 unfold fY aR gw at r
 simp only[List.cons_append,List.nil_append]at r
 clear N
 generalize N:DC pE 232 (.loop jS) _=D
 obtain⟨f5,l1,s2,rfl,⟨o2,Y,gb,R2,OA,cr,rfl,jN,lJ,Z⟩,I⟩:=aF4 c H F c7 ta i7 j7 i10 ua lcr NG J K O U V W X (.b false) r1 r2 r3 c1 c2 c3 ⟨1,.cells [J,K,O] 0 true⟩ ⟨1,.cells [.i .i64 c.rp,.i .i64 c.rl,.i .i64 c.cn,.i .i64 c.st,.i .i64 c.ly,.i .i64 c.nf,.i .i64 c.nt,H,U,V,F,W,X,.i .i64 c.gu] 0 true⟩ ⟨1,.map (q.map fun p=>sK p.1) (q.map fun p=>T.agg p.2) false⟩ JA jN R1 _ _ _ _ _ _ lJ N rfl (by simp only[qA,seval,ayI]) (by simp only[qA,seval,ayJ]) wL wL wL (by simp only[o2]) (by simp only[Y]) (by simp only[gb]) (by unfold fY aR gw;simp only[List.cons_append,List.nil_append];simp only[r])
 have amF:aa f5 8= .ptr .L 37 1 0:=by rw[I 8 yv];simp only[qA,seval,ayI]
 clear I r
 have Gw:=lJ.toW zO
 obtain⟨n2,Df,aF9,KH⟩:=YH (sz:=4) (v:=r2) (vz c 2 c.ru.length) Gw (by simp[iW])
 obtain⟨n1,De,aGa,A8⟩:=YH (sz:=3) (v:=c2) (tF c 2 c.co.length) Gw (by simp[iW])
 have r:=Z
 unfold fY aR gw at r
 simp only[List.cons_append,List.nil_append]at r
 simp only[qA,seval,eJ,amF,r,KH]
 have r:=Z
 unfold fY aR gw at r
 simp only[List.cons_append,List.nil_append]at r
 clear N
 generalize N:DC pE 232 (.loop jR) _=D
 obtain⟨f6,l1,s2,rfl,⟨o2,Y,gb,R3,nb,rfl,hw3,Z⟩,I⟩:=ayz c H U V F W X J K O r1 r2 r3 c1 c2 c3 cr _ OA false R2 _ _ _ _ _ _ _ Gw n2 Df aF9 ⟨1,.cells [J,K,O] 0 true⟩ ⟨1,.cells [.i .i64 c.rp,.i .i64 c.rl,.i .i64 c.cn,.i .i64 c.st,.i .i64 c.ly,.i .i64 c.nf,.i .i64 c.nt,H,U,V,F,W,X,.i .i64 c.gu] 0 true⟩ ⟨1,.map (q.map fun p=>sK p.1) (q.map fun p=>T.agg p.2) false⟩ N rfl (by simp only[qA,seval,amF]) wL wL (by simp only[o2]) (by simp only[Y]) (by simp only[gb]) (by unfold fY aR gw;simp only[List.cons_append,List.nil_append];simp only[r])
 have amG:aa f6 8= .ptr .L 37 1 0:=by rw[I 8 yv];simp only[qA,seval,amF]
 clear I r
 have r:=Z
 unfold fY aR gw at r
 simp only[List.cons_append,List.nil_append]at r
 simp only[qA,seval,eJ,amG,r,A8]
 have r:=Z
 unfold fY aR gw at r
 simp only[List.cons_append,List.nil_append]at r
 clear N
 generalize N:DC pE 232 (.loop jQ) _=D
 obtain⟨f7,l1,s2,rfl,⟨o2,Y,gb,R4,nb1,rfl,hw4,Z⟩,I⟩:=ayA c H U V F W X J K O r1 r2 r3 c1 c2 c3 cr _ OA nb R3 _ _ _ _ _ _ _ hw3 n1 De aGa ⟨1,.cells [J,K,O] 0 true⟩ ⟨1,.cells [.i .i64 c.rp,.i .i64 c.rl,.i .i64 c.cn,.i .i64 c.st,.i .i64 c.ly,.i .i64 c.nf,.i .i64 c.nt,H,U,V,F,W,X,.i .i64 c.gu] 0 true⟩ ⟨1,.map (q.map fun p=>sK p.1) (q.map fun p=>T.agg p.2) false⟩ N rfl (by simp only[qA,seval,amG]) wL wL (by simp only[o2]) (by simp only[Y]) (by simp only[gb]) (by unfold fY aR gw;simp only[List.cons_append,List.nil_append];simp only[r])
 have aGb:aa f7 8= .ptr .L 37 1 0:=by rw[I 8 yv];simp only[qA,seval,amG]
 clear I r
 have r:=Z
 unfold fY aR gw at r
 simp only[List.cons_append,List.nil_append]at r
 simp only[qA,seval,aGb]
 obtain⟨x0,u0,y0,w0,z0⟩:=tI (sz:=4) (v:=r1) (vz c 1 c.ru.length) hw4 (by simp[iW]) H (bM c.cs c.cs.length) OA
 obtain⟨x1,u1,y1,w1,z1'⟩:=tI (sz:=4) (v:=r2) (vz c 2 c.ru.length) hw4 (by simp[iW]) H (bM c.cs c.cs.length) OA
 obtain⟨x2,u2,y2,w2,z2'⟩:=tI (sz:=4) (v:=r3) (vz c 3 c.ru.length) hw4 (by simp[iW]) H (bM c.cs c.cs.length) OA
 obtain⟨x3,u3,y3,w3,z3⟩:=tI (sz:=3) (v:=c1) (tF c 1 c.co.length) hw4 (by simp[iW]) H (bM c.cs c.cs.length) OA
 obtain⟨x4,u4,y4,w4,z4⟩:=tI (sz:=3) (v:=c2) (tF c 2 c.co.length) hw4 (by simp[iW]) H (bM c.cs c.cs.length) OA
 obtain⟨x5,u5,y5,w5,z5⟩:=tI (sz:=3) (v:=c3) (tF c 3 c.co.length) hw4 (by simp[iW]) H (bM c.cs c.cs.length) OA
 obtain⟨x6,u6,y6,w6,z6⟩:=tI (sz:=3) (v:=cr) (RJ c c.cr.length) hw4 (by simp[iW]) H (bM c.cs c.cs.length) OA
 rw[YI r]
 simp only[qA,seval,gb,mpV,z1.froz1,b1.froz1,hfT,i7.froz1,i8.froz1,i9.froz1,i10.froz1,i11.froz1,i12.froz1,w0,w1,w2,w3,w4,w5,w6]
 refine⟨_,_,rfl, ?_, ?_,q,x0,x1,x2,x3,x4,x5,x6,nb1, ?_,hq.1,hq.2,z0,z1',z2',z3,z4,z5,z6⟩
 ·simp only[List.all_cons,List.all_nil,y0,y1,y2,y3,y4,y5,y6,Bool.and_true,Bool.true_and];rfl
 ·rfl
 ·rfl
theorem afi(t:Tt)(c:Ct)(D F H J K N r O U:T)(V:ow t D F H)(W:oP c J K N r O U)(X:ou t≠0):
  ∃s,ae pE 23 [.agg [D,F,H],.agg (aR c J K N r O U)] []=some (.tup [.nilptr,.i .i64 (ou t)],s):=by
 have I:=L8 t D F H V
 obtain⟨⟨zc,Y,z2⟩,⟨ac,Z,b2⟩,⟨fc,f1,f2⟩⟩:=V
 obtain⟨⟨c7,i7,j7⟩,⟨c8,i8,j8⟩,⟨c9,i9,j9⟩,⟨ta,i10,ua⟩,⟨tX,i11,yn⟩,⟨xJ,i12,zN⟩⟩:=W
 rw[an acg (by simp[c23])]
 unfold aR
 simp only[qA,seval,c23,I,X,akj,Y.froz1,Z.froz1,f1.froz1]
 exact⟨_,rfl⟩
theorem nzo: ∀(l:List Zo) (seen:List (List Nat)),HE seen l=0→(l.map Zo.nm).Nodup∧ ∀z∈l,z.nm∉seen
 | [],seen,_=>⟨List.nodup_nil,fun z D=>by cases D⟩
 |z::r,seen,h=>by
  rw[HE]at h
  by_cases h1:iG z=0
  ·rw[if_neg (by simp[h1])]at h
   by_cases h2:z.nm∈seen
   ·grind
   ·rw[if_neg h2]at h
    obtain⟨F,H⟩:=nzo r _ h
    grind
  ·grind
theorem nap(D:List (List Nat)): ∀(l:List Ap) (seen:List (List Nat)),HF D seen l=0→(l.map Ap.cd).Nodup∧ ∀z∈l,z.cd∉seen
 | [],seen,_=>⟨List.nodup_nil,fun z H=>by cases H⟩
 |z::r,seen,h=>by
  rw[HF]at h
  by_cases h1:Dm z.cd=false
  ·grind
  ·rw[if_neg h1]at h
   by_cases h2:z.cd∈seen
   ·grind
   ·rw[if_neg h2]at h
    by_cases h3:z.zn∉D
    ·rw[if_pos h3]at h;cases h
    ·rw[if_neg h3]at h
     obtain⟨I,F⟩:=nap D r _ h
     refine⟨?_,fun y hy=> ?_⟩
     ·rw[List.map_cons,List.nodup_cons]
      refine⟨fun J=> ?_,I⟩
      obtain⟨y,hy,e⟩:=List.mem_map.1 J
      exact F y hy (by rw[e];simp)
     ·rcases List.mem_cons.1 hy with rfl|hy
      ·exact h2
      ·exact fun hs=>F y hy (by simp[hs])
theorem nzn(D:List (List Nat)): ∀(l:List Ap) (seen:List (List Nat)),HF D seen l=0→ ∀u∈l,u.zn∈D
 | [],seen,_,u,hu=>by cases hu
 |z::r,seen,h,u,hu=>by
  rw[HF]at h
  by_cases h1:Dm z.cd=false
  ·grind
  ·rw[if_neg h1]at h
   by_cases h2:z.cd∈seen
   ·grind
   ·rw[if_neg h2]at h
    by_cases h3:z.zn∉D
    ·rw[if_pos h3]at h;cases h
    ·rw[if_neg h3]at h
     rcases List.mem_cons.1 hu with rfl|hu
     ·simpa using h3
     ·exact nzn D r _ h u hu
theorem nzs: ∀(l:List Zo) (seen:List (List Nat)),HE seen l=0→ ∀z∈l,iG z=0
 | [],seen,_,u,hu=>by cases hu
 |z::r,seen,h,u,hu=>by
  rw[HE]at h
  by_cases h1:iG z=0
  ·rw[if_neg (by simp[h1])]at h
   by_cases h2:z.nm∈seen
   ·grind
   ·rw[if_neg h2]at h
    rcases List.mem_cons.1 hu with rfl|hu
    ·exact h1
    ·exact nzs r _ h u hu
  ·grind
theorem nfl(D:List (List Nat)): ∀(l:List Fl) (p:Option Fl),Gp D p l=0→ ∀f∈l,Jl D f=0
 | [],p,_,u,hu=>by cases hu
 |z::r,p,h,u,hu=>by
  unfold Gp at h
  by_cases h1:Jl D z=0
  ·rw[if_neg (by simp[h1])]at h
   have F:Gp D (some z) r=0:=by
    grind
   rcases List.mem_cons.1 hu with rfl|hu
   ·exact h1
   ·exact nfl D r _ F u hu
  ·grind
theorem vF(t:Tt)(h:ou t=0):(∀z∈t.zo,iG z=0)∧(∀u∈t.ap,u.zn∈t.zo.map Zo.nm)∧(∀f∈t.fl,Jl (t.ap.map Ap.cd) f=0)∧t.fl.length≤200:=by
 unfold ou at h
 split at h
 ·cases h
 split at h
 ·cases h
 split at h
 ·cases h
 split at h
 ·grind
 split at h
 ·rename_i q;exact absurd h q
 rename_i a b c d e
 exact⟨nzs t.zo [] zO,nzn (t.zo.map Zo.nm) t.ap [] zO,nfl _ t.fl none h,by omega⟩
theorem Mc(t:Tt)(h:ou t=0):(t.zo.map Zo.nm).Nodup∧t.zo.length≤100∧(t.ap.map Ap.cd).Nodup∧t.ap.length≤100:=by
 unfold ou at h
 split at h
 ·cases h
 split at h
 ·cases h
 split at h
 ·cases h
 split at h
 ·grind
 split at h
 ·rename_i q;exact absurd h q
 rename_i a b c d e
 exact⟨(nzo t.zo [] zO).1,by omega,(nap (t.zo.map Zo.nm) t.ap [] zO).1,by omega⟩
theorem YJ: ∀(l:List Ru) (seen:List (Int×List Nat)),Hz seen l=0→ ∀u∈l,mJ u.sc 1 3=true∧bW u.x=0
 | [],seen,_,u,hu=>by cases hu
 |v::l,seen,h,u,hu=>by
  rw[Hz]at h
  split at h
  ·cases h
  split at h
  ·cases h
  split at h
  ·grind
  rename_i a b c
  rcases List.mem_cons.1 hu with rfl|hu
  ·exact⟨by cases r:mJ u.sc 1 3 with|true=>rfl|false=>exact absurd (.inl r) a,by omega⟩
  ·exact YJ l _ h u hu
theorem YK: ∀(l:List Co),Jc l=0→ ∀u∈l,mJ u.sc 1 3=true∧bW u.x=0
 | [],_,u,hu=>by cases hu
 |v::l,h,u,hu=>by
  rw[Jc]at h
  split at h
  ·cases h
  split at h
  ·grind
  rename_i a c
  rcases List.mem_cons.1 hu with rfl|hu
  ·grind
  ·exact YK l h u hu
theorem YL: ∀(l:List Ex),Jd l=0→ ∀u∈l,bW u=0
 | [],_,u,hu=>by cases hu
 |v::l,h,u,hu=>by
  rw[Jd]at h
  split at h
  ·grind
  rename_i c
  rcases List.mem_cons.1 hu with rfl|hu
  ·omega
  ·exact YL l h u hu
theorem YM{n:Int}(h:mJ n 1 3=true):n=1∨n=2∨n=3:=by
 unfold mJ at h
 simp only[Bool.and_eq_true,decide_eq_true_eq]at h
 omega
theorem Md{l:Cs}{r:Int}{x:Ex}{w:Int}(D:bW x=0)(h:HC l r x w=0): ∃k,x.ty (clk l (jC l l.length)) r=(k,0):=by
 have h2:(dc l r x).2=0:=by
  unfold HC at h
  split at h
  ·cases h
  ·exact h
 unfold dc at h2
 rw[if_neg (by simp[D])]at h2
 exact⟨(x.ty (clk l (jC l l.length)) r).1,Prod.ext rfl h2⟩
theorem YN(cs:Cs): ∀(l:List Ru),Jh cs l=0→ ∀u∈l,HC cs u.sc u.x 4=0
 | [],_,u,hu=>by cases hu
 |v::l,h,u,hu=>by
  rw[Jh]at h
  split at h
  ·rename_i q;exact absurd h q
  rename_i c
  rcases List.mem_cons.1 hu with rfl|hu
  ·omega
  ·exact YN cs l h u hu
theorem YO(cs:Cs): ∀(l:List Co),Ji cs l=0→ ∀u∈l,HC cs u.sc u.x 1=0
 | [],_,u,hu=>by cases hu
 |v::l,h,u,hu=>by
  rw[Ji]at h
  split at h
  ·rename_i q;exact absurd h q
  rename_i c
  rcases List.mem_cons.1 hu with rfl|hu
  ·omega
  ·exact YO cs l h u hu
theorem YP(cs:Cs): ∀(l:List Ex),KO cs l=0→ ∀u∈l,HC cs 1 u 2=0
 | [],_,u,hu=>by cases hu
 |v::l,h,u,hu=>by
  rw[KO]at h
  split at h
  ·rename_i q;exact absurd h q
  rename_i c
  rcases List.mem_cons.1 hu with rfl|hu
  ·omega
  ·exact YP cs l h u hu
theorem nD(c:Ct)(h:fI c=0):(∀u∈c.ru,Jt c.cs u.sc u.x)∧c.ru.length≤40∧(∀u∈c.co,Jt c.cs u.sc u.x)∧c.co.length≤40∧(∀u∈c.cr,Jt c.cs 1 u)∧c.cr.length≤40∧c.cs.length≤32:=by
 unfold fI at h
 split at h
 ·rename_i q;exact absurd h q
 split at h
 ·rename_i q;exact absurd h q
 split at h
 ·rename_i q;exact absurd h q
 split at h
 ·rename_i q;exact absurd h q
 rename_i g _ r o
 have g:fR c=0:=zO
 unfold fR at g
 split at g
 ·cases g
 split at g
 ·cases g
 split at g
 ·rename_i q;exact absurd g q
 split at g
 ·rename_i q;exact absurd g q
 split at g
 ·rename_i q;exact absurd g q
 split at g
 ·rename_i q;exact absurd g q
 rename_i _ sz _ F H I
 have sz:jM c=true:=by simpa using sz
 unfold jM at sz
 simp only[Bool.and_eq_true,decide_eq_true_eq]at sz
 refine⟨fun u D=> ?_,sz.2.1,fun u D=> ?_,by omega,fun u D=> ?_,by omega,sz.1⟩
 ·obtain⟨w,v⟩:=YJ c.ru [] zO u D
  exact⟨YM w,v,Md v (YN c.cs c.ru zO u D)⟩
 ·obtain⟨w,v⟩:=YK c.co zO u D
  exact⟨YM w,v,Md v (YO c.cs c.co zO u D)⟩
 ·have v:=YL c.cr zO u D
  exact⟨.inl rfl,v,Md v (YP c.cs c.cr h u D)⟩
theorem amI(t:Tt)(c:Ct)(D F H I J K r N O:T)(W:ow t D F H)(X:oP c I J K r N O)(Y:vn c)(V:ou t=0)(hc:fI c=0):
  ∃s U,ae pE 23 [.agg [D,F,H],.agg (aR c I J K r N O)] []=some (.tup [.vp (D::F::H::(aR c I J K r N O++U)),.i .i64 0],s)∧U.all froz1=true∧U.length=11∧Jz t c U:=by
 obtain⟨Z,p2,p3,p4⟩:=Mc t V
 obtain⟨q1,q2,q3,q4,q5,q6,q7⟩:=nD c hc
 exact ayB t c D F H I J K r N O W X Y V hc Z p2 p3 p4 (vF t V).2.1 q1 q2 q3 q4 q5 q6 q7
theorem amJ(H I D:T)(r J:List T)(n:Nat)(F:IsSl D n J)(i:Int):ae pE 54 [.vp (H::I::D::r),.i .i64 i] []=some (.b (decide (0≤i∧i<(n:Int))),[]):=by
 rw[an auo (by simp[c54])]
 by_cases h0:0≤i
 ·by_cases h1:i<(n:Int)
  ·simp only[qA,seval,c54,F.lenI,h0,h1]
   try simp[h0,h1]
  ·simp only[qA,seval,c54,F.lenI,h0,h1]
   try simp[h0,h1]
 ·simp only[qA,seval,c54,h0]
  try simp[h0]
theorem Me(I J F:T)(D H:List T)(l:List Fl)(K:IsSl F l.length H)(hr:aA RB l H)(k:Nat)(hk:k<l.length): ∃r,ae pE 73 [.vp (I::J::F::D),.i .i64 (k:Int)] []=some (.vp (.s l[k].nu:: .s l[k].fr:: .s l[k].to:: .i .i64 l[k].dp:: .i .i64 l[k].ar:: .s l[k].ty:: .i .i64 l[k].n0:: .i .i64 l[k].n1:: .i .i64 l[k].n2::r),[]):=by
 obtain⟨r,N⟩:=ot K hr k hk
 refine⟨r, ?_⟩
 rw[an aku (by simp[c73])]
 simp only[qA,seval,c73,N]
def Mf(c:Ct)(f g:Fl):Bool:=decide (f.to=g.fr)&&(decide (c.cn≤wr .i64 (g.dp-f.ar))&&decide (wr .i64 (g.dp-f.ar)≤c.st))
theorem amK(I J F K N O D U V:T)(c:Ct)(W H:List T)(l:List Fl)(X:IsSl F l.length H)(hr:aA RB l H)(i j:Nat)(hi:i<l.length)(Y:j<l.length):ae pE 97 [.vp (I::J::F::(aR c K N O D U V++W)),.i .i64 (i:Int),.i .i64 (j:Int)] []=some (.b (Mf c l[i] l[j]),[]):=by
 obtain⟨r,h1⟩:=Me I J F (aR c K N O D U V++W) H l X hr i hi
 obtain⟨Z,h2⟩:=Me I J F (aR c K N O D U V++W) H l X hr j Y
 rw[an au0 (by simp[c97])]
 generalize l[i]=f at*
 generalize l[j]=g at*
 unfold aR at h1 h2 ⊢
 simp only[List.cons_append,List.nil_append]at h1 h2 ⊢
 unfold Mf
 by_cases e:f.to=g.fr
 ·by_cases e2:c.cn≤wr .i64 (g.dp-f.ar)
  ·simp only[qA,seval,c97,h1,h2,CZ,e,e2]
   try simp[e,e2]
  ·simp only[qA,seval,c97,h1,h2,CZ,e,e2]
   try simp[e,e2]
 ·simp only[qA,seval,c97,h1,h2,CZ,e]
  try simp[e]
structure Sta where
 ff:Int
 fh:Bool
 lf:Int
 lh:Bool
 lg:Int
 hd:Int
 bl:Int
 lo:Int
 so:Int
 ty:List (List Nat)
def sW(n:Nat)(i:Int):Bool:=decide (0≤i∧i<(n:Int))
theorem OB{n a b:Int}:mJ n a b=true↔a≤n∧n≤b:=by
 grind [mJ]
def xi(f:Fl):Prop:=np f.ty=true∧2880≤f.dp∧f.ar≤52593120∧f.dp<f.ar∧f.ar-f.dp≤1440
theorem amL{r:List (List Nat)}{f:Fl}(h:Jl r f=0):xi f:=by
 unfold Jl at h
 split at h
 ·cases h
 split at h
 ·cases h
 split at h
 ·cases h
 split at h
 ·cases h
 split at h
 ·cases h
 split at h
 ·cases h
 rename_i a b c d e g
 have g:RC f=true:=by simpa using g
 unfold RC at g
 simp only[Bool.and_eq_true,decide_eq_true_eq]at g
 exact⟨by simpa using b,g⟩
theorem YQ(D:List (List Nat)): ∀(l:List Fl) (p:Option Fl),Gp D p l=0→ ∀f∈l,xi f
 | [],_,_,f,hf=>by cases hf
 |g::r,p,h,f,hf=>by
  unfold Gp at h
  by_cases a:Jl D g=0
  ·rw[if_neg (by simp[a])]at h
   rcases List.mem_cons.1 hf with rfl|hf
   ·exact amL a
   ·have:Gp D (some g) r=0:=by
     grind
    exact YQ D r _ this f hf
  ·grind
theorem im(t:Tt)(h:ou t=0):(∀f∈t.fl,xi f)∧t.fl.length≤200:=by
 unfold ou at h
 split at h
 ·cases h
 split at h
 ·cases h
 split at h
 ·cases h
 split at h
 ·grind
 split at h
 ·rename_i q;exact absurd h q
 rename_i a b c d e
 exact⟨YQ _ _ _ h,by omega⟩
theorem YR(c:Ct)(h:fI c=0):0≤c.cn∧c.cn≤1440∧c.st≤1440∧(0≤c.rp∧c.rp≤1440)∧(0≤c.rl∧c.rl≤1440):=by
 unfold fI at h
 split at h
 ·grind
 rename_i g
 have g:fR c=0:=zO
 unfold fR at g
 split at g
 ·cases g
 simp_all[jD,Bool.and_eq_true,OB]
end Go.Proofs.YtcpceiclnbmgiaaGreat
