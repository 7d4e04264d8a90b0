/- The loops over uses in setting.New. The loops of setting.New as steps of a walk. setting.New. setting.New, when it refuses. What the two checks give: plain. Conditions: the theorems' own. -/
import Derived.Test.YtblcbheipjeoeaaGreatM17
import Derived.KernelRfl
set_option maxRecDepth 100000
set_option linter.unusedSimpArgs false
set_option linter.unusedVariables false
set_option maxHeartbeats 16000000
namespace Go.Proofs.YtblcbheipjeoeaaGreat
open Go Go.Ev
theorem anS(c:Ct)(a7 a8 a9 a10 fB fA zT aT fT r1 r2 r3 c1 c2 c3 cr:T)(m:List (List Nat×Nat))(kn:List (Nat×Int))(Rt:Bool)(R0:List fg)(I6:vK R0 (mh r1 r2 r3 c1 c2 c3 cr))(n2:Nat)(hn2:(r2= .nilsl∧n2=0)∨ ∃i g,r2= .isl .S (i+7) g 0 n2 4)(hn1:n2≤1000)(k2 k3 tw:fg)(fr:Fr)(lh:fC fg)(sh:List fg)(jh:sh=jA a7 m kn R0)
  (h8:an fr 8= .ptr .L 37 1 0) (hl:an fr 181= .i .i64 (n2:Int)) (hi:an fr 182= .i .i64 0) (o2:be lh 2=k2) (o3:be lh 3=k3) (kE:be lh 35=tw) (im:be lh 37=⟨1,.cells (ky zT aT fT c a7 a8 a9 a10 fB fA (lb r1 r2 r3 c1 c2 c3 cr (.b Rt))) 0 true⟩):
  DC pE 232 (.loop ll) ⟨fr,lh,sh⟩=some (.ext 10,⟨gr pE 232 ll fr lh sh,gp pE 232 ll fr lh sh,gn pE 232 ll fr lh sh⟩)∧
  (be (gp pE 232 ll fr lh sh) 2=k2∧be (gp pE 232 ll fr lh sh) 3=k3∧be (gp pE 232 ll fr lh sh) 35=tw∧ ∃(R:List fg) (nb:Bool),gn pE 232 ll fr lh sh=jA a7 m kn R∧vK R (mh r1 r2 r3 c1 c2 c3 cr)∧be (gp pE 232 ll fr lh sh) 37=⟨1,.cells (ky zT aT fT c a7 a8 a9 a10 fB fA (lb r1 r2 r3 c1 c2 c3 cr (.b nb))) 0 true⟩):=by
 refine fq (P:=fun fR fH fL=>be fH 2=k2∧be fH 3=k3∧be fH 35=tw∧ ∃(R:List fg) (nb:Bool),fL=jA a7 m kn R∧vK R (mh r1 r2 r3 c1 c2 c3 cr)∧be fH 37=⟨1,.cells (ky zT aT fT c a7 a8 a9 a10 fB fA (lb r1 r2 r3 c1 c2 c3 cr (.b nb))) 0 true⟩)
  (fw (fun k st=> ∃(fr:Fr) (fG:fC fg) (R:List fg) (nb:Bool),st=⟨fr,fG,jA a7 m kn R⟩∧vK R (mh r1 r2 r3 c1 c2 c3 cr)∧an fr 8= .ptr .L 37 1 0∧an fr 181= .i .i64 (n2:Int)∧an fr 182= .i .i64 (k:Int)∧be fG 2=k2∧be fG 3=k3∧be fG 35=tw∧be fG 37=⟨1,.cells (ky zT aT fT c a7 a8 a9 a10 fB fA (lb r1 r2 r3 c1 c2 c3 cr (.b nb))) 0 true⟩) _ n2 ?_ ?_ 0 _ (Nat.zero_le _) ⟨fr,lh,R0,Rt,by rw[jh],I6,h8,hl,hi,o2,o3,kE,im⟩)
 ·rintro k _ hk ⟨fr,fG,R,nb,rfl,pP,h8,hl,hi,o2,o3,kE,im⟩
  left
  have fK:(k:Int)<n2:=by omega
  have hw:=gl (k:=k) (by omega)
  have G6: ∃i g,r2= .isl .S (i+7) g 0 n2 4:=by
   rcases hn2 with⟨_,h⟩|h
   ·omega
   ·exact h
  obtain⟨i0,g0,G6⟩:=G6
  rcases pP (4,r2) (by simp[mh])with jW|⟨i,g,n,cs,wm,hv,hE,qP,hn,hB,hfz⟩
  ·simp only[G6]at jW;cases jW
  simp only[G6]at hv
  injection hv with _ q1 q2 _ q3 _
  have q1:i0=i:=by omega
  subst q1 q2 q3
  obtain⟨f,b,cb,r,Sz,hb,HH,anT⟩:=hfz.at4 hn hk
  have hus:=Yr (p:=1) f b cb r hb HH (by omega)
  have hcz:=hfz.froz
  have hz: ∀lh,fzV lh (jA a7 m kn R) false (.ptr .S (i0+7) g0 (k*4+1))=some (.vp (.i .i64 f.op:: .i .i64 f.num::b::r),[(.S,i0+7,⟨g0,.cells cs cs.length false⟩)]):=fun lh=>by
   rw[G5 (by rw[Db];exact hE) hcz,Sz]
  have hzL: ∀lh,Fo lh (jA a7 m kn R) false [.ptr .S (i0+7) g0 (k*4+1),.i .i64 1]=some ([.vp (.i .i64 f.op:: .i .i64 f.num::b::r),.i .i64 1],[(.S,i0+7,⟨g0,.cells cs cs.length false⟩)]):=fun lh=>by
   rw[rR,rR,DZ,hz lh,tL (by rfl)];rfl
  have k6: ∀x,scalar (.b x)=true:=fun _=>rfl
  unfold ky fX lb at im ⊢
  simp only[List.cons_append,List.nil_append,G6]at im ⊢
  cases nb with
  |true=>
   simp(maxDischargeDepth:=6) only[qA,seval,ll,h8,hl,hi,im,fK,hw]
   refine⟨_,rfl,_,_,R,true,rfl,(by rw[←G6];exact pP), ?_, ?_, ?_, ?_, ?_, ?_, ?_⟩
   all_goals (simp(maxDischargeDepth:=6) only[qA,seval,h8,hl,o2,o3,kE])
  |false=>
   simp(maxDischargeDepth:=6) only[qA,seval,jz,ll,h8,hl,hi,im,fK,hw,hzL,hus,k6,afQ,hk]
   refine⟨_,rfl,_,_,R,f.us 1,rfl,(by rw[←G6];exact pP), ?_, ?_, ?_, ?_, ?_, ?_, ?_⟩
   all_goals (simp(maxDischargeDepth:=6) only[qA,seval,h8,hl,o2,o3,kE])
 ·rintro _ ⟨fr,fG,R,nb,rfl,pP,h8,hl,hi,o2,o3,kE,im⟩
  simp(maxDischargeDepth:=6) only[qA,seval,ll,hl,hi,Int.lt_irrefl]
  exact⟨_,_,(by simp:Out.ext 10≠ .nrm),rfl,rfl,o2,o3,kE,R,nb,rfl,pP,im⟩
theorem anV(c:Ct)(a7 a8 a9 a10 fB fA zT aT fT r1 r2 r3 c1 c2 c3 cr:T)(m:List (List Nat×Nat))(kn:List (Nat×Int))(Rt:Bool)(R0:List fg)(I6:vK R0 (mh r1 r2 r3 c1 c2 c3 cr))(n2:Nat)(hn2:(c2= .nilsl∧n2=0)∨ ∃i g,c2= .isl .S (i+7) g 0 n2 3)(hn1:n2≤1000)(k2 k3 tw:fg)(fr:Fr)(lh:fC fg)(sh:List fg)(jh:sh=jA a7 m kn R0)
  (h8:an fr 8= .ptr .L 37 1 0) (hl:an fr 209= .i .i64 (n2:Int)) (hi:an fr 210= .i .i64 0) (o2:be lh 2=k2) (o3:be lh 3=k3) (kE:be lh 35=tw) (im:be lh 37=⟨1,.cells (ky zT aT fT c a7 a8 a9 a10 fB fA (lb r1 r2 r3 c1 c2 c3 cr (.b Rt))) 0 true⟩):
  DC pE 232 (.loop lj) ⟨fr,lh,sh⟩=some (.ext 12,⟨gr pE 232 lj fr lh sh,gp pE 232 lj fr lh sh,gn pE 232 lj fr lh sh⟩)∧
  (be (gp pE 232 lj fr lh sh) 2=k2∧be (gp pE 232 lj fr lh sh) 3=k3∧be (gp pE 232 lj fr lh sh) 35=tw∧ ∃(R:List fg) (nb:Bool),gn pE 232 lj fr lh sh=jA a7 m kn R∧vK R (mh r1 r2 r3 c1 c2 c3 cr)∧be (gp pE 232 lj fr lh sh) 37=⟨1,.cells (ky zT aT fT c a7 a8 a9 a10 fB fA (lb r1 r2 r3 c1 c2 c3 cr (.b nb))) 0 true⟩):=by
 refine fq (P:=fun fR fH fL=>be fH 2=k2∧be fH 3=k3∧be fH 35=tw∧ ∃(R:List fg) (nb:Bool),fL=jA a7 m kn R∧vK R (mh r1 r2 r3 c1 c2 c3 cr)∧be fH 37=⟨1,.cells (ky zT aT fT c a7 a8 a9 a10 fB fA (lb r1 r2 r3 c1 c2 c3 cr (.b nb))) 0 true⟩)
  (fw (fun k st=> ∃(fr:Fr) (fG:fC fg) (R:List fg) (nb:Bool),st=⟨fr,fG,jA a7 m kn R⟩∧vK R (mh r1 r2 r3 c1 c2 c3 cr)∧an fr 8= .ptr .L 37 1 0∧an fr 209= .i .i64 (n2:Int)∧an fr 210= .i .i64 (k:Int)∧be fG 2=k2∧be fG 3=k3∧be fG 35=tw∧be fG 37=⟨1,.cells (ky zT aT fT c a7 a8 a9 a10 fB fA (lb r1 r2 r3 c1 c2 c3 cr (.b nb))) 0 true⟩) _ n2 ?_ ?_ 0 _ (Nat.zero_le _) ⟨fr,lh,R0,Rt,by rw[jh],I6,h8,hl,hi,o2,o3,kE,im⟩)
 ·rintro k _ hk ⟨fr,fG,R,nb,rfl,pP,h8,hl,hi,o2,o3,kE,im⟩
  left
  have fK:(k:Int)<n2:=by omega
  have hw:=gl (k:=k) (by omega)
  have G6: ∃i g,c2= .isl .S (i+7) g 0 n2 3:=by
   rcases hn2 with⟨_,h⟩|h
   ·omega
   ·exact h
  obtain⟨i0,g0,G6⟩:=G6
  rcases pP (3,c2) (by simp[mh])with jW|⟨i,g,n,cs,wm,hv,hE,qP,hn,hB,hfz⟩
  ·simp only[G6]at jW;cases jW
  simp only[G6]at hv
  injection hv with _ q1 q2 _ q3 _
  have q1:i0=i:=by omega
  subst q1 q2 q3
  obtain⟨f,b,cb,r,Sz,hb,HH,anT⟩:=hfz.at3 hn hk
  have hus:=Yr (p:=1) f b cb r hb HH (by omega)
  have hcz:=hfz.froz
  have hz: ∀lh,fzV lh (jA a7 m kn R) false (.ptr .S (i0+7) g0 (k*3))=some (.vp (.i .i64 f.op:: .i .i64 f.num::b::r),[(.S,i0+7,⟨g0,.cells cs cs.length false⟩)]):=fun lh=>by
   rw[G5 (by rw[Db];exact hE) hcz,Sz]
  have hzL: ∀lh,Fo lh (jA a7 m kn R) false [.ptr .S (i0+7) g0 (k*3),.i .i64 1]=some ([.vp (.i .i64 f.op:: .i .i64 f.num::b::r),.i .i64 1],[(.S,i0+7,⟨g0,.cells cs cs.length false⟩)]):=fun lh=>by
   rw[rR,rR,DZ,hz lh,tL (by rfl)];rfl
  have k6: ∀x,scalar (.b x)=true:=fun _=>rfl
  unfold ky fX lb at im ⊢
  simp only[List.cons_append,List.nil_append,G6]at im ⊢
  cases nb with
  |true=>
   simp(maxDischargeDepth:=6) only[qA,seval,lj,h8,hl,hi,im,fK,hw]
   refine⟨_,rfl,_,_,R,true,rfl,(by rw[←G6];exact pP), ?_, ?_, ?_, ?_, ?_, ?_, ?_⟩
   all_goals (simp(maxDischargeDepth:=6) only[qA,seval,h8,hl,o2,o3,kE])
  |false=>
   simp(maxDischargeDepth:=6) only[qA,seval,jz,lj,h8,hl,hi,im,fK,hw,hzL,hus,k6,afQ,hk]
   refine⟨_,rfl,_,_,R,f.us 1,rfl,(by rw[←G6];exact pP), ?_, ?_, ?_, ?_, ?_, ?_, ?_⟩
   all_goals (simp(maxDischargeDepth:=6) only[qA,seval,h8,hl,o2,o3,kE])
 ·rintro _ ⟨fr,fG,R,nb,rfl,pP,h8,hl,hi,o2,o3,kE,im⟩
  simp(maxDischargeDepth:=6) only[qA,seval,lj,hl,hi,Int.lt_irrefl]
  exact⟨_,_,(by simp:Out.ext 12≠ .nrm),rfl,rfl,o2,o3,kE,R,nb,rfl,pP,im⟩
end Go.Proofs.YtblcbheipjeoeaaGreat
namespace Go.Proofs.YtblcbheipjeoeaaGreat
open Go Go.Ev
theorem anW{fr:Fr}{lh:fC fg}{sh:List fg}{D:Option (Out×St)}(l:List Zo)(hnd:(l.map Zo.nm).Nodup)(a:T)(cc:List T)(ha:fD a l.length cc)(hc:fy HG l cc)(hlen:l.length≤100)(c2 c3 GV Yt:fg)(hD:DC pE 232 (.loop lp) ⟨fr,lh,sh⟩=D)
  (h9:an fr 9= .mp .L 38 1) (h40:an fr 40=a) (Yu:an fr 41= .i .i64 (l.length:Int)) (h42:an fr 42= .i .i64 0) (o2:be lh 2=c2) (o3:be lh 3=c3) (kE:be lh 35=GV) (im:be lh 37=Yt) (GW:be lh 38=⟨1,.map [] [] false⟩):
  ∃(fR:Fr) (fH:fC fg) (fL:List fg),D=some (.ext 0,⟨fR,fH,fL⟩)∧(be fH 2=c2∧be fH 3=c3∧be fH 35=GV∧be fH 37=Yt∧(∃m,be fH 38=⟨1,.map (m.map fun p=>sK p.1) (m.map fun p=>T.agg p.2) false⟩∧ze m)∧fL=sh)∧ ∀s,(gY (.loop lp)).contains s=false→an fR s=an fr s:=by
 obtain⟨e,r⟩:=nwz l hnd a cc ha hc hlen c2 c3 GV Yt fr lh sh h9 h40 Yu h42 o2 o3 kE im GW
 exact⟨_,_,_,hD.symm.trans e,r,fun s hs=>pL e s hs⟩
theorem anX{fr:Fr}{lh:fC fg}{sh:List fg}{D:Option (Out×St)}(l:List Ap)(hnd:(l.map Ap.cd).Nodup)(a:T)(cc:List T)(ha:fD a l.length cc)(hc:fy IW l cc)(hlen:l.length≤100)(m:List (List Nat×List T))(hmz:ze m)(zT aT fT:T)(c:Ct)(a7 a8 a9 a10 fB fA:T)(vs:List T)(c2 c3:fg)(hD:DC pE 232 (.loop lP) ⟨fr,lh,sh⟩=D)
  (h8:an fr 8= .ptr .L 37 1 0) (h9:an fr 9= .mp .L 38 1) (E1:an fr 52=a) (yO:an fr 53= .i .i64 (l.length:Int)) (zd:an fr 54= .i .i64 0) (o2:be lh 2=c2) (o3:be lh 3=c3) (kE:be lh 35=⟨1,.map [] [] false⟩) (im:be lh 37=⟨1,.cells (ky zT aT fT c a7 a8 a9 a10 fB fA vs) 0 true⟩) (GW:be lh 38=⟨1,.map (m.map fun p=>sK p.1) (m.map fun p=>T.agg p.2) false⟩):
  ∃(fR:Fr) (fH:fC fg) (fL:List fg),D=some (.ext 2,⟨fR,fH,fL⟩)∧(be fH 2=c2∧be fH 3=c3∧be fH 37=⟨1,.cells (ky zT aT fT c a7 a8 a9 a10 fB fA vs) 0 true⟩∧(∃q,be fH 35=⟨1,.map (q.map fun p=>sK p.1) (q.map fun p=>T.agg p.2) false⟩∧ze q)∧fL=sh)∧ ∀s,(gY (.loop lP)).contains s=false→an fR s=an fr s:=by
 obtain⟨e,r⟩:=nwa l hnd a cc ha hc hlen m hmz zT aT fT c a7 a8 a9 a10 fB fA vs c2 c3 fr lh sh h8 h9 E1 yO zd o2 o3 kE im GW
 exact⟨_,_,_,hD.symm.trans e,r,fun s hs=>pL e s hs⟩
theorem anY{fr:Fr}{lh:fC fg}{sh:List fg}{D:Option (Out×St)}(c:Ct)(a7 a8:T)(c7 c8:List T)(i7:fD a7 c.cs.length c7)(j7:iR c.cs c7)(i8:fD a8 c.ru.length c8)(j8:fy Nz c.ru c8)(hlen:c.ru.length≤40)(vR: ∀u∈c.ru,ND c.cs u.sc u.x)(zT aT fT a9 a10 fB fA nb:T)(c2 c3 GV:fg)(Bl:List (Nat×Int))(xT:nN c.cs Bl)(hD:DC pE 232 (.loop jI) ⟨fr,lh,sh⟩=D)(jh:sh=jA a7 (gG c.cs c.cs.length) Bl [])
  (h8:an fr 8= .ptr .L 37 1 0) (iM:an fr 14= .ptr .S 2 1 0) (xe:an fr 73=a8) (vI:an fr 74= .i .i64 (c.ru.length:Int)) (Bm:an fr 75= .i .i64 0) (o2:be lh 2=c2) (o3:be lh 3=c3) (kE:be lh 35=GV) (im:be lh 37=⟨1,.cells (ky zT aT fT c a7 a8 a9 a10 fB fA (lb .nilsl .nilsl .nilsl .nilsl .nilsl .nilsl .nilsl nb)) 0 true⟩):
  ∃(fR:Fr) (fH:fC fg) (fL:List fg),D=some (.ext 4,⟨fR,fH,fL⟩)∧(be fH 2=c2∧be fH 3=c3∧be fH 35=GV∧ ∃(R:List fg) (kn:List (Nat×Int)) (r1 r2 r3:T),fL=jA a7 (gG c.cs c.cs.length) kn R∧nN c.cs kn∧jB R 40 (mh r1 r2 r3 .nilsl .nilsl .nilsl .nilsl)∧be fH 37=⟨1,.cells (ky zT aT fT c a7 a8 a9 a10 fB fA (lb r1 r2 r3 .nilsl .nilsl .nilsl .nilsl nb)) 0 true⟩)∧ ∀s,(gY (.loop jI)).contains s=false→an fR s=an fr s:=by
 obtain⟨e,r⟩:=nwr c a7 a8 c7 c8 i7 j7 i8 j8 hlen vR zT aT fT a9 a10 fB fA nb c2 c3 GV Bl xT fr lh sh jh h8 iM xe vI Bm o2 o3 kE im
 exact⟨_,_,_,hD.symm.trans e,r,fun s hs=>pL e s hs⟩
theorem anZ{fr:Fr}{lh:fC fg}{sh:List fg}{D:Option (Out×St)}(c:Ct)(a7 a9:T)(c7 c9:List T)(i7:fD a7 c.cs.length c7)(j7:iR c.cs c7)(i9:fD a9 c.co.length c9)(j9:fy SU c.co c9)(hlen:c.co.length≤40)(vR: ∀u∈c.co,ND c.cs u.sc u.x)(zT aT fT a8 a10 fB fA nb r1 r2 r3:T)(k2 k3 tw:fg)(Bl:List (Nat×Int))(xT:nN c.cs Bl)(R0:List fg)(I6:jB R0 40 (mh r1 r2 r3 .nilsl .nilsl .nilsl .nilsl))(hD:DC pE 232 (.loop lO) ⟨fr,lh,sh⟩=D)(jh:sh=jA a7 (gG c.cs c.cs.length) Bl R0)
  (h8:an fr 8= .ptr .L 37 1 0) (iM:an fr 14= .ptr .S 2 1 0) (I7:an fr 105=a9) (GY:an fr 106= .i .i64 (c.co.length:Int)) (GZ:an fr 107= .i .i64 0) (o2:be lh 2=k2) (o3:be lh 3=k3) (kE:be lh 35=tw) (im:be lh 37=⟨1,.cells (ky zT aT fT c a7 a8 a9 a10 fB fA (lb r1 r2 r3 .nilsl .nilsl .nilsl .nilsl nb)) 0 true⟩):
  ∃(fR:Fr) (fH:fC fg) (fL:List fg),D=some (.ext 6,⟨fR,fH,fL⟩)∧(be fH 2=k2∧be fH 3=k3∧be fH 35=tw∧ ∃(R:List fg) (kn:List (Nat×Int)) (c1 c2 c3:T),fL=jA a7 (gG c.cs c.cs.length) kn R∧nN c.cs kn∧jB R 80 (mh r1 r2 r3 c1 c2 c3 .nilsl)∧be fH 37=⟨1,.cells (ky zT aT fT c a7 a8 a9 a10 fB fA (lb r1 r2 r3 c1 c2 c3 .nilsl nb)) 0 true⟩)∧ ∀s,(gY (.loop lO)).contains s=false→an fR s=an fr s:=by
 obtain⟨e,r⟩:=nwc c a7 a9 c7 c9 i7 j7 i9 j9 hlen vR zT aT fT a8 a10 fB fA nb r1 r2 r3 k2 k3 tw Bl xT R0 I6 fr lh sh jh h8 iM I7 GY GZ o2 o3 kE im
 exact⟨_,_,_,hD.symm.trans e,r,fun s hs=>pL e s hs⟩
theorem an0{fr:Fr}{lh:fC fg}{sh:List fg}{D:Option (Out×St)}(c:Ct)(a7 a10:T)(c7 pw:List T)(i7:fD a7 c.cs.length c7)(j7:iR c.cs c7)(i10:fD a10 c.cr.length pw)(rY:hH c.cr pw)(hlen:c.cr.length≤40)(vR: ∀u∈c.cr,ND c.cs 1 u)(zT aT fT a8 a9 fB fA nb r1 r2 r3 c1 c2 c3:T)(k2 k3 tw:fg)(Bl:List (Nat×Int))(xT:nN c.cs Bl)(R0:List fg)(I6:jB R0 80 (mh r1 r2 r3 c1 c2 c3 .nilsl))(hD:DC pE 232 (.loop ln) ⟨fr,lh,sh⟩=D)(jh:sh=jA a7 (gG c.cs c.cs.length) Bl R0)
  (h8:an fr 8= .ptr .L 37 1 0) (iM:an fr 14= .ptr .S 2 1 0) (Eu:an fr 156=a10) (Cd:an fr 157= .i .i64 (c.cr.length:Int)) (G3:an fr 158= .i .i64 0) (o2:be lh 2=k2) (o3:be lh 3=k3) (kE:be lh 35=tw) (im:be lh 37=⟨1,.cells (ky zT aT fT c a7 a8 a9 a10 fB fA (lb r1 r2 r3 c1 c2 c3 .nilsl nb)) 0 true⟩):
  ∃(fR:Fr) (fH:fC fg) (fL:List fg),D=some (.ext 8,⟨fR,fH,fL⟩)∧(be fH 2=k2∧be fH 3=k3∧be fH 35=tw∧ ∃(R:List fg) (kn:List (Nat×Int)) (cr:T),fL=jA a7 (gG c.cs c.cs.length) kn R∧nN c.cs kn∧jB R 120 (mh r1 r2 r3 c1 c2 c3 cr)∧be fH 37=⟨1,.cells (ky zT aT fT c a7 a8 a9 a10 fB fA (lb r1 r2 r3 c1 c2 c3 cr nb)) 0 true⟩)∧ ∀s,(gY (.loop ln)).contains s=false→an fR s=an fr s:=by
 obtain⟨e,r⟩:=nwd c a7 a10 c7 pw i7 j7 i10 rY hlen vR zT aT fT a8 a9 fB fA nb r1 r2 r3 c1 c2 c3 k2 k3 tw Bl xT R0 I6 fr lh sh jh h8 iM Eu Cd G3 o2 o3 kE im
 exact⟨_,_,_,hD.symm.trans e,r,fun s hs=>pL e s hs⟩
theorem aix{fr:Fr}{lh:fC fg}{sh:List fg}{D:Option (Out×St)}(c:Ct)(a7 a8 a9 a10 fB fA zT aT fT r1 r2 r3 c1 c2 c3 cr:T)(m:List (List Nat×Nat))(kn:List (Nat×Int))(Rt:Bool)(R0:List fg)(I6:vK R0 (mh r1 r2 r3 c1 c2 c3 cr))(n2:Nat)(hn2:(r2= .nilsl∧n2=0)∨ ∃i g,r2= .isl .S (i+7) g 0 n2 4)(hn1:n2≤1000)(k2 k3 tw:fg)(hD:DC pE 232 (.loop ll) ⟨fr,lh,sh⟩=D)(jh:sh=jA a7 m kn R0)
  (h8:an fr 8= .ptr .L 37 1 0) (hl:an fr 181= .i .i64 (n2:Int)) (hi:an fr 182= .i .i64 0) (o2:be lh 2=k2) (o3:be lh 3=k3) (kE:be lh 35=tw) (im:be lh 37=⟨1,.cells (ky zT aT fT c a7 a8 a9 a10 fB fA (lb r1 r2 r3 c1 c2 c3 cr (.b Rt))) 0 true⟩):
  ∃(fR:Fr) (fH:fC fg) (fL:List fg),D=some (.ext 10,⟨fR,fH,fL⟩)∧(be fH 2=k2∧be fH 3=k3∧be fH 35=tw∧ ∃(R:List fg) (nb:Bool),fL=jA a7 m kn R∧vK R (mh r1 r2 r3 c1 c2 c3 cr)∧be fH 37=⟨1,.cells (ky zT aT fT c a7 a8 a9 a10 fB fA (lb r1 r2 r3 c1 c2 c3 cr (.b nb))) 0 true⟩)∧ ∀s,(gY (.loop ll)).contains s=false→an fR s=an fr s:=by
 obtain⟨e,r⟩:=anS c a7 a8 a9 a10 fB fA zT aT fT r1 r2 r3 c1 c2 c3 cr m kn Rt R0 I6 n2 hn2 hn1 k2 k3 tw fr lh sh jh h8 hl hi o2 o3 kE im
 exact⟨_,_,_,hD.symm.trans e,r,fun s hs=>pL e s hs⟩
theorem aiy{fr:Fr}{lh:fC fg}{sh:List fg}{D:Option (Out×St)}(c:Ct)(a7 a8 a9 a10 fB fA zT aT fT r1 r2 r3 c1 c2 c3 cr:T)(m:List (List Nat×Nat))(kn:List (Nat×Int))(Rt:Bool)(R0:List fg)(I6:vK R0 (mh r1 r2 r3 c1 c2 c3 cr))(n2:Nat)(hn2:(c2= .nilsl∧n2=0)∨ ∃i g,c2= .isl .S (i+7) g 0 n2 3)(hn1:n2≤1000)(k2 k3 tw:fg)(hD:DC pE 232 (.loop lj) ⟨fr,lh,sh⟩=D)(jh:sh=jA a7 m kn R0)
  (h8:an fr 8= .ptr .L 37 1 0) (hl:an fr 209= .i .i64 (n2:Int)) (hi:an fr 210= .i .i64 0) (o2:be lh 2=k2) (o3:be lh 3=k3) (kE:be lh 35=tw) (im:be lh 37=⟨1,.cells (ky zT aT fT c a7 a8 a9 a10 fB fA (lb r1 r2 r3 c1 c2 c3 cr (.b Rt))) 0 true⟩):
  ∃(fR:Fr) (fH:fC fg) (fL:List fg),D=some (.ext 12,⟨fR,fH,fL⟩)∧(be fH 2=k2∧be fH 3=k3∧be fH 35=tw∧ ∃(R:List fg) (nb:Bool),fL=jA a7 m kn R∧vK R (mh r1 r2 r3 c1 c2 c3 cr)∧be fH 37=⟨1,.cells (ky zT aT fT c a7 a8 a9 a10 fB fA (lb r1 r2 r3 c1 c2 c3 cr (.b nb))) 0 true⟩)∧ ∀s,(gY (.loop lj)).contains s=false→an fR s=an fr s:=by
 obtain⟨e,r⟩:=anV c a7 a8 a9 a10 fB fA zT aT fT r1 r2 r3 c1 c2 c3 cr m kn Rt R0 I6 n2 hn2 hn1 k2 k3 tw fr lh sh jh h8 hl hi o2 o3 kE im
 exact⟨_,_,_,hD.symm.trans e,r,fun s hs=>pL e s hs⟩
end Go.Proofs.YtblcbheipjeoeaaGreat
namespace Go.Proofs.YtblcbheipjeoeaaGreat
open Go Go.Ev
theorem Rv{R:List fg}{vs:List (Nat×T)}{sz:Nat}{v:T}(h:vK R vs)(hm:(sz,v)∈vs): ∃n:Nat,((v= .nilsl∧n=0)∨ ∃i g,v= .isl .S (i+7) g 0 n sz)∧n≤1000∧lenI v=some (.i .i64 (n:Int)):=by
 rcases h _ hm with h|⟨i,g,n,cs,wm,h1,h2,h3,h4,h5,h6⟩
 ·simp only at h;subst h;exact⟨0,.inl ⟨rfl,rfl⟩,by omega,rfl⟩
 ·simp only at h1;subst h1;exact⟨n,.inr ⟨i,g,rfl⟩,h5,rfl⟩
theorem Rw{m:Nat}{lh:fC fg}{sh:List fg}{k g wm:Nat}{cs:List T}{bx:Bool}(h:be lh k=⟨g,.cells cs wm bx⟩):fzW (m+1) lh sh false (.ptr .L k g 0)=(B8 m lh sh false cs).map fun q=>(.vp q.1,q.2++ [(.L,k,⟨g,.cells cs cs.length bx⟩)]):=by
 have he:(St.mk .nil lh sh).get .L k=be lh k:=rfl
 unfold fzW B8
 rw[fz]
 simp only[Bool.false_and,Bool.false_eq_true,if_false,Q.run,he,h,if_true,List.drop_zero]
 rw[gJ]
 cases (gk (fz false (m+1)) cs).run (St.mk .nil lh sh).get sh.length <;> rfl
theorem vL{R:List fg}{vs:List (Nat×T)}{sz:Nat}{v:T}(h:vK R vs)(hm:(sz,v)∈vs)(a7:T)(m:List (List Nat×Nat))(kn:List (Nat×Int)): ∃v' us,froz1 v'=true∧ ∀lh n,fzW n lh (jA a7 m kn R) false v=some (v',us):=by
 rcases h _ hm with h|⟨i,g,n,cs,wm,h1,h2,h3,h4,h5,h6⟩
 ·simp only at h;subst h;exact⟨.nilsl,[],rfl,fun lh n=>CS rfl⟩
 ·simp only at h1;subst h1
  refine⟨.sl ((cs.drop 0).take (n*sz)) n false,[(.S,i+7,⟨g,.cells cs cs.length false⟩)],rfl,fun lh k=> ?_⟩
  have he:(St.mk .nil lh (jA a7 m kn R)).get .S (i+7)=gC R i:=Db _ _ _ _ _
  unfold fzW
  rw[fz]
  simp only[Bool.false_and,Bool.false_eq_true,if_false,Q.run]
  rw[he,h2]
  simp only[if_true,Nat.zero_add,h4,Nat.le_refl,Q.run]
theorem aiz(t:Tt)(c:Ct)(zT aT fT a7 a8 a9 a10 fB fA:T)(hT:uC t zT aT fT)(hC:xu c a7 a8 a9 a10 fB fA)(hS:A8 c)(ht:Em t=0)(hc:sO c=0)(hnz:(t.zo.map Zo.nm).Nodup)(hlz:t.zo.length≤100)(Z1:(t.ap.map Ap.cd).Nodup)(hla:t.ap.length≤100)
  (hru: ∀u∈c.ru,ND c.cs u.sc u.x) (lru:c.ru.length≤40) (AH: ∀u∈c.co,ND c.cs u.sc u.x) (lco:c.co.length≤40) (hcr: ∀u∈c.cr,ND c.cs 1 u) (lcr:c.cr.length≤40) (lcs:c.cs.length≤32):
  ∃s vs,fj pE 42 [.agg [zT,aT,fT],.agg (fX c a7 a8 a9 a10 fB fA)] []=some (.tup [.vp (zT::aT::fT::(fX c a7 a8 a9 a10 fB fA++vs)),.i .i64 0],s)∧vs.all froz1=true∧vs.length=11:=by
 have hpt:=I1 t zT aT fT hT
 obtain⟨s1,hpc⟩:=KC c a7 a8 a9 a10 fB fA hC hS
 rw[ht]at hpt
 rw[hc]at hpc
 obtain⟨⟨zc,z1,z2⟩,⟨ac,b1,b2⟩,⟨fc,f1,f2⟩⟩:=hT
 obtain⟨⟨c7,i7,j7⟩,⟨c8,i8,j8⟩,⟨c9,i9,j9⟩,⟨pw,i10,rY⟩,⟨pX,i11,tu⟩,⟨qD,i12,tT⟩⟩:=hC
 have hfT:=f1.froz1
 have hnc:=abf c.cs a7 c7 i7 j7 (by unfold om;omega)
 rw[show Ew a7 (gG c.cs c.cs.length) [] 4=jA a7 (gG c.cs c.cs.length) [] []by unfold jA;rw[List.append_nil]]at hnc
 have hk7:kept a7=true:=by rcases i7 with⟨rfl,_,_⟩|⟨ex,rfl⟩ <;> rfl
 rw[fx Tg (by simp[Ta])]
 unfold fX at hpc ⊢
 simp(maxDischargeDepth:=6) only[qA,seval,Ta,hpt,hpc,Zj,afN,z1.froz1,b1.froz1,f1.froz1,i7.froz1,i8.froz1,i9.froz1,i10.froz1,i11.froz1,i12.froz1,z1.lenI]
 generalize hD:DC pE 232 (.loop lp) _=D
 obtain⟨f1,l1,s2,rfl,⟨o2,o3,kE,im,⟨m,GW,hm⟩,rfl⟩,pr⟩:=anW t.zo hnz zT zc z1 z2 hlz ⟨1,.cells [zT,aT,fT] 0 true⟩ ⟨1,.cells [.i .i64 c.rp,.i .i64 c.rl,.i .i64 c.cn,.i .i64 c.st,.i .i64 c.ly,.i .i64 c.nf,.i .i64 c.nt,a7,a8,a9,a10,fB,fA,.i .i64 c.gu] 0 true⟩ ⟨1,.map [] [] false⟩ ⟨1,.cells (ky zT aT fT c a7 a8 a9 a10 fB fA (lb .nilsl .nilsl .nilsl .nilsl .nilsl .nilsl .nilsl (.b false))) 0 true⟩ hD (by simp(maxDischargeDepth:=6) only[qA,seval]) (by simp(maxDischargeDepth:=6) only[qA,seval]) (by simp(maxDischargeDepth:=6) only[qA,seval]) (by simp(maxDischargeDepth:=6) only[qA,seval]) (by simp(maxDischargeDepth:=6) only[qA,seval]) (by simp(maxDischargeDepth:=6) only[qA,seval]) (by simp(maxDischargeDepth:=6) only[qA,seval]) (by unfold ky fX lb;simp only[List.cons_append,List.nil_append];simp(maxDischargeDepth:=6) only[qA,seval]) (by simp(maxDischargeDepth:=6) only[qA,seval])
 have aiA:an f1 2= .ptr .L 2 1 0:=by rw[pr 2 (by decide)];simp(maxDischargeDepth:=6) only[qA,seval]
 have an1:an f1 3= .ptr .L 3 1 0:=by rw[pr 3 (by decide)];simp(maxDischargeDepth:=6) only[qA,seval]
 have aiB:an f1 8= .ptr .L 37 1 0:=by rw[pr 8 (by decide)];simp(maxDischargeDepth:=6) only[qA,seval]
 have an2:an f1 9= .mp .L 38 1:=by rw[pr 9 (by decide)];simp(maxDischargeDepth:=6) only[qA,seval]
 clear pr
 simp(maxDischargeDepth:=6) only[qA,seval,aiA,o2,b1.lenI]
 have sd:=im
 unfold ky fX lb at sd
 simp only[List.cons_append,List.nil_append]at sd
 clear hD
 generalize hD:DC pE 232 (.loop lP) _=D
 obtain⟨f2,l1,s2,rfl,⟨o2,o3,im,⟨q,kE,hq⟩,rfl⟩,pr⟩:=anX t.ap Z1 aT ac b1 b2 hla m hm zT aT fT c a7 a8 a9 a10 fB fA (lb .nilsl .nilsl .nilsl .nilsl .nilsl .nilsl .nilsl (.b false)) ⟨1,.cells [zT,aT,fT] 0 true⟩ ⟨1,.cells [.i .i64 c.rp,.i .i64 c.rl,.i .i64 c.cn,.i .i64 c.st,.i .i64 c.ly,.i .i64 c.nf,.i .i64 c.nt,a7,a8,a9,a10,fB,fA,.i .i64 c.gu] 0 true⟩ hD (by simp(maxDischargeDepth:=6) only[qA,seval,aiB]) (by simp(maxDischargeDepth:=6) only[qA,seval,an2]) (by simp(maxDischargeDepth:=6) only[qA,seval]) (by simp(maxDischargeDepth:=6) only[qA,seval]) (by simp(maxDischargeDepth:=6) only[qA,seval]) (by simp(maxDischargeDepth:=6) only[o2]) (by simp(maxDischargeDepth:=6) only[o3]) (by simp(maxDischargeDepth:=6) only[kE]) (by unfold ky fX lb;simp only[List.cons_append,List.nil_append];simp(maxDischargeDepth:=6) only[sd]) (by simp(maxDischargeDepth:=6) only[GW])
 have arF:an f2 2= .ptr .L 2 1 0:=by rw[pr 2 (by decide)];simp(maxDischargeDepth:=6) only[qA,seval,aiA]
 have aiC:an f2 3= .ptr .L 3 1 0:=by rw[pr 3 (by decide)];simp(maxDischargeDepth:=6) only[qA,seval,an1]
 have aiD:an f2 8= .ptr .L 37 1 0:=by rw[pr 8 (by decide)];simp(maxDischargeDepth:=6) only[qA,seval,aiB]
 clear pr sd
 simp(maxDischargeDepth:=6) only[qA,seval,aiC,o3,hk7,hnc,alY,i8.lenI]
 have xT:nN c.cs []:=fun i v h=>by simp[fO]at h
 have sd:=im
 unfold ky fX lb at sd
 simp only[List.cons_append,List.nil_append]at sd
 clear hD
 generalize hD:DC pE 232 (.loop jI) _=D
 obtain⟨f3,l1,s2,rfl,⟨o2,o3,kE,R,kn,r1,r2,r3,rfl,nz,pP,im⟩,pr⟩:=anY c a7 a8 c7 c8 i7 j7 i8 j8 lru hru zT aT fT a9 a10 fB fA (.b false) ⟨1,.cells [zT,aT,fT] 0 true⟩ ⟨1,.cells [.i .i64 c.rp,.i .i64 c.rl,.i .i64 c.cn,.i .i64 c.st,.i .i64 c.ly,.i .i64 c.nf,.i .i64 c.nt,a7,a8,a9,a10,fB,fA,.i .i64 c.gu] 0 true⟩ ⟨1,.map (q.map fun p=>sK p.1) (q.map fun p=>T.agg p.2) false⟩ [] xT hD rfl (by simp(maxDischargeDepth:=6) only[qA,seval,aiD]) (by simp(maxDischargeDepth:=6) only[qA,seval]) (by simp(maxDischargeDepth:=6) only[qA,seval]) (by simp(maxDischargeDepth:=6) only[qA,seval]) (by simp(maxDischargeDepth:=6) only[qA,seval]) (by simp(maxDischargeDepth:=6) only[o2]) (by simp(maxDischargeDepth:=6) only[o3]) (by simp(maxDischargeDepth:=6) only[kE]) (by unfold ky fX lb;simp only[List.cons_append,List.nil_append];simp(maxDischargeDepth:=6) only[sd])
 have aiE:an f3 3= .ptr .L 3 1 0:=by rw[pr 3 (by decide)];simp(maxDischargeDepth:=6) only[qA,seval,aiC]
 have aiF:an f3 8= .ptr .L 37 1 0:=by rw[pr 8 (by decide)];simp(maxDischargeDepth:=6) only[qA,seval,aiD]
 have Yx:an f3 14= .ptr .S 2 1 0:=by rw[pr 14 (by decide)];simp(maxDischargeDepth:=6) only[qA,seval]
 clear pr sd
 simp(maxDischargeDepth:=6) only[qA,seval,aiE,o3,i9.lenI]
 have sd:=im
 unfold ky fX lb at sd
 simp only[List.cons_append,List.nil_append]at sd
 clear hD
 generalize hD:DC pE 232 (.loop lO) _=D
 obtain⟨f4,l1,s2,rfl,⟨o2,o3,kE,R1,G8,c1,c2,c3,rfl,nz,pP,im⟩,pr⟩:=anZ c a7 a9 c7 c9 i7 j7 i9 j9 lco AH zT aT fT a8 a10 fB fA (.b false) r1 r2 r3 ⟨1,.cells [zT,aT,fT] 0 true⟩ ⟨1,.cells [.i .i64 c.rp,.i .i64 c.rl,.i .i64 c.cn,.i .i64 c.st,.i .i64 c.ly,.i .i64 c.nf,.i .i64 c.nt,a7,a8,a9,a10,fB,fA,.i .i64 c.gu] 0 true⟩ ⟨1,.map (q.map fun p=>sK p.1) (q.map fun p=>T.agg p.2) false⟩ kn nz R pP hD rfl (by simp(maxDischargeDepth:=6) only[qA,seval,aiF]) (by simp(maxDischargeDepth:=6) only[qA,seval,Yx]) (by simp(maxDischargeDepth:=6) only[qA,seval]) (by simp(maxDischargeDepth:=6) only[qA,seval]) (by simp(maxDischargeDepth:=6) only[qA,seval]) (by simp(maxDischargeDepth:=6) only[o2]) (by simp(maxDischargeDepth:=6) only[o3]) (by simp(maxDischargeDepth:=6) only[kE]) (by unfold ky fX lb;simp only[List.cons_append,List.nil_append];simp(maxDischargeDepth:=6) only[sd])
 have an3:an f4 3= .ptr .L 3 1 0:=by rw[pr 3 (by decide)];simp(maxDischargeDepth:=6) only[qA,seval,aiE]
 have aiG:an f4 8= .ptr .L 37 1 0:=by rw[pr 8 (by decide)];simp(maxDischargeDepth:=6) only[qA,seval,aiF]
 have aiH:an f4 14= .ptr .S 2 1 0:=by rw[pr 14 (by decide)];simp(maxDischargeDepth:=6) only[qA,seval,Yx]
 clear pr sd
 simp(maxDischargeDepth:=6) only[qA,seval,an3,o3,i10.lenI]
 have sd:=im
 unfold ky fX lb at sd
 simp only[List.cons_append,List.nil_append]at sd
 clear hD
 generalize hD:DC pE 232 (.loop ln) _=D
 obtain⟨f5,l1,s2,rfl,⟨o2,o3,kE,R2,KL,cr,rfl,nz,pP,im⟩,pr⟩:=an0 c a7 a10 c7 pw i7 j7 i10 rY lcr hcr zT aT fT a8 a9 fB fA (.b false) r1 r2 r3 c1 c2 c3 ⟨1,.cells [zT,aT,fT] 0 true⟩ ⟨1,.cells [.i .i64 c.rp,.i .i64 c.rl,.i .i64 c.cn,.i .i64 c.st,.i .i64 c.ly,.i .i64 c.nf,.i .i64 c.nt,a7,a8,a9,a10,fB,fA,.i .i64 c.gu] 0 true⟩ ⟨1,.map (q.map fun p=>sK p.1) (q.map fun p=>T.agg p.2) false⟩ G8 nz R1 pP hD rfl (by simp(maxDischargeDepth:=6) only[qA,seval,aiG]) (by simp(maxDischargeDepth:=6) only[qA,seval,aiH]) (by simp(maxDischargeDepth:=6) only[qA,seval]) (by simp(maxDischargeDepth:=6) only[qA,seval]) (by simp(maxDischargeDepth:=6) only[qA,seval]) (by simp(maxDischargeDepth:=6) only[o2]) (by simp(maxDischargeDepth:=6) only[o3]) (by simp(maxDischargeDepth:=6) only[kE]) (by unfold ky fX lb;simp only[List.cons_append,List.nil_append];simp(maxDischargeDepth:=6) only[sd])
 have abg:an f5 8= .ptr .L 37 1 0:=by rw[pr 8 (by decide)];simp(maxDischargeDepth:=6) only[qA,seval,aiG]
 clear pr sd
 have qJ:=pP.toW (by omega)
 obtain⟨n2,hn2,an4,SF⟩:=Rv (sz:=4) (v:=r2) qJ (by simp[mh])
 obtain⟨n1,hn1,an5,OZ⟩:=Rv (sz:=3) (v:=c2) qJ (by simp[mh])
 have sd:=im
 unfold ky fX lb at sd
 simp only[List.cons_append,List.nil_append]at sd
 simp(maxDischargeDepth:=6) only[qA,seval,jz,abg,sd,SF]
 have sd:=im
 unfold ky fX lb at sd
 simp only[List.cons_append,List.nil_append]at sd
 clear hD
 generalize hD:DC pE 232 (.loop ll) _=D
 obtain⟨f6,l1,s2,rfl,⟨o2,o3,kE,R3,nb,rfl,hw3,im⟩,pr⟩:=aix c a7 a8 a9 a10 fB fA zT aT fT r1 r2 r3 c1 c2 c3 cr _ KL false R2 qJ n2 hn2 an4 ⟨1,.cells [zT,aT,fT] 0 true⟩ ⟨1,.cells [.i .i64 c.rp,.i .i64 c.rl,.i .i64 c.cn,.i .i64 c.st,.i .i64 c.ly,.i .i64 c.nf,.i .i64 c.nt,a7,a8,a9,a10,fB,fA,.i .i64 c.gu] 0 true⟩ ⟨1,.map (q.map fun p=>sK p.1) (q.map fun p=>T.agg p.2) false⟩ hD rfl (by simp(maxDischargeDepth:=6) only[qA,seval,abg]) (by simp(maxDischargeDepth:=6) only[qA,seval]) (by simp(maxDischargeDepth:=6) only[qA,seval]) (by simp(maxDischargeDepth:=6) only[o2]) (by simp(maxDischargeDepth:=6) only[o3]) (by simp(maxDischargeDepth:=6) only[kE]) (by unfold ky fX lb;simp only[List.cons_append,List.nil_append];simp(maxDischargeDepth:=6) only[sd])
 have abh:an f6 8= .ptr .L 37 1 0:=by rw[pr 8 (by decide)];simp(maxDischargeDepth:=6) only[qA,seval,abg]
 clear pr sd
 have sd:=im
 unfold ky fX lb at sd
 simp only[List.cons_append,List.nil_append]at sd
 simp(maxDischargeDepth:=6) only[qA,seval,jz,abh,sd,OZ]
 have sd:=im
 unfold ky fX lb at sd
 simp only[List.cons_append,List.nil_append]at sd
 clear hD
 generalize hD:DC pE 232 (.loop lj) _=D
 obtain⟨f7,l1,s2,rfl,⟨o2,o3,kE,R4,nb1,rfl,SZ,im⟩,pr⟩:=aiy c a7 a8 a9 a10 fB fA zT aT fT r1 r2 r3 c1 c2 c3 cr _ KL nb R3 hw3 n1 hn1 an5 ⟨1,.cells [zT,aT,fT] 0 true⟩ ⟨1,.cells [.i .i64 c.rp,.i .i64 c.rl,.i .i64 c.cn,.i .i64 c.st,.i .i64 c.ly,.i .i64 c.nf,.i .i64 c.nt,a7,a8,a9,a10,fB,fA,.i .i64 c.gu] 0 true⟩ ⟨1,.map (q.map fun p=>sK p.1) (q.map fun p=>T.agg p.2) false⟩ hD rfl (by simp(maxDischargeDepth:=6) only[qA,seval,abh]) (by simp(maxDischargeDepth:=6) only[qA,seval]) (by simp(maxDischargeDepth:=6) only[qA,seval]) (by simp(maxDischargeDepth:=6) only[o2]) (by simp(maxDischargeDepth:=6) only[o3]) (by simp(maxDischargeDepth:=6) only[kE]) (by unfold ky fX lb;simp only[List.cons_append,List.nil_append];simp(maxDischargeDepth:=6) only[sd])
 have an6:an f7 8= .ptr .L 37 1 0:=by rw[pr 8 (by decide)];simp(maxDischargeDepth:=6) only[qA,seval,abh]
 clear pr sd
 have sd:=im
 unfold ky fX lb at sd
 simp only[List.cons_append,List.nil_append]at sd
 simp(maxDischargeDepth:=6) only[qA,seval,an6]
 obtain⟨x0,u0,y0,w0⟩:=vL (sz:=4) (v:=r1) SZ (by simp[mh]) a7 (gG c.cs c.cs.length) KL
 obtain⟨x1,u1,y1,w1⟩:=vL (sz:=4) (v:=r2) SZ (by simp[mh]) a7 (gG c.cs c.cs.length) KL
 obtain⟨x2,u2,y2,w2⟩:=vL (sz:=4) (v:=r3) SZ (by simp[mh]) a7 (gG c.cs c.cs.length) KL
 obtain⟨x3,u3,y3,w3⟩:=vL (sz:=3) (v:=c1) SZ (by simp[mh]) a7 (gG c.cs c.cs.length) KL
 obtain⟨x4,u4,y4,w4⟩:=vL (sz:=3) (v:=c2) SZ (by simp[mh]) a7 (gG c.cs c.cs.length) KL
 obtain⟨x5,u5,y5,w5⟩:=vL (sz:=3) (v:=c3) SZ (by simp[mh]) a7 (gG c.cs c.cs.length) KL
 obtain⟨x6,u6,y6,w6⟩:=vL (sz:=3) (v:=cr) SZ (by simp[mh]) a7 (gG c.cs c.cs.length) KL
 rw[Rw sd]
 simp(maxDischargeDepth:=6) only[qA,seval,kE,mpV,z1.froz1,b1.froz1,hfT,i7.froz1,i8.froz1,i9.froz1,i10.froz1,i11.froz1,i12.froz1,w0,w1,w2,w3,w4,w5,w6]
 refine⟨_,_,rfl, ?_, ?_⟩
 ·simp only[List.all_cons,List.all_nil,y0,y1,y2,y3,y4,y5,y6,Bool.and_true,Bool.true_and];rfl
 ·rfl
end Go.Proofs.YtblcbheipjeoeaaGreat
namespace Go.Proofs.YtblcbheipjeoeaaGreat
open Go Go.Ev
theorem VI(t:Tt)(c:Ct)(zT aT fT a7 a8 a9 a10 fB fA:T)(hT:uC t zT aT fT)(hC:xu c a7 a8 a9 a10 fB fA)(ht:Em t≠0):
  ∃s,fj pE 42 [.agg [zT,aT,fT],.agg (fX c a7 a8 a9 a10 fB fA)] []=some (.tup [.nilptr,.i .i64 (Em t)],s):=by
 have hpt:=I1 t zT aT fT hT
 obtain⟨⟨zc,z1,z2⟩,⟨ac,b1,b2⟩,⟨fc,f1,f2⟩⟩:=hT
 obtain⟨⟨c7,i7,j7⟩,⟨c8,i8,j8⟩,⟨c9,i9,j9⟩,⟨pw,i10,rY⟩,⟨pX,i11,tu⟩,⟨qD,i12,tT⟩⟩:=hC
 rw[fx Tg (by simp[Ta])]
 unfold fX
 simp(maxDischargeDepth:=6) only[qA,seval,Ta,hpt,ht,Zj,z1.froz1,b1.froz1,f1.froz1]
 exact⟨_,rfl⟩
end Go.Proofs.YtblcbheipjeoeaaGreat
namespace Go.Proofs.YtblcbheipjeoeaaGreat
open Go Go.Ev
theorem nzo: ∀(l:List Zo) (seen:List (List Nat)),IX seen l=0→(l.map Zo.nm).Nodup∧ ∀z∈l,z.nm∉seen
 | [],seen,_=>⟨List.nodup_nil,fun z hz=>by cases hz⟩
 |z::r,seen,h=>by
  rw[IX]at h
  by_cases h1:tW z=0
  ·rw[if_neg (by simp[h1])]at h
   by_cases h2:z.nm∈seen
   ·rw[if_pos h2]at h;cases h
   ·rw[if_neg h2]at h
    obtain⟨q1,q2⟩:=nzo r _ h
    refine⟨?_,fun y hy=> ?_⟩
    ·rw[List.map_cons,List.nodup_cons]
     refine⟨fun hm=> ?_,q1⟩
     obtain⟨y,hy,e⟩:=List.mem_map.1 hm
     exact q2 y hy (by rw[e];simp)
    ·rcases List.mem_cons.1 hy with rfl|hy
     ·exact h2
     ·exact fun hs=>q2 y hy (by simp[hs])
  ·rw[if_pos (by simpa using h1)]at h;exact absurd h h1
theorem nap(zs:List (List Nat)): ∀(l:List Ap) (seen:List (List Nat)),IY zs seen l=0→(l.map Ap.cd).Nodup∧ ∀z∈l,z.cd∉seen
 | [],seen,_=>⟨List.nodup_nil,fun z hz=>by cases hz⟩
 |z::r,seen,h=>by
  rw[IY]at h
  by_cases h1:Bf z.cd=false
  ·rw[if_pos h1]at h;cases h
  ·rw[if_neg h1]at h
   by_cases h2:z.cd∈seen
   ·rw[if_pos h2]at h;cases h
   ·rw[if_neg h2]at h
    by_cases h3:z.zn∉zs
    ·rw[if_pos h3]at h;cases h
    ·rw[if_neg h3]at h
     obtain⟨q1,q2⟩:=nap zs r _ h
     refine⟨?_,fun y hy=> ?_⟩
     ·rw[List.map_cons,List.nodup_cons]
      refine⟨fun hm=> ?_,q1⟩
      obtain⟨y,hy,e⟩:=List.mem_map.1 hm
      exact q2 y hy (by rw[e];simp)
     ·rcases List.mem_cons.1 hy with rfl|hy
      ·exact h2
      ·exact fun hs=>q2 y hy (by simp[hs])
theorem abi(t:Tt)(h:Em t=0):(t.zo.map Zo.nm).Nodup∧t.zo.length≤100∧(t.ap.map Ap.cd).Nodup∧t.ap.length≤100:=by
 unfold Em at h
 split at h
 ·cases h
 split at h
 ·cases h
 split at h
 ·cases h
 split at h
 ·rename_i q;exact absurd h q
 split at h
 ·rename_i q;exact absurd h q
 rename_i a b c d e
 exact⟨(nzo t.zo [] (by omega)).1,by omega,(nap (t.zo.map Zo.nm) t.ap [] (by omega)).1,by omega⟩
theorem Rx: ∀(l:List Ru) (seen:List (Int×List Nat)),Ee seen l=0→ ∀u∈l,kj u.sc 1 3=true∧fP u.x=0
 | [],seen,_,u,hu=>by cases hu
 |v::l,seen,h,u,hu=>by
  rw[Ee]at h
  split at h
  ·cases h
  split at h
  ·cases h
  split at h
  ·rename_i q;exact absurd h q
  rename_i a b c
  rcases List.mem_cons.1 hu with rfl|hu
  ·exact⟨by cases hw:kj u.sc 1 3 with|true=>rfl|false=>exact absurd (.inl hw) a,by omega⟩
  ·exact Rx l _ h u hu
theorem Ry: ∀(l:List Co),IP l=0→ ∀u∈l,kj u.sc 1 3=true∧fP u.x=0
 | [],_,u,hu=>by cases hu
 |v::l,h,u,hu=>by
  rw[IP]at h
  split at h
  ·cases h
  split at h
  ·rename_i q;exact absurd h q
  rename_i a c
  rcases List.mem_cons.1 hu with rfl|hu
  ·exact⟨by cases hw:kj u.sc 1 3 with|true=>rfl|false=>exact absurd hw a,by omega⟩
  ·exact Ry l h u hu
theorem Rz: ∀(l:List Ex),IQ l=0→ ∀u∈l,fP u=0
 | [],_,u,hu=>by cases hu
 |v::l,h,u,hu=>by
  rw[IQ]at h
  split at h
  ·rename_i q;exact absurd h q
  rename_i c
  rcases List.mem_cons.1 hu with rfl|hu
  ·omega
  ·exact Rz l h u hu
end Go.Proofs.YtblcbheipjeoeaaGreat
