/- Walks of functions of the program and of the reference, and their plain laws, part 13. Conditions: the theorems' own. -/
import Derived.Test.YtblcbheipjeoeaaGreatM12
import Derived.KernelRfl
set_option maxRecDepth 100000
set_option linter.unusedSimpArgs false
set_option linter.unusedVariables false
set_option maxHeartbeats 16000000
namespace Go.Proofs.YtblcbheipjeoeaaGreat
open Go Go.Ev
theorem axn(c:Ct)(D a8 a9 E hZ hU zT aT fT H C I J K N O:T)(m:List (List Nat×Nat))(kn:List (Nat×Int))(X4:Bool)(R0:List gR)(l1 l2 l3 e1 e2 e3 er:RL)(Jl:yW R0 (nR H C I J K N O l1 l2 l3 e1 e2 e3 er))(U:Nat)(hn2:(C= .nilsl∧U=0)∨ ∃i g,C= .isl .S (i+7) g 0 U 4)(hn1:U≤1000)(k2 k3 wc:gR)(fr:Fr)(lh:hJ gR)(sh:List gR)(kN:sh=lC D m kn R0)
  (X:an fr 8= .ptr .L 37 1 0) (V:an fr 181= .i .i64 (U:Int)) (hi:an fr 182= .i .i64 0) (Z:a6 lh 2=k2) (o3:a6 lh 3=k3) (mr:a6 lh 35=wc) (W:a6 lh 37=⟨1,.cells (ml zT aT fT c D a8 a9 E hZ hU (mQ H C I J K N O (.b X4))) 0 true⟩):
  kV 232 oY fr lh sh (.ext 10)∧
  (a6 (kH pE 232 oY fr lh sh) 2=k2∧a6 (kH pE 232 oY fr lh sh) 3=k3∧a6 (kH pE 232 oY fr lh sh) 35=wc∧ ∃(R:List gR) (F:Bool),kb pE 232 oY fr lh sh=lC D m kn R∧yW R (nR H C I J K N O l1 l2 l3 e1 e2 e3 er)∧a6 (kH pE 232 oY fr lh sh) 37=⟨1,.cells (ml zT aT fT c D a8 a9 E hZ hU (mQ H C I J K N O (.b F))) 0 true⟩):=by
 refine ib (P:=fun iq il iw=>a6 il 2=k2∧a6 il 3=k3∧a6 il 35=wc∧ ∃(R:List gR) (F:Bool),iw=lC D m kn R∧yW R (nR H C I J K N O l1 l2 l3 e1 e2 e3 er)∧a6 il 37=⟨1,.cells (ml zT aT fT c D a8 a9 E hZ hU (mQ H C I J K N O (.b F))) 0 true⟩)
  (ij (fun k st=> ∃(fr:Fr) (Y:hJ gR) (R:List gR) (F:Bool),st=⟨fr,Y,lC D m kn R⟩∧yW R (nR H C I J K N O l1 l2 l3 e1 e2 e3 er)∧an fr 8= .ptr .L 37 1 0∧an fr 181= .i .i64 (U:Int)∧an fr 182= .i .i64 (k:Int)∧a6 Y 2=k2∧a6 Y 3=k3∧a6 Y 35=wc∧a6 Y 37=⟨1,.cells (ml zT aT fT c D a8 a9 E hZ hU (mQ H C I J K N O (.b F))) 0 true⟩) _ U ?_ ?_ 0 _ (Nat.zero_le _) ⟨fr,lh,R0,X4,by rw[kN],Jl,X,V,hi,Z,o3,mr,W⟩)
 ·rintro k _ hk ⟨fr,Y,R,F,rfl,rb,X,V,hi,Z,o3,mr,W⟩
  left
  have iu:(k:Int)<U:=by omega
  have hw:=iG (k:=k) (by omega)
  have FN: ∃i g,C= .isl .S (i+7) g 0 U 4:=by
   rcases hn2 with⟨_,h⟩|h
   ·omega
   ·exact h
  obtain⟨i0,g0,FN⟩:=FN
  rcases rb (4,C,l2) (by simp[nR])with⟨mG,_⟩|⟨i,g,n,cs,wm,hv,hE,qI,hn,hB,hfz⟩
  ·simp only[FN]at mG;cases mG
  simp only[FN]at hv
  injection hv with _ q1 q2 _ q3 _
  have q1:i0=i:=by omega
  subst q1 q2 q3
  obtain⟨f,b,cb,r,hdr,hb,L9,axo⟩:=hfz.at4 hn hk
  have hus:=agt (p:=1) f b cb r hb L9 (by omega)
  have hcz:=hfz.froz
  have hz: ∀lh,fzV lh (lC D m kn R) false (.ptr .S (i0+7) g0 (k*4+1))=some (.vp (.i .i64 f.op:: .i .i64 f.num::b::r),[(.S,i0+7,⟨g0,.cells cs cs.length false⟩)]):=fun lh=>by
   rw[KY (by rw[G1];exact hE) hcz,hdr]
  have hzL: ∀lh,HG lh (lC D m kn R) false [.ptr .S (i0+7) g0 (k*4+1),.i .i64 1]=some ([.vp (.i .i64 f.op:: .i .i64 f.num::b::r),.i .i64 1],[(.S,i0+7,⟨g0,.cells cs cs.length false⟩)]):=fun lh=>by
   rw[tO,tO,H5,hz lh,wK (by rfl)];rfl
  have nH: ∀x,scalar (.b x)=true:=fun _=>rfl
  unfold ml iS mQ at W ⊢
  simp only[List.cons_append,List.nil_append,FN]at W ⊢
  cases F with
  |true=>
   simp only[qA,seval,oY,X,V,hi,W,iu,hw]
   refine⟨_,rfl,_,_,R,true,rfl,(by rw[←FN];exact rb), ?_, ?_, ?_, ?_, ?_, ?_, ?_⟩
   all_goals (simp only[qA,seval,X,V,Z,o3,mr])
  |false=>
   simp only[qA,seval,kR,oY,X,V,hi,W,iu,hw,hzL,hus,nH,aoL,hk]
   refine⟨_,rfl,_,_,R,f.us 1,rfl,(by rw[←FN];exact rb), ?_, ?_, ?_, ?_, ?_, ?_, ?_⟩
   all_goals (simp only[qA,seval,X,V,Z,o3,mr])
 ·rintro _ ⟨fr,Y,R,F,rfl,rb,X,V,hi,Z,o3,mr,W⟩
  simp only[qA,seval,oY,V,hi,Int.lt_irrefl]
  exact⟨_,_,jB,rfl,rfl,Z,o3,mr,R,F,rfl,rb,W⟩
theorem axr(c:Ct)(D a8 a9 E hZ hU zT aT fT H I J K C N O:T)(m:List (List Nat×Nat))(kn:List (Nat×Int))(X4:Bool)(R0:List gR)(l1 l2 l3 e1 e2 e3 er:RL)(Jl:yW R0 (nR H I J K C N O l1 l2 l3 e1 e2 e3 er))(U:Nat)(hn2:(C= .nilsl∧U=0)∨ ∃i g,C= .isl .S (i+7) g 0 U 3)(hn1:U≤1000)(k2 k3 wc:gR)(fr:Fr)(lh:hJ gR)(sh:List gR)(kN:sh=lC D m kn R0)
  (X:an fr 8= .ptr .L 37 1 0) (V:an fr 209= .i .i64 (U:Int)) (hi:an fr 210= .i .i64 0) (Z:a6 lh 2=k2) (o3:a6 lh 3=k3) (mr:a6 lh 35=wc) (W:a6 lh 37=⟨1,.cells (ml zT aT fT c D a8 a9 E hZ hU (mQ H I J K C N O (.b X4))) 0 true⟩):
  kV 232 oX fr lh sh (.ext 12)∧
  (a6 (kH pE 232 oX fr lh sh) 2=k2∧a6 (kH pE 232 oX fr lh sh) 3=k3∧a6 (kH pE 232 oX fr lh sh) 35=wc∧ ∃(R:List gR) (F:Bool),kb pE 232 oX fr lh sh=lC D m kn R∧yW R (nR H I J K C N O l1 l2 l3 e1 e2 e3 er)∧a6 (kH pE 232 oX fr lh sh) 37=⟨1,.cells (ml zT aT fT c D a8 a9 E hZ hU (mQ H I J K C N O (.b F))) 0 true⟩):=by
 refine ib (P:=fun iq il iw=>a6 il 2=k2∧a6 il 3=k3∧a6 il 35=wc∧ ∃(R:List gR) (F:Bool),iw=lC D m kn R∧yW R (nR H I J K C N O l1 l2 l3 e1 e2 e3 er)∧a6 il 37=⟨1,.cells (ml zT aT fT c D a8 a9 E hZ hU (mQ H I J K C N O (.b F))) 0 true⟩)
  (ij (fun k st=> ∃(fr:Fr) (Y:hJ gR) (R:List gR) (F:Bool),st=⟨fr,Y,lC D m kn R⟩∧yW R (nR H I J K C N O l1 l2 l3 e1 e2 e3 er)∧an fr 8= .ptr .L 37 1 0∧an fr 209= .i .i64 (U:Int)∧an fr 210= .i .i64 (k:Int)∧a6 Y 2=k2∧a6 Y 3=k3∧a6 Y 35=wc∧a6 Y 37=⟨1,.cells (ml zT aT fT c D a8 a9 E hZ hU (mQ H I J K C N O (.b F))) 0 true⟩) _ U ?_ ?_ 0 _ (Nat.zero_le _) ⟨fr,lh,R0,X4,by rw[kN],Jl,X,V,hi,Z,o3,mr,W⟩)
 ·rintro k _ hk ⟨fr,Y,R,F,rfl,rb,X,V,hi,Z,o3,mr,W⟩
  left
  have iu:(k:Int)<U:=by omega
  have hw:=iG (k:=k) (by omega)
  have FN: ∃i g,C= .isl .S (i+7) g 0 U 3:=by
   rcases hn2 with⟨_,h⟩|h
   ·omega
   ·exact h
  obtain⟨i0,g0,FN⟩:=FN
  rcases rb (3,C,e2) (by simp[nR])with⟨mG,_⟩|⟨i,g,n,cs,wm,hv,hE,qI,hn,hB,hfz⟩
  ·simp only[FN]at mG;cases mG
  simp only[FN]at hv
  injection hv with _ q1 q2 _ q3 _
  have q1:i0=i:=by omega
  subst q1 q2 q3
  obtain⟨f,b,cb,r,hdr,hb,L9,axo⟩:=hfz.at3 hn hk
  have hus:=agt (p:=1) f b cb r hb L9 (by omega)
  have hcz:=hfz.froz
  have hz: ∀lh,fzV lh (lC D m kn R) false (.ptr .S (i0+7) g0 (k*3))=some (.vp (.i .i64 f.op:: .i .i64 f.num::b::r),[(.S,i0+7,⟨g0,.cells cs cs.length false⟩)]):=fun lh=>by
   rw[KY (by rw[G1];exact hE) hcz,hdr]
  have hzL: ∀lh,HG lh (lC D m kn R) false [.ptr .S (i0+7) g0 (k*3),.i .i64 1]=some ([.vp (.i .i64 f.op:: .i .i64 f.num::b::r),.i .i64 1],[(.S,i0+7,⟨g0,.cells cs cs.length false⟩)]):=fun lh=>by
   rw[tO,tO,H5,hz lh,wK (by rfl)];rfl
  have nH: ∀x,scalar (.b x)=true:=fun _=>rfl
  unfold ml iS mQ at W ⊢
  simp only[List.cons_append,List.nil_append,FN]at W ⊢
  cases F with
  |true=>
   simp only[qA,seval,oX,X,V,hi,W,iu,hw]
   refine⟨_,rfl,_,_,R,true,rfl,(by rw[←FN];exact rb), ?_, ?_, ?_, ?_, ?_, ?_, ?_⟩
   all_goals (simp only[qA,seval,X,V,Z,o3,mr])
  |false=>
   simp only[qA,seval,kR,oX,X,V,hi,W,iu,hw,hzL,hus,nH,aoL,hk]
   refine⟨_,rfl,_,_,R,f.us 1,rfl,(by rw[←FN];exact rb), ?_, ?_, ?_, ?_, ?_, ?_, ?_⟩
   all_goals (simp only[qA,seval,X,V,Z,o3,mr])
 ·rintro _ ⟨fr,Y,R,F,rfl,rb,X,V,hi,Z,o3,mr,W⟩
  simp only[qA,seval,oX,V,hi,Int.lt_irrefl]
  exact⟨_,_,jB,rfl,rfl,Z,o3,mr,R,F,rfl,rb,W⟩
theorem axs{fr:Fr}{lh:hJ gR}{sh:List gR}{D:Option (Out×St)}(l:List Zo)(H:(l.map Zo.nm).Nodup)(a:T)(I:List T)(X:g8 a l.length I)(Y:ic C0 l I)(F:l.length≤100)(J K KR C:gR)(Z:DC pE 232 (.loop pa) ⟨fr,lh,sh⟩=D)
  (h9:an fr 9= .mp .L 38 1) (N:an fr 40=a) (O:an fr 41= .i .i64 (l.length:Int)) (U:an fr 42= .i .i64 0) (o2:a6 lh 2=J) (o3:a6 lh 3=K) (mr:a6 lh 35=KR) (jS:a6 lh 37=C) (KS:a6 lh 38=⟨1,.map [] [] false⟩):
  ∃(V:Fr) (E:hJ gR) (W:List gR),D=some (.ext 0,⟨V,E,W⟩)∧(a6 E 2=J∧a6 E 3=K∧a6 E 35=KR∧a6 E 37=C∧(∃m,a6 E 38=⟨1,.map (m.map fun p=>sK p.1) (m.map fun p=>T.agg p.2) false⟩∧Nq l m∧m.map Prod.fst=l.map Zo.nm)∧W=sh)∧ ∀s,(kJ (.loop pa)).contains s=false→an V s=an fr s:=by
 obtain⟨e,r⟩:=nwz l H a I X Y F J K KR C fr lh sh h9 N O U o2 o3 mr jS KS
 exact⟨_,_,_,Z.symm.trans e,r,fun s hs=>lW e s hs⟩
theorem axt{fr:Fr}{lh:hJ gR}{sh:List gR}{D:Option (Out×St)}(l:List Ap)(I:(l.map Ap.cd).Nodup)(a:T)(J:List T)(ha:g8 a l.length J)(hc:ic L8 l J)(E:l.length≤100)(F:List Zo)(m:List (List Nat×List T))(K:Nq F m∧m.map Prod.fst=F.map Zo.nm)(N: ∀u∈l,u.zn∈F.map Zo.nm)(O U V:T)(c:Ct)(W X Y C Z hU:T)(vs:List T)(c2 c3:gR)(hD:DC pE 232 (.loop ql) ⟨fr,lh,sh⟩=D)
  (h8:an fr 8= .ptr .L 37 1 0) (h9:an fr 9= .mp .L 38 1) (Jj:an fr 52=a) (Ci:an fr 53= .i .i64 (l.length:Int)) (CE:an fr 54= .i .i64 0) (o2:a6 lh 2=c2) (o3:a6 lh 3=c3) (mr:a6 lh 35=⟨1,.map [] [] false⟩) (jS:a6 lh 37=⟨1,.cells (ml O U V c W X Y C Z hU vs) 0 true⟩) (KS:a6 lh 38=⟨1,.map (m.map fun p=>sK p.1) (m.map fun p=>T.agg p.2) false⟩):
  ∃(iq:Fr) (H:hJ gR) (iw:List gR),D=some (.ext 2,⟨iq,H,iw⟩)∧(a6 H 2=c2∧a6 H 3=c3∧a6 H 37=⟨1,.cells (ml O U V c W X Y C Z hU vs) 0 true⟩∧(∃q,a6 H 35=⟨1,.map (q.map fun p=>sK p.1) (q.map fun p=>T.agg p.2) false⟩∧Sv F l q∧q.map Prod.fst=l.map Ap.cd)∧iw=sh)∧ ∀s,(kJ (.loop ql)).contains s=false→an iq s=an fr s:=by
 obtain⟨e,r⟩:=nwa l I a J ha hc E F m K N O U V c W X Y C Z hU vs c2 c3 fr lh sh h8 h9 Jj Ci CE o2 o3 mr jS KS
 exact⟨_,_,_,hD.symm.trans e,r,fun s hs=>lW e s hs⟩
theorem axu{fr:Fr}{lh:hJ gR}{sh:List gR}{D:Option (Out×St)}(c:Ct)(E F:T)(J K:List T)(i7:g8 E c.cs.length J)(j7:kD c.cs J)(i8:g8 F c.ru.length K)(j8:ic Tv c.ru K)(H:c.ru.length≤40)(rZ: ∀u∈c.ru,KT c.cs u.sc u.x)(N O U V C W hU X:T)(Y Z KR:gR)(Eu:List (Nat×Int))(BF:oR c.cs Eu)(hD:DC pE 232 (.loop mR) ⟨fr,lh,sh⟩=D)(kN:sh=lC E (jh c.cs c.cs.length) Eu [])
  (h8:an fr 8= .ptr .L 37 1 0) (jq:an fr 14= .ptr .S 2 1 0) (KU:an fr 73=F) (Jk:an fr 74= .i .i64 (c.ru.length:Int)) (Tw:an fr 75= .i .i64 0) (o2:a6 lh 2=Y) (o3:a6 lh 3=Z) (mr:a6 lh 35=KR) (jS:a6 lh 37=⟨1,.cells (ml N O U c E F V C W hU (mQ .nilsl .nilsl .nilsl .nilsl .nilsl .nilsl .nilsl X)) 0 true⟩):
  ∃(iq:Fr) (I:hJ gR) (iw:List gR),D=some (.ext 4,⟨iq,I,iw⟩)∧(a6 I 2=Y∧a6 I 3=Z∧a6 I 35=KR∧ ∃(R:List gR) (kn:List (Nat×Int)) (r1 r2 r3:T),iw=lC E (jh c.cs c.cs.length) kn R∧oR c.cs kn∧lD R 40 (nR r1 r2 r3 .nilsl .nilsl .nilsl .nilsl (AG c 1 c.ru.length) (AG c 2 c.ru.length) (AG c 3 c.ru.length) [] [] [] [])∧a6 I 37=⟨1,.cells (ml N O U c E F V C W hU (mQ r1 r2 r3 .nilsl .nilsl .nilsl .nilsl X)) 0 true⟩)∧ ∀s,(kJ (.loop mR)).contains s=false→an iq s=an fr s:=by
 obtain⟨e,r⟩:=nwr c E F J K i7 j7 i8 j8 H rZ N O U V C W hU X Y Z KR Eu BF fr lh sh kN h8 jq KU Jk Tw o2 o3 mr jS
 exact⟨_,_,_,hD.symm.trans e,r,fun s hs=>lW e s hs⟩
theorem axv{fr:Fr}{lh:hJ gR}{sh:List gR}{D:Option (Out×St)}(c:Ct)(E F:T)(O U:List T)(i7:g8 E c.cs.length O)(j7:kD c.cs O)(i9:g8 F c.co.length U)(j9:ic Z3 c.co U)(H:c.co.length≤40)(rZ: ∀u∈c.co,KT c.cs u.sc u.x)(V W X Y C Z hU nb I J K:T)(k2 k3 wc:gR)(Eu:List (Nat×Int))(BF:oR c.cs Eu)(R0:List gR)(l1 l2 l3:RL)(Jl:lD R0 40 (nR I J K .nilsl .nilsl .nilsl .nilsl l1 l2 l3 [] [] [] []))(hD:DC pE 232 (.loop qk) ⟨fr,lh,sh⟩=D)(kN:sh=lC E (jh c.cs c.cs.length) Eu R0)
  (h8:an fr 8= .ptr .L 37 1 0) (jq:an fr 14= .ptr .S 2 1 0) (Nr:an fr 105=F) (KV:an fr 106= .i .i64 (c.co.length:Int)) (KW:an fr 107= .i .i64 0) (o2:a6 lh 2=k2) (o3:a6 lh 3=k3) (mr:a6 lh 35=wc) (jS:a6 lh 37=⟨1,.cells (ml V W X c E Y F C Z hU (mQ I J K .nilsl .nilsl .nilsl .nilsl nb)) 0 true⟩):
  ∃(iq:Fr) (N:hJ gR) (iw:List gR),D=some (.ext 6,⟨iq,N,iw⟩)∧(a6 N 2=k2∧a6 N 3=k3∧a6 N 35=wc∧ ∃(R:List gR) (kn:List (Nat×Int)) (c1 c2 c3:T),iw=lC E (jh c.cs c.cs.length) kn R∧oR c.cs kn∧lD R 80 (nR I J K c1 c2 c3 .nilsl l1 l2 l3 (yV c 1 c.co.length) (yV c 2 c.co.length) (yV c 3 c.co.length) [])∧a6 N 37=⟨1,.cells (ml V W X c E Y F C Z hU (mQ I J K c1 c2 c3 .nilsl nb)) 0 true⟩)∧ ∀s,(kJ (.loop qk)).contains s=false→an iq s=an fr s:=by
 obtain⟨e,r⟩:=nwc c E F O U i7 j7 i9 j9 H rZ V W X Y C Z hU nb I J K k2 k3 wc Eu BF R0 l1 l2 l3 Jl fr lh sh kN h8 jq Nr KV KW o2 o3 mr jS
 exact⟨_,_,_,hD.symm.trans e,r,fun s hs=>lW e s hs⟩
theorem axw{fr:Fr}{lh:hJ gR}{sh:List gR}{D:Option (Out×St)}(c:Ct)(E C:T)(V W:List T)(i7:g8 E c.cs.length V)(j7:kD c.cs V)(X:g8 C c.cr.length W)(vw:jN c.cr W)(F:c.cr.length≤40)(rZ: ∀u∈c.cr,KT c.cs 1 u)(Y Z fT a8 a9 hZ hU nb H I J K N O:T)(k2 k3 wc:gR)(Eu:List (Nat×Int))(BF:oR c.cs Eu)(R0:List gR)(l1 l2 l3 q1 q2 q3:RL)(Jl:lD R0 80 (nR H I J K N O .nilsl l1 l2 l3 q1 q2 q3 []))(hD:DC pE 232 (.loop oZ) ⟨fr,lh,sh⟩=D)(kN:sh=lC E (jh c.cs c.cs.length) Eu R0)
  (h8:an fr 8= .ptr .L 37 1 0) (jq:an fr 14= .ptr .S 2 1 0) (Iw:an fr 156=C) (FM:an fr 157= .i .i64 (c.cr.length:Int)) (KX:an fr 158= .i .i64 0) (o2:a6 lh 2=k2) (o3:a6 lh 3=k3) (mr:a6 lh 35=wc) (jS:a6 lh 37=⟨1,.cells (ml Y Z fT c E a8 a9 C hZ hU (mQ H I J K N O .nilsl nb)) 0 true⟩):
  ∃(iq:Fr) (U:hJ gR) (iw:List gR),D=some (.ext 8,⟨iq,U,iw⟩)∧(a6 U 2=k2∧a6 U 3=k3∧a6 U 35=wc∧ ∃(R:List gR) (kn:List (Nat×Int)) (cr:T),iw=lC E (jh c.cs c.cs.length) kn R∧oR c.cs kn∧lD R 120 (nR H I J K N O cr l1 l2 l3 q1 q2 q3 (Sw c c.cr.length))∧a6 U 37=⟨1,.cells (ml Y Z fT c E a8 a9 C hZ hU (mQ H I J K N O cr nb)) 0 true⟩)∧ ∀s,(kJ (.loop oZ)).contains s=false→an iq s=an fr s:=by
 obtain⟨e,r⟩:=nwd c E C V W i7 j7 X vw F rZ Y Z fT a8 a9 hZ hU nb H I J K N O k2 k3 wc Eu BF R0 l1 l2 l3 q1 q2 q3 Jl fr lh sh kN h8 jq Iw FM KX o2 o3 mr jS
 exact⟨_,_,_,hD.symm.trans e,r,fun s hs=>lW e s hs⟩
theorem ar3{fr:Fr}{lh:hJ gR}{sh:List gR}{D:Option (Out×St)}(c:Ct)(F W X C Y hU Z aT fT H E I J K N O:T)(m:List (List Nat×Nat))(kn:List (Nat×Int))(X4:Bool)(R0:List gR)(l1 l2 l3 e1 e2 e3 er:RL)(Jl:yW R0 (nR H E I J K N O l1 l2 l3 e1 e2 e3 er))(U:Nat)(hn2:(E= .nilsl∧U=0)∨ ∃i g,E= .isl .S (i+7) g 0 U 4)(hn1:U≤1000)(k2 k3 wc:gR)(hD:DC pE 232 (.loop oY) ⟨fr,lh,sh⟩=D)(kN:sh=lC F m kn R0)
  (h8:an fr 8= .ptr .L 37 1 0) (hl:an fr 181= .i .i64 (U:Int)) (hi:an fr 182= .i .i64 0) (o2:a6 lh 2=k2) (o3:a6 lh 3=k3) (mr:a6 lh 35=wc) (jS:a6 lh 37=⟨1,.cells (ml Z aT fT c F W X C Y hU (mQ H E I J K N O (.b X4))) 0 true⟩):
  ∃(iq:Fr) (V:hJ gR) (iw:List gR),D=some (.ext 10,⟨iq,V,iw⟩)∧(a6 V 2=k2∧a6 V 3=k3∧a6 V 35=wc∧ ∃(R:List gR) (nb:Bool),iw=lC F m kn R∧yW R (nR H E I J K N O l1 l2 l3 e1 e2 e3 er)∧a6 V 37=⟨1,.cells (ml Z aT fT c F W X C Y hU (mQ H E I J K N O (.b nb))) 0 true⟩)∧ ∀s,(kJ (.loop oY)).contains s=false→an iq s=an fr s:=by
 obtain⟨e,r⟩:=axn c F W X C Y hU Z aT fT H E I J K N O m kn X4 R0 l1 l2 l3 e1 e2 e3 er Jl U hn2 hn1 k2 k3 wc fr lh sh kN h8 hl hi o2 o3 mr jS
 exact⟨_,_,_,hD.symm.trans e,r,fun s hs=>lW e s hs⟩
theorem ar4{fr:Fr}{lh:hJ gR}{sh:List gR}{D:Option (Out×St)}(c:Ct)(F W X C Y hU Z aT fT H I J K E N O:T)(m:List (List Nat×Nat))(kn:List (Nat×Int))(X4:Bool)(R0:List gR)(l1 l2 l3 e1 e2 e3 er:RL)(Jl:yW R0 (nR H I J K E N O l1 l2 l3 e1 e2 e3 er))(U:Nat)(hn2:(E= .nilsl∧U=0)∨ ∃i g,E= .isl .S (i+7) g 0 U 3)(hn1:U≤1000)(k2 k3 wc:gR)(hD:DC pE 232 (.loop oX) ⟨fr,lh,sh⟩=D)(kN:sh=lC F m kn R0)
  (h8:an fr 8= .ptr .L 37 1 0) (hl:an fr 209= .i .i64 (U:Int)) (hi:an fr 210= .i .i64 0) (o2:a6 lh 2=k2) (o3:a6 lh 3=k3) (mr:a6 lh 35=wc) (jS:a6 lh 37=⟨1,.cells (ml Z aT fT c F W X C Y hU (mQ H I J K E N O (.b X4))) 0 true⟩):
  ∃(iq:Fr) (V:hJ gR) (iw:List gR),D=some (.ext 12,⟨iq,V,iw⟩)∧(a6 V 2=k2∧a6 V 3=k3∧a6 V 35=wc∧ ∃(R:List gR) (nb:Bool),iw=lC F m kn R∧yW R (nR H I J K E N O l1 l2 l3 e1 e2 e3 er)∧a6 V 37=⟨1,.cells (ml Z aT fT c F W X C Y hU (mQ H I J K E N O (.b nb))) 0 true⟩)∧ ∀s,(kJ (.loop oX)).contains s=false→an iq s=an fr s:=by
 obtain⟨e,r⟩:=axr c F W X C Y hU Z aT fT H I J K E N O m kn X4 R0 l1 l2 l3 e1 e2 e3 er Jl U hn2 hn1 k2 k3 wc fr lh sh kN h8 hl hi o2 o3 mr jS
 exact⟨_,_,_,hD.symm.trans e,r,fun s hs=>lW e s hs⟩
theorem X5{R:List gR}{r:List (Nat×T×RL)}{sz:Nat}{v:T}(l:RL)(h:yW R r)(C:(sz,v,l)∈r): ∃n:Nat,((v= .nilsl∧n=0)∨ ∃i g,v= .isl .S (i+7) g 0 n sz)∧n≤1000∧lenI v=some (.i .i64 (n:Int)):=by
 rcases h _ C with⟨h,_⟩|⟨i,g,n,cs,wm,h1,h2,h3,h4,h5,h6⟩
 ·simp only at h;subst h;exact⟨0,.inl ⟨rfl,rfl⟩,by omega,rfl⟩
 ·simp only at h1;subst h1;exact⟨n,.inr ⟨i,g,rfl⟩,h5,rfl⟩
theorem X6{m:Nat}{lh:hJ gR}{sh:List gR}{k g wm:Nat}{cs:List T}{bx:Bool}(h:a6 lh k=⟨g,.cells cs wm bx⟩):fzW (m+1) lh sh false (.ptr .L k g 0)=(FG m lh sh false cs).map fun q=>(.vp q.1,q.2++ [(.L,k,⟨g,.cells cs cs.length bx⟩)]):=by
 have i:(St.mk .nil lh sh).get .L k=a6 lh k:=rfl
 unfold fzW FG
 rw[fz]
 simp only[Bool.false_and,Bool.false_eq_true,if_false,Q.run,i,h,if_true,List.drop_zero]
 rw[js]
 cases (iZ (fz false (m+1)) cs).run (St.mk .nil lh sh).get sh.length <;> rfl
def Mb(sz:Nat)(l:RL)(v:T):Prop:= ∃n cs,g8 v n cs∧n*sz=cs.length∧AZ sz l cs
theorem yX{R:List gR}{C:List (Nat×T×RL)}{sz:Nat}{v:T}(l:RL)(h:yW R C)(E:(sz,v,l)∈C)(D:T)(m:List (List Nat×Nat))(kn:List (Nat×Int)): ∃r us,froz1 r=true∧(∀lh n,fzW n lh (lC D m kn R) false v=some (r,us))∧Mb sz l r:=by
 rcases h _ E with⟨h,hl⟩|⟨i,g,n,cs,wm,h1,h2,h3,h4,h5,h6⟩
 ·simp only at h hl;subst h hl;exact⟨.nilsl,[],rfl,fun lh n=>Bv rfl,0,[],.inl ⟨rfl,rfl,rfl⟩,by simp,AZ.nil sz⟩
 ·simp only at h1 h4 h6;subst h1
  refine⟨.sl ((cs.drop 0).take (n*sz)) n false,[(.S,i+7,⟨g,.cells cs cs.length false⟩)],rfl,fun lh k=> ?_,n,cs,.inr ⟨false,by rw[h4];simp⟩,h4,h6⟩
  have F:(St.mk .nil lh (lC D m kn R)).get .S (i+7)=jr R i:=G1 _ _ _ _ _
  unfold fzW
  rw[fz]
  simp only[Bool.false_and,Bool.false_eq_true,if_false,Q.run]
  rw[F,h2]
  simp only[if_true,Nat.zero_add,h4,Nat.le_refl,Q.run]
def Ix(t:Tt)(c:Ct)(I:List T):Prop:= ∃(q:List (List Nat×List T)) (i r C D E F H:T) (J:Bool),I= [.vm (q.map fun p=>sK p.1) (q.map fun p=>T.agg p.2),.nilsl,i,r,C,.nilsl,D,E,F,H,.b J]∧Sv t.zo t.ap q∧q.map Prod.fst=t.ap.map Ap.cd∧
 Mb 4 (AG c 1 c.ru.length) i∧Mb 4 (AG c 2 c.ru.length) r∧Mb 4 (AG c 3 c.ru.length) C∧Mb 3 (yV c 1 c.co.length) D∧Mb 3 (yV c 2 c.co.length) E∧Mb 3 (yV c 3 c.co.length) F∧Mb 3 (Sw c c.cr.length) H
theorem ar5(t:Tt)(c:Ct)(H I K E N O C U hU:T)(hT:vq t H I K)(hC:xG c E N O C U hU)(hS:AK c)(ht:tq t=0)(hc:my c=0)(hnz:(t.zo.map Zo.nm).Nodup)(hlz:t.zo.length≤100)(hna:(t.ap.map Ap.cd).Nodup)(hla:t.ap.length≤100)(hzn: ∀u∈t.ap,u.zn∈t.zo.map Zo.nm)
  (hru: ∀u∈c.ru,KT c.cs u.sc u.x) (lru:c.ru.length≤40) (D0: ∀u∈c.co,KT c.cs u.sc u.x) (lco:c.co.length≤40) (hcr: ∀u∈c.cr,KT c.cs 1 u) (lcr:c.cr.length≤40) (lcs:c.cs.length≤32):
  ∃s vs,gS pE 42 [.agg [H,I,K],.agg (iS c E N O C U hU)] []=some (.tup [.vp (H::I::K::(iS c E N O C U hU++vs)),.i .i64 0],s)∧vs.all froz1=true∧vs.length=11∧Ix t c vs:=by
 have ZW:=Nm t H I K hT
 obtain⟨s1,hpc⟩:=PD c E N O C U hU hC hS
 rw[ht]at ZW
 rw[hc]at hpc
 obtain⟨⟨zc,z1,z2⟩,⟨ac,b1,b2⟩,⟨fc,f1,f2⟩⟩:=hT
 obtain⟨⟨c7,i7,j7⟩,⟨c8,i8,j8⟩,⟨c9,i9,j9⟩,⟨vv,Z,vw⟩,⟨yg,i11,xH⟩,⟨yY,i12,yt⟩⟩:=hC
 have hfT:=f1.froz1
 have hnc:=ajl c.cs E c7 i7 j7 (by unfold oQ;omega)
 rw[show Iy E (jh c.cs c.cs.length) [] 4=lC E (jh c.cs c.cs.length) [] []by unfold lC;rw[List.append_nil]]at hnc
 have hk7:kept E=true:=by rcases i7 with⟨rfl,_,_⟩|⟨ex,rfl⟩ <;> rfl
 rw[gX aaq (by simp[c42])]
 unfold iS at hpc ⊢
 simp only[qA,seval,c42,ZW,hpc,ahD,aoI,z1.froz1,b1.froz1,f1.froz1,i7.froz1,i8.froz1,i9.froz1,Z.froz1,i11.froz1,i12.froz1,z1.lenI]
 generalize J:DC pE 232 (.loop pa) _=D
 obtain⟨f1,l1,s2,rfl,⟨X,V,Y,W,⟨m,KS,hm⟩,rfl⟩,F⟩:=axs t.zo hnz H zc z1 z2 hlz ⟨1,.cells [H,I,K] 0 true⟩ ⟨1,.cells [.i .i64 c.rp,.i .i64 c.rl,.i .i64 c.cn,.i .i64 c.st,.i .i64 c.ly,.i .i64 c.nf,.i .i64 c.nt,E,N,O,C,U,hU,.i .i64 c.gu] 0 true⟩ ⟨1,.map [] [] false⟩ ⟨1,.cells (ml H I K c E N O C U hU (mQ .nilsl .nilsl .nilsl .nilsl .nilsl .nilsl .nilsl (.b false))) 0 true⟩ J (by simp only[qA,seval]) (by simp only[qA,seval]) (by simp only[qA,seval]) (by simp only[qA,seval]) (by simp only[qA,seval]) (by simp only[qA,seval]) (by simp only[qA,seval]) (by unfold ml iS mQ;simp only[List.cons_append,List.nil_append];simp only[qA,seval]) (by simp only[qA,seval])
 have ar7:an f1 2= .ptr .L 2 1 0:=by rw[F 2 (by decide)];simp only[qA,seval]
 have axx:an f1 3= .ptr .L 3 1 0:=by rw[F 3 (by decide)];simp only[qA,seval]
 have ar8:an f1 8= .ptr .L 37 1 0:=by rw[F 8 (by decide)];simp only[qA,seval]
 have axy:an f1 9= .mp .L 38 1:=by rw[F 9 (by decide)];simp only[qA,seval]
 clear F
 simp only[qA,seval,ar7,X,b1.lenI]
 have r:=W
 unfold ml iS mQ at r
 simp only[List.cons_append,List.nil_append]at r
 clear J
 generalize J:DC pE 232 (.loop ql) _=D
 obtain⟨f2,l1,s2,rfl,⟨X,V,W,⟨q,Y,hq⟩,rfl⟩,F⟩:=axt t.ap hna I ac b1 b2 hla t.zo m hm hzn H I K c E N O C U hU (mQ .nilsl .nilsl .nilsl .nilsl .nilsl .nilsl .nilsl (.b false)) ⟨1,.cells [H,I,K] 0 true⟩ ⟨1,.cells [.i .i64 c.rp,.i .i64 c.rl,.i .i64 c.cn,.i .i64 c.st,.i .i64 c.ly,.i .i64 c.nf,.i .i64 c.nt,E,N,O,C,U,hU,.i .i64 c.gu] 0 true⟩ J (by simp only[qA,seval,ar8]) (by simp only[qA,seval,axy]) (by simp only[qA,seval]) (by simp only[qA,seval]) (by simp only[qA,seval]) (by simp only[X]) (by simp only[V]) (by simp only[Y]) (by unfold ml iS mQ;simp only[List.cons_append,List.nil_append];simp only[r]) (by simp only[KS])
 have aB6:an f2 2= .ptr .L 2 1 0:=by rw[F 2 (by decide)];simp(maxDischargeDepth:=6) only[qA,seval,ar7]
 have ar9:an f2 3= .ptr .L 3 1 0:=by rw[F 3 (by decide)];simp only[qA,seval,axx]
 have asa:an f2 8= .ptr .L 37 1 0:=by rw[F 8 (by decide)];simp only[qA,seval,ar8]
 clear F r
 simp only[qA,seval,ar9,V,hk7,hnc,av3,i8.lenI]
 have BF:oR c.cs []:=fun i v h=>by simp[iF]at h
 have r:=W
 unfold ml iS mQ at r
 simp only[List.cons_append,List.nil_append]at r
 clear J
 generalize J:DC pE 232 (.loop mR) _=D
 obtain⟨f3,l1,s2,rfl,⟨X,V,Y,R,kn,r1,r2,r3,rfl,oH,rb,W⟩,F⟩:=axu c E N c7 c8 i7 j7 i8 j8 lru hru H I K O C U hU (.b false) ⟨1,.cells [H,I,K] 0 true⟩ ⟨1,.cells [.i .i64 c.rp,.i .i64 c.rl,.i .i64 c.cn,.i .i64 c.st,.i .i64 c.ly,.i .i64 c.nf,.i .i64 c.nt,E,N,O,C,U,hU,.i .i64 c.gu] 0 true⟩ ⟨1,.map (q.map fun p=>sK p.1) (q.map fun p=>T.agg p.2) false⟩ [] BF J rfl (by simp only[qA,seval,asa]) (by simp only[qA,seval]) (by simp only[qA,seval]) (by simp only[qA,seval]) (by simp only[qA,seval]) (by simp only[X]) (by simp only[V]) (by simp only[Y]) (by unfold ml iS mQ;simp only[List.cons_append,List.nil_append];simp only[r])
 have asb:an f3 3= .ptr .L 3 1 0:=by rw[F 3 (by decide)];simp only[qA,seval,ar9]
 have asc:an f3 8= .ptr .L 37 1 0:=by rw[F 8 (by decide)];simp only[qA,seval,asa]
 have agy:an f3 14= .ptr .S 2 1 0:=by rw[F 14 (by decide)];simp only[qA,seval]
 clear F r
 simp only[qA,seval,asb,V,i9.lenI]
 have r:=W
 unfold ml iS mQ at r
 simp only[List.cons_append,List.nil_append]at r
 clear J
 generalize J:DC pE 232 (.loop qk) _=D
 obtain⟨f4,l1,s2,rfl,⟨X,V,Y,R1,KZ,c1,c2,c3,rfl,oH,rb,W⟩,F⟩:=axv c E O c7 c9 i7 j7 i9 j9 lco D0 H I K N C U hU (.b false) r1 r2 r3 ⟨1,.cells [H,I,K] 0 true⟩ ⟨1,.cells [.i .i64 c.rp,.i .i64 c.rl,.i .i64 c.cn,.i .i64 c.st,.i .i64 c.ly,.i .i64 c.nf,.i .i64 c.nt,E,N,O,C,U,hU,.i .i64 c.gu] 0 true⟩ ⟨1,.map (q.map fun p=>sK p.1) (q.map fun p=>T.agg p.2) false⟩ kn oH R _ _ _ rb J rfl (by simp only[qA,seval,asc]) (by simp only[qA,seval,agy]) (by simp only[qA,seval]) (by simp only[qA,seval]) (by simp only[qA,seval]) (by simp only[X]) (by simp only[V]) (by simp only[Y]) (by unfold ml iS mQ;simp only[List.cons_append,List.nil_append];simp only[r])
 have axz:an f4 3= .ptr .L 3 1 0:=by rw[F 3 (by decide)];simp only[qA,seval,asb]
 have asd:an f4 8= .ptr .L 37 1 0:=by rw[F 8 (by decide)];simp only[qA,seval,asc]
 have ase:an f4 14= .ptr .S 2 1 0:=by rw[F 14 (by decide)];simp only[qA,seval,agy]
 clear F r
 simp only[qA,seval,axz,V,Z.lenI]
 have r:=W
 unfold ml iS mQ at r
 simp only[List.cons_append,List.nil_append]at r
 clear J
 generalize J:DC pE 232 (.loop oZ) _=D
 obtain⟨f5,l1,s2,rfl,⟨X,V,Y,R2,PE,cr,rfl,oH,rb,W⟩,F⟩:=axw c E C c7 vv i7 j7 Z vw lcr hcr H I K N O U hU (.b false) r1 r2 r3 c1 c2 c3 ⟨1,.cells [H,I,K] 0 true⟩ ⟨1,.cells [.i .i64 c.rp,.i .i64 c.rl,.i .i64 c.cn,.i .i64 c.st,.i .i64 c.ly,.i .i64 c.nf,.i .i64 c.nt,E,N,O,C,U,hU,.i .i64 c.gu] 0 true⟩ ⟨1,.map (q.map fun p=>sK p.1) (q.map fun p=>T.agg p.2) false⟩ KZ oH R1 _ _ _ _ _ _ rb J rfl (by simp only[qA,seval,asd]) (by simp only[qA,seval,ase]) (by simp only[qA,seval]) (by simp only[qA,seval]) (by simp only[qA,seval]) (by simp only[X]) (by simp only[V]) (by simp only[Y]) (by unfold ml iS mQ;simp only[List.cons_append,List.nil_append];simp only[r])
 have ajm:an f5 8= .ptr .L 37 1 0:=by rw[F 8 (by decide)];simp only[qA,seval,asd]
 clear F r
 have CX:=rb.toW (by omega)
 obtain⟨n2,hn2,axA,Tn⟩:=X5 (sz:=4) (v:=r2) (AG c 2 c.ru.length) CX (by simp[nR])
 obtain⟨n1,hn1,axB,L1⟩:=X5 (sz:=3) (v:=c2) (yV c 2 c.co.length) CX (by simp[nR])
 have r:=W
 unfold ml iS mQ at r
 simp only[List.cons_append,List.nil_append]at r
 simp only[qA,seval,kR,ajm,r,Tn]
 have r:=W
 unfold ml iS mQ at r
 simp only[List.cons_append,List.nil_append]at r
 clear J
 generalize J:DC pE 232 (.loop oY) _=D
 obtain⟨f6,l1,s2,rfl,⟨X,V,Y,R3,nb,rfl,hw3,W⟩,F⟩:=ar3 c E N O C U hU H I K r1 r2 r3 c1 c2 c3 cr _ PE false R2 _ _ _ _ _ _ _ CX n2 hn2 axA ⟨1,.cells [H,I,K] 0 true⟩ ⟨1,.cells [.i .i64 c.rp,.i .i64 c.rl,.i .i64 c.cn,.i .i64 c.st,.i .i64 c.ly,.i .i64 c.nf,.i .i64 c.nt,E,N,O,C,U,hU,.i .i64 c.gu] 0 true⟩ ⟨1,.map (q.map fun p=>sK p.1) (q.map fun p=>T.agg p.2) false⟩ J rfl (by simp only[qA,seval,ajm]) (by simp only[qA,seval]) (by simp only[qA,seval]) (by simp only[X]) (by simp only[V]) (by simp only[Y]) (by unfold ml iS mQ;simp only[List.cons_append,List.nil_append];simp only[r])
 have ajn:an f6 8= .ptr .L 37 1 0:=by rw[F 8 (by decide)];simp only[qA,seval,ajm]
 clear F r
 have r:=W
 unfold ml iS mQ at r
 simp only[List.cons_append,List.nil_append]at r
 simp only[qA,seval,kR,ajn,r,L1]
 have r:=W
 unfold ml iS mQ at r
 simp only[List.cons_append,List.nil_append]at r
 clear J
 generalize J:DC pE 232 (.loop oX) _=D
 obtain⟨f7,l1,s2,rfl,⟨X,V,Y,R4,nb1,rfl,Z4,W⟩,F⟩:=ar4 c E N O C U hU H I K r1 r2 r3 c1 c2 c3 cr _ PE nb R3 _ _ _ _ _ _ _ hw3 n1 hn1 axB ⟨1,.cells [H,I,K] 0 true⟩ ⟨1,.cells [.i .i64 c.rp,.i .i64 c.rl,.i .i64 c.cn,.i .i64 c.st,.i .i64 c.ly,.i .i64 c.nf,.i .i64 c.nt,E,N,O,C,U,hU,.i .i64 c.gu] 0 true⟩ ⟨1,.map (q.map fun p=>sK p.1) (q.map fun p=>T.agg p.2) false⟩ J rfl (by simp only[qA,seval,ajn]) (by simp only[qA,seval]) (by simp only[qA,seval]) (by simp only[X]) (by simp only[V]) (by simp only[Y]) (by unfold ml iS mQ;simp only[List.cons_append,List.nil_append];simp only[r])
 have axC:an f7 8= .ptr .L 37 1 0:=by rw[F 8 (by decide)];simp only[qA,seval,ajn]
 clear F r
 have r:=W
 unfold ml iS mQ at r
 simp only[List.cons_append,List.nil_append]at r
 simp only[qA,seval,axC]
 obtain⟨x0,u0,y0,w0,z0⟩:=yX (sz:=4) (v:=r1) (AG c 1 c.ru.length) Z4 (by simp[nR]) E (jh c.cs c.cs.length) PE
 obtain⟨x1,u1,y1,w1,z1'⟩:=yX (sz:=4) (v:=r2) (AG c 2 c.ru.length) Z4 (by simp[nR]) E (jh c.cs c.cs.length) PE
 obtain⟨x2,u2,y2,w2,z2'⟩:=yX (sz:=4) (v:=r3) (AG c 3 c.ru.length) Z4 (by simp[nR]) E (jh c.cs c.cs.length) PE
 obtain⟨x3,u3,y3,w3,z3⟩:=yX (sz:=3) (v:=c1) (yV c 1 c.co.length) Z4 (by simp[nR]) E (jh c.cs c.cs.length) PE
 obtain⟨x4,u4,y4,w4,z4⟩:=yX (sz:=3) (v:=c2) (yV c 2 c.co.length) Z4 (by simp[nR]) E (jh c.cs c.cs.length) PE
 obtain⟨x5,u5,y5,w5,z5⟩:=yX (sz:=3) (v:=c3) (yV c 3 c.co.length) Z4 (by simp[nR]) E (jh c.cs c.cs.length) PE
 obtain⟨x6,u6,y6,w6,z6⟩:=yX (sz:=3) (v:=cr) (Sw c c.cr.length) Z4 (by simp[nR]) E (jh c.cs c.cs.length) PE
 rw[X6 r]
 simp only[qA,seval,Y,mpV,z1.froz1,b1.froz1,hfT,i7.froz1,i8.froz1,i9.froz1,Z.froz1,i11.froz1,i12.froz1,w0,w1,w2,w3,w4,w5,w6]
 refine⟨_,_,rfl, ?_, ?_,q,x0,x1,x2,x3,x4,x5,x6,nb1, ?_,hq.1,hq.2,z0,z1',z2',z3,z4,z5,z6⟩
 ·simp only[List.all_cons,List.all_nil,y0,y1,y2,y3,y4,y5,y6,Bool.and_true,Bool.true_and];rfl
 ·rfl
 ·rfl
theorem acM(t:Tt)(c:Ct)(C D E F H I r J hU:T)(K:vq t C D E)(N:xG c F H I r J hU)(O:tq t≠0):
  ∃s,gS pE 42 [.agg [C,D,E],.agg (iS c F H I r J hU)] []=some (.tup [.nilptr,.i .i64 (tq t)],s):=by
 have ZW:=Nm t C D E K
 obtain⟨⟨zc,U,z2⟩,⟨ac,V,b2⟩,⟨fc,W,f2⟩⟩:=K
 obtain⟨⟨c7,i7,j7⟩,⟨c8,i8,j8⟩,⟨c9,i9,j9⟩,⟨vv,X,vw⟩,⟨yg,Y,xH⟩,⟨yY,Z,yt⟩⟩:=N
 rw[gX aaq (by simp[c42])]
 unfold iS
 simp only[qA,seval,c42,ZW,O,ahD,U.froz1,V.froz1,W.froz1]
 exact⟨_,rfl⟩
theorem nzo: ∀(l:List Zo) (seen:List (List Nat)),KH seen l=0→(l.map Zo.nm).Nodup∧ ∀z∈l,z.nm∉seen
 | [],seen,_=>⟨List.nodup_nil,fun z E=>by cases E⟩
 |z::r,seen,h=>by
  rw[KH]at h
  by_cases i:mf z=0
  ·rw[if_neg (by simp[i])]at h
   by_cases C:z.nm∈seen
   ·rw[if_pos C]at h;cases h
   ·rw[if_neg C]at h
    obtain⟨F,D⟩:=nzo r _ h
    refine⟨?_,fun y hy=> ?_⟩
    ·rw[List.map_cons,List.nodup_cons]
     refine⟨fun H=> ?_,F⟩
     obtain⟨y,hy,e⟩:=List.mem_map.1 H
     exact D y hy (by rw[e];simp)
    ·rcases List.mem_cons.1 hy with rfl|hy
     ·exact C
     ·exact fun hs=>D y hy (by simp[hs])
  ·rw[if_pos (by simpa using i)]at h;exact absurd h i
theorem nap(i:List (List Nat)): ∀(l:List Ap) (seen:List (List Nat)),KI i seen l=0→(l.map Ap.cd).Nodup∧ ∀z∈l,z.cd∉seen
 | [],seen,_=>⟨List.nodup_nil,fun z H=>by cases H⟩
 |z::r,seen,h=>by
  rw[KI]at h
  by_cases D:CC z.cd=false
  ·rw[if_pos D]at h;cases h
  ·rw[if_neg D]at h
   by_cases C:z.cd∈seen
   ·rw[if_pos C]at h;cases h
   ·rw[if_neg C]at h
    by_cases E:z.zn∉i
    ·rw[if_pos E]at h;cases h
    ·rw[if_neg E]at h
     obtain⟨I,F⟩:=nap i r _ h
     refine⟨?_,fun y hy=> ?_⟩
     ·rw[List.map_cons,List.nodup_cons]
      refine⟨fun J=> ?_,I⟩
      obtain⟨y,hy,e⟩:=List.mem_map.1 J
      exact F y hy (by rw[e];simp)
     ·rcases List.mem_cons.1 hy with rfl|hy
      ·exact C
      ·exact fun hs=>F y hy (by simp[hs])
theorem nzn(i:List (List Nat)): ∀(l:List Ap) (seen:List (List Nat)),KI i seen l=0→ ∀u∈l,u.zn∈i
 | [],seen,_,u,hu=>by cases hu
 |z::r,seen,h,u,hu=>by
  rw[KI]at h
  by_cases D:CC z.cd=false
  ·rw[if_pos D]at h;cases h
  ·rw[if_neg D]at h
   by_cases E:z.cd∈seen
   ·rw[if_pos E]at h;cases h
   ·rw[if_neg E]at h
    by_cases C:z.zn∉i
    ·rw[if_pos C]at h;cases h
    ·rw[if_neg C]at h
     rcases List.mem_cons.1 hu with rfl|hu
     ·simpa using C
     ·exact nzn i r _ h u hu
theorem nzs: ∀(l:List Zo) (seen:List (List Nat)),KH seen l=0→ ∀z∈l,mf z=0
 | [],seen,_,u,hu=>by cases hu
 |z::r,seen,h,u,hu=>by
  rw[KH]at h
  by_cases i:mf z=0
  ·rw[if_neg (by simp[i])]at h
   by_cases C:z.nm∈seen
   ·rw[if_pos C]at h;cases h
   ·rw[if_neg C]at h
    rcases List.mem_cons.1 hu with rfl|hu
    ·exact i
    ·exact nzs r _ h u hu
  ·rw[if_pos (by simpa using i)]at h;exact absurd h i
theorem nfl(i:List (List Nat)): ∀(l:List Fl) (p:Option Fl),FI i p l=0→ ∀f∈l,Ip i f=0
 | [],p,_,u,hu=>by cases hu
 |z::r,p,h,u,hu=>by
  unfold FI at h
  by_cases C:Ip i z=0
  ·rw[if_neg (by simp[C])]at h
   have D:FI i (some z) r=0:=by
    cases p with
    |none=>simpa using h
    |some q=>
     cases E:(!CD q z)with
     |true=>simp[E]at h
     |false=>simpa[E]using h
   rcases List.mem_cons.1 hu with rfl|hu
   ·exact C
   ·exact nfl i r _ D u hu
  ·rw[if_pos (by simpa using C)]at h;exact absurd h C
theorem AL(t:Tt)(h:tq t=0):(∀z∈t.zo,mf z=0)∧(∀u∈t.ap,u.zn∈t.zo.map Zo.nm)∧(∀f∈t.fl,Ip (t.ap.map Ap.cd) f=0)∧t.fl.length≤200:=by
 unfold tq at h
 split at h
 ·cases h
 split at h
 ·cases h
 split at h
 ·cases h
 split at h
 ·rename_i q;exact absurd h q
 split at h
 ·rename_i q;exact absurd h q
 rename_i a b c d e
 exact⟨nzs t.zo [] (by omega),nzn (t.zo.map Zo.nm) t.ap [] (by omega),nfl _ t.fl none h,by omega⟩
theorem Ns(t:Tt)(h:tq t=0):(t.zo.map Zo.nm).Nodup∧t.zo.length≤100∧(t.ap.map Ap.cd).Nodup∧t.ap.length≤100:=by
 unfold tq at h
 split at h
 ·cases h
 split at h
 ·cases h
 split at h
 ·cases h
 split at h
 ·rename_i q;exact absurd h q
 split at h
 ·rename_i q;exact absurd h q
 rename_i a b c d e
 exact⟨(nzo t.zo [] (by omega)).1,by omega,(nap (t.zo.map Zo.nm) t.ap [] (by omega)).1,by omega⟩
theorem X7: ∀(l:List Ru) (seen:List (Int×List Nat)),Jm seen l=0→ ∀u∈l,um u.sc 1 3=true∧iX u.x=0
 | [],seen,_,u,hu=>by cases hu
 |v::l,seen,h,u,hu=>by
  rw[Jm]at h
  split at h
  ·cases h
  split at h
  ·cases h
  split at h
  ·rename_i q;exact absurd h q
  rename_i a b c
  rcases List.mem_cons.1 hu with rfl|hu
  ·exact⟨by cases i:um u.sc 1 3 with|true=>rfl|false=>exact absurd (.inl i) a,by omega⟩
  ·exact X7 l _ h u hu
theorem X8: ∀(l:List Co),Nt l=0→ ∀u∈l,um u.sc 1 3=true∧iX u.x=0
 | [],_,u,hu=>by cases hu
 |v::l,h,u,hu=>by
  rw[Nt]at h
  split at h
  ·cases h
  split at h
  ·rename_i q;exact absurd h q
  rename_i a c
  rcases List.mem_cons.1 hu with rfl|hu
  ·exact⟨by cases i:um u.sc 1 3 with|true=>rfl|false=>exact absurd i a,by omega⟩
  ·exact X8 l h u hu
theorem X9: ∀(l:List Ex),Nu l=0→ ∀u∈l,iX u=0
 | [],_,u,hu=>by cases hu
 |v::l,h,u,hu=>by
  rw[Nu]at h
  split at h
  ·rename_i q;exact absurd h q
  rename_i c
  rcases List.mem_cons.1 hu with rfl|hu
  ·omega
  ·exact X9 l h u hu
theorem Ya{n:Int}(h:um n 1 3=true):n=1∨n=2∨n=3:=by
 unfold um at h
 simp only[Bool.and_eq_true,decide_eq_true_eq]at h
 omega
theorem Nv{l:Cs}{i:Int}{x:Ex}{w:Int}(C:iX x=0)(h:FO l i x w=0): ∃k,x.ty (clk l (kI l l.length)) i=(k,0):=by
 have r:(sN l i x).2=0:=by
  unfold FO at h
  split at h
  ·cases h
  ·exact h
 unfold sN at r
 rw[if_neg (by simp[C])]at r
 exact⟨(x.ty (clk l (kI l l.length)) i).1,Prod.ext rfl r⟩
theorem Yb(cs:Cs): ∀(l:List Ru),Nw cs l=0→ ∀u∈l,FO cs u.sc u.x 4=0
 | [],_,u,hu=>by cases hu
 |v::l,h,u,hu=>by
  rw[Nw]at h
  split at h
  ·rename_i q;exact absurd h q
  rename_i c
  rcases List.mem_cons.1 hu with rfl|hu
  ·omega
  ·exact Yb cs l h u hu
theorem Yc(cs:Cs): ∀(l:List Co),Nx cs l=0→ ∀u∈l,FO cs u.sc u.x 1=0
 | [],_,u,hu=>by cases hu
 |v::l,h,u,hu=>by
  rw[Nx]at h
  split at h
  ·rename_i q;exact absurd h q
  rename_i c
  rcases List.mem_cons.1 hu with rfl|hu
  ·omega
  ·exact Yc cs l h u hu
theorem Yd(cs:Cs): ∀(l:List Ex),PF cs l=0→ ∀u∈l,FO cs 1 u 2=0
 | [],_,u,hu=>by cases hu
 |v::l,h,u,hu=>by
  rw[PF]at h
  split at h
  ·rename_i q;exact absurd h q
  rename_i c
  rcases List.mem_cons.1 hu with rfl|hu
  ·omega
  ·exact Yd cs l h u hu
theorem sS(c:Ct)(h:my c=0):(∀u∈c.ru,KT c.cs u.sc u.x)∧c.ru.length≤40∧(∀u∈c.co,KT c.cs u.sc u.x)∧c.co.length≤40∧(∀u∈c.cr,KT c.cs 1 u)∧c.cr.length≤40∧c.cs.length≤32:=by
 unfold my at h
 split at h
 ·rename_i q;exact absurd h q
 split at h
 ·rename_i q;exact absurd h q
 split at h
 ·rename_i q;exact absurd h q
 split at h
 ·rename_i q;exact absurd h q
 rename_i g _ r o
 have g:mz c=0:=by omega
 unfold mz at g
 split at g
 ·cases g
 split at g
 ·cases g
 split at g
 ·rename_i q;exact absurd g q
 split at g
 ·rename_i q;exact absurd g q
 split at g
 ·rename_i q;exact absurd g q
 split at g
 ·rename_i q;exact absurd g q
 rename_i _ sz _ C D E
 have sz:sU c=true:=by simpa using sz
 unfold sU at sz
 simp only[Bool.and_eq_true,decide_eq_true_eq]at sz
 refine⟨fun u i=> ?_,sz.2.1,fun u i=> ?_,by omega,fun u i=> ?_,by omega,sz.1⟩
 ·obtain⟨w,v⟩:=X7 c.ru [] (by omega) u i
  exact⟨Ya w,v,Nv v (Yb c.cs c.ru (by omega) u i)⟩
 ·obtain⟨w,v⟩:=X8 c.co (by omega) u i
  exact⟨Ya w,v,Nv v (Yc c.cs c.co (by omega) u i)⟩
 ·have v:=X9 c.cr (by omega) u i
  exact⟨.inl rfl,v,Nv v (Yd c.cs c.cr h u i)⟩
theorem ajo(t:Tt)(c:Ct)(C D E F H I r J hU:T)(U:vq t C D E)(V:xG c F H I r J hU)(W:AK c)(N:tq t=0)(O:my c=0):
  ∃s K,gS pE 42 [.agg [C,D,E],.agg (iS c F H I r J hU)] []=some (.tup [.vp (C::D::E::(iS c F H I r J hU++K)),.i .i64 0],s)∧K.all froz1=true∧K.length=11∧Ix t c K:=by
 obtain⟨X,Y,Z,p4⟩:=Ns t N
 obtain⟨q1,q2,q3,q4,q5,q6,q7⟩:=sS c O
 exact ar5 t c C D E F H I r J hU U V W N O X Y Z p4 (AL t N).2.1 q1 q2 q3 q4 q5 q6 q7
theorem ajp(H I E:T)(C J:List T)(n:Nat)(F:g8 E n J)(i:Int):gS pE 43 [.vp (H::I::E::C),.i .i64 i] []=some (.b (decide (0≤i∧i<(n:Int))),[]):=by
 rw[gX aor (by simp[c43])]
 by_cases r:0≤i
 ·by_cases D:i<(n:Int)
  ·simp only[qA,seval,c43,F.lenI,r,D]
   try simp[r,D]
  ·simp only[qA,seval,c43,F.lenI,r,D]
   try simp[r,D]
 ·simp only[qA,seval,c43,r]
  try simp[r]
theorem Ny(F H D:T)(C E:List T)(l:List Fl)(I:g8 D l.length E)(J:ic Z0 l E)(k:Nat)(K:k<l.length): ∃r,gS pE 95 [.vp (F::H::D::C),.i .i64 (k:Int)] []=some (.vp (.s l[k].nu:: .s l[k].fr:: .s l[k].to:: .i .i64 l[k].dp:: .i .i64 l[k].ar:: .s l[k].ty:: .i .i64 l[k].n0:: .i .i64 l[k].n1:: .i .i64 l[k].n2::r),[]):=by
 obtain⟨r,N⟩:=tX I J k K
 refine⟨r, ?_⟩
 rw[gX ahI (by simp[c95])]
 simp only[qA,seval,c95,N]
def Ye(c:Ct)(f g:Fl):Bool:=decide (f.to=g.fr)&&(decide (c.cn≤wr .i64 (g.dp-f.ar))&&decide (wr .i64 (g.dp-f.ar)≤c.st))
theorem ajq(J K F N O U C V hU:T)(c:Ct)(W H:List T)(l:List Fl)(X:g8 F l.length H)(Y:ic Z0 l H)(i j:Nat)(hi:i<l.length)(Z:j<l.length):gS pE 49 [.vp (J::K::F::(iS c N O U C V hU++W)),.i .i64 (i:Int),.i .i64 (j:Int)] []=some (.b (Ye c l[i] l[j]),[]):=by
 obtain⟨r,D⟩:=Ny J K F (iS c N O U C V hU++W) H l X Y i hi
 obtain⟨r',E⟩:=Ny J K F (iS c N O U C V hU++W) H l X Y j Z
 rw[gX ahu (by simp[c49])]
 generalize l[i]=f at*
 generalize l[j]=g at*
 unfold iS at D E ⊢
 simp only[List.cons_append,List.nil_append]at D E ⊢
 unfold Ye
 by_cases e:f.to=g.fr
 ·by_cases I:c.cn≤wr .i64 (g.dp-f.ar)
  ·simp only[qA,seval,c49,D,E,zF,e,I]
   try simp[e,I]
  ·simp only[qA,seval,c49,D,E,zF,e,I]
   try simp[e,I]
 ·simp only[qA,seval,c49,D,E,zF,e]
  try simp[e]
structure Sta where
 ff:Int
 fh:Bool
 lf:Int
 lh:Bool
 lg:Int
 hd:Int
 bl:Int
 lo:Int
 so:Int
 ty:List (List Nat)
def A0(n:Nat)(i:Int):Bool:=decide (0≤i∧i<(n:Int))
theorem PG{n a b:Int}:um n a b=true↔a≤n∧n≤b:=by
 unfold um
 simp only[Bool.and_eq_true,decide_eq_true_eq]
def BH(f:Fl):Prop:=lQ f.ty=true∧2880≤f.dp∧f.ar≤52593120∧f.dp<f.ar∧f.ar-f.dp≤1440
theorem ajr{i:List (List Nat)}{f:Fl}(h:Ip i f=0):BH f:=by
 unfold Ip at h
 split at h
 ·cases h
 split at h
 ·cases h
 split at h
 ·cases h
 split at h
 ·cases h
 split at h
 ·cases h
 split at h
 ·cases h
 rename_i a b c d e g
 have g:rN f=true:=by simpa using g
 unfold rN at g
 simp only[Bool.and_eq_true,decide_eq_true_eq]at g
 exact⟨by simpa using b,g⟩
theorem Yf(i:List (List Nat)): ∀(l:List Fl) (p:Option Fl),FI i p l=0→ ∀f∈l,BH f
 | [],_,_,f,hf=>by cases hf
 |g::r,p,h,f,hf=>by
  unfold FI at h
  by_cases a:Ip i g=0
  ·rw[if_neg (by simp[a])]at h
   rcases List.mem_cons.1 hf with rfl|hf
   ·exact ajr a
   ·have:FI i (some g) r=0:=by
     revert h
     cases p <;> simp only <;> split <;> first|exact id|(intro h;cases h)
    exact Yf i r _ this f hf
  ·rw[if_pos a]at h;exact absurd h a
theorem nh(t:Tt)(h:tq t=0):(∀f∈t.fl,BH f)∧t.fl.length≤200:=by
 unfold tq at h
 split at h
 ·cases h
 split at h
 ·cases h
 split at h
 ·cases h
 split at h
 ·rename_i q;exact absurd h q
 split at h
 ·rename_i q;exact absurd h q
 rename_i a b c d e
 exact⟨Yf _ _ _ h,by omega⟩
theorem Yg(c:Ct)(h:my c=0):0≤c.cn∧c.cn≤1440∧c.st≤1440∧(0≤c.rp∧c.rp≤1440)∧(0≤c.rl∧c.rl≤1440):=by
 unfold my at h
 split at h
 ·rename_i q;exact absurd h q
 rename_i g
 have g:mz c=0:=by omega
 unfold mz at g
 split at g
 ·cases g
 rename_i r
 have r:pw c=true:=by simpa using r
 unfold pw at r
 simp only[Bool.and_eq_true,PG]at r
 omega
end Go.Proofs.YtblcbheipjeoeaaGreat
