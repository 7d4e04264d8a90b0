/- Walks of functions of the program and of the reference, and their plain laws, part 10. Conditions: the theorems' own. -/
import Derived.Test.YtblcbheipjeoeaaGreatM9
import Derived.KernelRfl
set_option maxRecDepth 100000
set_option linter.unusedSimpArgs false
set_option linter.unusedVariables false
set_option maxHeartbeats 16000000
namespace Go.Proofs.YtblcbheipjeoeaaGreat
open Go Go.Ev
theorem acC(c:Nat):yR c=(decide ((65:Int)≤c)&&decide ((c:Int)≤90)||decide ((48:Int)≤c)&&decide ((c:Int)≤57)):=by
 unfold yR CY CB
 by_cases a1:(65:Int)≤c <;> by_cases a2:(c:Int)≤90 <;> by_cases i:(48:Int)≤c <;> by_cases r:(c:Int)≤57 <;> simp[a1,a2,i,r]
theorem arP(s:List Nat)(hs:s.length≤8)(r:Bool)(C:r=s.all yR)(o:Out)(K:o=if r then .ext 0 else .ret)(fr:Fr)(lh:hJ gR)(sh:List gR)(E:an fr 0= .s s)(D:an fr 14= .i .i64 (s.length:Int))(F:an fr 15= .i .i64 0):
  kV 37 uJ fr lh sh o∧
  ((r=false→an (kh pE 37 uJ fr lh sh) 2= .b false)∧kb pE 37 uJ fr lh sh=sh):=by
 refine ib (P:=fun U X V=>(r=false→an U 2= .b false)∧V=sh)
  (ij (fun k st=> ∃(fr:Fr) (H:hJ gR),st=⟨fr,H,sh⟩∧r=(s.drop k).all yR∧an fr 0= .s s∧an fr 14= .i .i64 (s.length:Int)∧an fr 15= .i .i64 (k:Int)) _ s.length ?_ ?_ 0 _ (Nat.zero_le _) ⟨fr,lh,rfl,C,E,D,F⟩)
 ·rintro k _ N ⟨fr,H,rfl,C,E,D,F⟩
  have O:(k:Int)<s.length:=by omega
  have W:=iG (k:=k) (by omega)
  have L5:=qd N
  rw[List.drop_eq_getElem_cons N,List.all_cons,acC]at C
  generalize ((s[k]:Nat):Int)=c at*
  by_cases a1:(65:Int)≤c <;> by_cases a2:c≤90 <;> by_cases I:(48:Int)≤c <;> by_cases J:c≤57 <;>
   simp only[a1,a2,I,J,decide_true,decide_false,Bool.and_true,Bool.and_false,Bool.or_true,Bool.or_false,Bool.true_and,Bool.false_and]at C <;>
   first
   |(left
     simp only[qA,seval,uJ,E,D,F,O,L5,W,a1,a2,I,J]
     refine⟨_,rfl,_,_,rfl,C, ?_, ?_, ?_⟩ <;> (simp only[qA,seval,E,D];done))
   |(right
     simp only[qA,seval,uJ,E,D,F,O,L5,a1,a2,I,J]
     refine⟨_,_,jJ,rfl,by rw[K,C];rfl,fun _=> ?_,rfl⟩
     simp only[qA,seval];done)
 ·rintro _ ⟨fr,H,rfl,C,E,D,F⟩
  rw[List.drop_length,List.all_nil]at C
  simp only[qA,seval,uJ,D,F,Int.lt_irrefl]
  exact⟨_,_,jB,rfl,by rw[K,C];rfl,fun h=>(by rw[C]at h;cases h),rfl⟩
theorem XQ(s:List Nat):gS pE 224 [.s s] []=some (.b (Em s),[]):=by
 rw[gX aeS (by simp[Jz])]
 unfold Em
 by_cases I:s.length<1
 ·have i:(s.length:Int)<1:=by omega
  have e: ¬1≤s.length:=by omega
  simp only[qA,seval,Jz,i,e]
 ·have i: ¬(s.length:Int)<1:=by omega
  have e:1≤s.length:=by omega
  by_cases J:8<s.length
  ·have B6:(8:Int)<s.length:=by omega
   have r: ¬s.length≤8:=by omega
   simp only[qA,seval,Jz,i,B6,e,r]
  ·have B6: ¬(8:Int)<s.length:=by omega
   have r:s.length≤8:=by omega
   have C:=fun fr lh sh E F H=>arP s r _ rfl _ rfl fr lh sh E F H
   cases D:s.all yR with
   |true=>
    rw[D]at C
    simp only[qA,seval,Jz,i,B6,e,r,C]
   |false=>
    rw[D]at C
    simp only[qA,seval,Jz,i,B6,e,r,C]
theorem AD(c:Nat):gS pE 238 [.i .u8 c] []=some (.b (decide (CY c)),[]):=by
 rw[gX ae2 (by simp[QV])]
 by_cases r:(65:Int)≤c
 ·by_cases C:(c:Int)≤90 <;> simp only[qA,seval,QV,r,C,CY]
 ·simp only[qA,seval,QV,r,CY]
theorem arQ(s:List Nat)(hs:s.length≤l6)(r:Bool)(C:r=s.all yR)(o:Out)(O:o=if r then .ext 0 else .ret)(fr:Fr)(lh:hJ gR)(sh:List gR)(D:an fr 0= .s s)(E:an fr 3= .i .i64 0):
  kV 30 qS fr lh sh o∧
  ((r=false→an (kh pE 30 qS fr lh sh) 2= .b false)∧kb pE 30 qS fr lh sh=sh):=by
 refine ib (P:=fun W Y X=>(r=false→an W 2= .b false)∧X=sh)
  (ij (fun k st=> ∃(fr:Fr) (K:hJ gR),st=⟨fr,K,sh⟩∧r=(s.drop k).all yR∧an fr 0= .s s∧an fr 3= .i .i64 (k:Int)) _ s.length ?_ ?_ 0 _ (Nat.zero_le _) ⟨fr,lh,rfl,C,D,E⟩)
 ·rintro k _ U ⟨fr,K,rfl,C,D,E⟩
  have N:(k:Int)<s.length:=by omega
  have V:=nQ (k:=k) (by omega)
  have L5:=qd U
  have F:=AD s[k]
  have H:=xD s[k]
  rw[List.drop_eq_getElem_cons U,List.all_cons]at C
  by_cases I:CY s[k]
  ·left
   have e:yR s[k]=true:=by simp[yR,I]
   rw[e,Bool.true_and]at C
   rw[decide_eq_true I]at F
   simp only[qA,seval,qS,D,E,N,L5,V,F,OF]
   refine⟨_,rfl,_,_,rfl,C, ?_, ?_⟩ <;> simp only[qA,seval,D]
  ·rw[decide_eq_false I]at F
   by_cases J:CB s[k]
   ·left
    have e:yR s[k]=true:=by simp[yR,J]
    rw[e,Bool.true_and]at C
    rw[decide_eq_true J]at H
    simp only[qA,seval,qS,D,E,N,L5,V,F,H,OF,JJ]
    refine⟨_,rfl,_,_,rfl,C, ?_, ?_⟩ <;> simp only[qA,seval,D]
   ·right
    have e:yR s[k]=false:=by simp[yR,I,J]
    rw[e,Bool.false_and]at C
    rw[decide_eq_false J]at H
    simp only[qA,seval,qS,D,E,N,L5,F,H,OF,JJ]
    refine⟨_,_,jJ,rfl,by rw[O,C];rfl,fun _=> ?_,rfl⟩
    simp only[qA,seval]
 ·rintro _ ⟨fr,K,rfl,C,D,E⟩
  rw[List.drop_length,List.all_nil]at C
  simp only[qA,seval,qS,D,E,Int.lt_irrefl]
  exact⟨_,_,jB,rfl,by rw[O,C];rfl,fun h=>(by rw[C]at h;cases h),rfl⟩
theorem XR(s:List Nat)(hs:s.length≤l6):gS pE 239 [.s s] []=some (.b (Em s),[]):=by
 rw[gX ae3 (by simp[JA])]
 unfold Em
 have i:=fun fr lh sh F r=>arQ s hs _ rfl _ rfl fr lh sh F r
 cases r:s.all yR with
 |false=>
  rw[r]at i
  simp only[qA,seval,JA,i]
 |true=>
  rw[r]at i
  by_cases D:1≤s.length
  ·have C:(1:Int)≤s.length:=by omega
   by_cases E:s.length≤8
   ·have B6:(s.length:Int)≤8:=by omega
    simp only[qA,seval,JA,Bb,i,D,C,E,B6]
   ·have B6: ¬(s.length:Int)≤8:=by omega
    simp only[qA,seval,JA,Bb,i,D,C,E,B6]
  ·have C: ¬(1:Int)≤s.length:=by omega
   simp only[qA,seval,JA,Bb,i,D,C]
theorem arR(s:List Nat)(hs:s.length=3)(r:Bool)(C:r=s.all fun c=>decide (CY c))(o:Out)(H:o=if r then .ext 0 else .ret)(fr:Fr)(lh:hJ gR)(sh:List gR)(E:an fr 0= .s s)(D:an fr 8= .i .i64 (s.length:Int))(F:an fr 9= .i .i64 0):
  kV 23 sk fr lh sh o∧
  ((r=false→an (kh pE 23 sk fr lh sh) 2= .b false)∧kb pE 23 sk fr lh sh=sh):=by
 refine ib (P:=fun U X V=>(r=false→an U 2= .b false)∧V=sh)
  (ij (fun k st=> ∃(fr:Fr) (I:hJ gR),st=⟨fr,I,sh⟩∧r=((s.drop k).all fun c=>decide (CY c))∧an fr 0= .s s∧an fr 8= .i .i64 (s.length:Int)∧an fr 9= .i .i64 (k:Int)) _ s.length ?_ ?_ 0 _ (Nat.zero_le _) ⟨fr,lh,rfl,C,E,D,F⟩)
 ·rintro k _ N ⟨fr,I,rfl,C,E,D,F⟩
  have J:(k:Int)<s.length:=by omega
  have W:=iG (k:=k) (by omega)
  have L5:=qd N
  rw[List.drop_eq_getElem_cons N,List.all_cons]at C
  by_cases K:(s[k]:Int)<65
  ·right
   have e:decide (CY s[k])=false:=decide_eq_false (by unfold CY;omega)
   rw[e,Bool.false_and]at C
   simp only[qA,seval,sk,E,D,F,J,L5,K]
   refine⟨_,_,jJ,rfl,by rw[H,C];rfl,fun _=> ?_,rfl⟩
   simp only[qA,seval]
  ·by_cases O:(90:Int)<s[k]
   ·right
    have e:decide (CY s[k])=false:=decide_eq_false (by unfold CY;omega)
    rw[e,Bool.false_and]at C
    simp only[qA,seval,sk,E,D,F,J,L5,K,O]
    refine⟨_,_,jJ,rfl,by rw[H,C];rfl,fun _=> ?_,rfl⟩
    simp only[qA,seval]
   ·left
    have e:decide (CY s[k])=true:=decide_eq_true (by unfold CY;omega)
    rw[e,Bool.true_and]at C
    simp only[qA,seval,sk,E,D,F,J,L5,W,K,O]
    refine⟨_,rfl,_,_,rfl,C, ?_, ?_, ?_⟩ <;> simp only[qA,seval,E,D]
 ·rintro _ ⟨fr,I,rfl,C,E,D,F⟩
  rw[List.drop_length,List.all_nil]at C
  simp only[qA,seval,sk,D,F,Int.lt_irrefl]
  exact⟨_,_,jB,rfl,by rw[H,C];rfl,fun h=>(by rw[C]at h;cases h),rfl⟩
theorem acD(s:List Nat):gS pE 139 [.s s] []=some (.b (CC s),[]):=by
 rw[gX aed (by simp[Mk])]
 unfold CC
 by_cases i:s.length=3
 ·have C:(s.length:Int)=3:=by omega
  have r:=fun fr lh sh E F H=>arR s i _ rfl _ rfl fr lh sh E F H
  rw[i]at r
  cases D:s.all fun c=>decide (CY c)with
  |true=>
   rw[D]at r
   simp only[qA,seval,Mk,i,r]
  |false=>
   rw[D]at r
   simp only[qA,seval,Mk,i,r]
 ·have C: ¬(s.length:Int)=3:=by omega
  simp only[qA,seval,Mk,i,C]
theorem acE(s:List Nat):gS pE 152 [.s s] []=some (.b (CC s),[]):=by
 rw[gX aem (by simp[QC])]
 by_cases r:s.length=3
 ·obtain⟨a,b,c,rfl⟩: ∃a b c,s= [a,b,c]:=by
   match s,r with
   | [a,b,c],_=>exact⟨a,b,c,rfl⟩
  have C:=AD a
  have D:=AD b
  have E:=AD c
  have F: ∀kk,FF (.s [a,b,c]) (.i kk 0)=some (.i .u8 (a:Int)):=fun kk=>qd (s:= [a,b,c]) (k:=0) (by simp) kk
  have H: ∀kk,FF (.s [a,b,c]) (.i kk 1)=some (.i .u8 (b:Int)):=fun kk=>qd (s:= [a,b,c]) (k:=1) (by simp) kk
  have I: ∀kk,FF (.s [a,b,c]) (.i kk 2)=some (.i .u8 (c:Int)):=fun kk=>qd (s:= [a,b,c]) (k:=2) (by simp) kk
  have e:CC [a,b,c]=(decide (CY a)&&(decide (CY b)&&decide (CY c))):=by simp[CC]
  rw[e]
  cases r:decide (CY a) <;> cases J:decide (CY b) <;> cases K:decide (CY c) <;> rw[r]at C <;> rw[J]at D <;> rw[K]at E <;> simp only[qA,seval,QC,F,H,I,C,D,E,OF]
 ·have N: ¬(s.length:Int)=3:=by omega
  have e:CC s=false:=by simp[CC,r]
  rw[e]
  simp only[qA,seval,QC,N]
theorem axc(H I J:Int)(r:Bool)(E:r= [H,I,J].all mq)(o:Out)(F:o=if r then .ext 1 else .ret)(fr:Fr)(lh:hJ gR)(sh:List gR)(KF:an fr 62= .agg [.i .i64 H,.i .i64 I,.i .i64 J])(D:an fr 63= .i .i64 0):
  kV 73 mI fr lh sh o∧
  ((r=false→an (kh pE 73 mI fr lh sh) 4= .i .i64 5)∧kb pE 73 mI fr lh sh=sh):=by
 have Aa: ∀(n:Int) (C:Bool),(r=(mq n&&C))→(n<0∧r=false)∨(¬n<0∧8<n∧r=false)∨(¬n<0∧ ¬8<n∧r=C):=by
  intro n C h
  unfold mq at h
  by_cases a1:n<0
  ·exact .inl ⟨a1,by rw[h,decide_eq_false (by omega)];rfl⟩
  ·by_cases a2:8<n
   ·exact .inr (.inl ⟨a1,a2,by rw[h,decide_eq_false (p:=n≤8) (by omega),Bool.and_false,Bool.false_and]⟩)
   ·exact .inr (.inr ⟨a1,a2,by rw[h,decide_eq_true (p:=0≤n) (by omega),decide_eq_true (p:=n≤8) (by omega)];rfl⟩)
 refine ib (P:=fun O W U=>(r=false→an O 4= .i .i64 5)∧U=sh)
  (ij (fun k st=> ∃(fr:Fr) (N:hJ gR),st=⟨fr,N,sh⟩∧r=([H,I,J].drop k).all mq∧an fr 62= .agg [.i .i64 H,.i .i64 I,.i .i64 J]∧an fr 63= .i .i64 (k:Int)) _ 3 ?_ ?_ 0 _ (Nat.zero_le _) ⟨fr,lh,rfl,E,KF,D⟩)
 ·rintro k _ X ⟨fr,N,rfl,E,KF,D⟩
  have V:k=0∨k=1∨k=2:=by omega
  rcases V with rfl|rfl|rfl
  ·rcases Aa H _ E with⟨a1,e⟩|⟨a1,a2,e⟩|⟨a1,a2,e⟩
   ·right
    simp only[qA,seval,CA,mI,KF,D,a1]
    refine⟨_,_,jJ,rfl,by rw[F,e];rfl,fun _=> ?_,rfl⟩
    simp only[qA,seval]
   ·right
    simp only[qA,seval,CA,mI,KF,D,a1,a2]
    refine⟨_,_,jJ,rfl,by rw[F,e];rfl,fun _=> ?_,rfl⟩
    simp only[qA,seval]
   ·left
    simp only[qA,seval,CA,mI,KF,D,a1,a2]
    refine⟨_,rfl,_,_,rfl,by simpa using e, ?_, ?_⟩ <;> simp only[qA,seval,KF]
  ·have Io:an fr 63= .i .i64 1:=D
   rcases Aa I _ E with⟨a1,e⟩|⟨a1,a2,e⟩|⟨a1,a2,e⟩
   ·right
    simp only[qA,seval,CA,mI,KF,Io,a1]
    refine⟨_,_,jJ,rfl,by rw[F,e];rfl,fun _=> ?_,rfl⟩
    simp only[qA,seval]
   ·right
    simp only[qA,seval,CA,mI,KF,Io,a1,a2]
    refine⟨_,_,jJ,rfl,by rw[F,e];rfl,fun _=> ?_,rfl⟩
    simp only[qA,seval]
   ·left
    simp only[qA,seval,CA,mI,KF,Io,a1,a2]
    refine⟨_,rfl,_,_,rfl,by simpa using e, ?_, ?_⟩ <;> simp only[qA,seval,KF]
  ·have Io:an fr 63= .i .i64 2:=D
   rcases Aa J _ E with⟨a1,e⟩|⟨a1,a2,e⟩|⟨a1,a2,e⟩
   ·right
    simp only[qA,seval,CA,mI,KF,Io,a1]
    refine⟨_,_,jJ,rfl,by rw[F,e];rfl,fun _=> ?_,rfl⟩
    simp only[qA,seval]
   ·right
    simp only[qA,seval,CA,mI,KF,Io,a1,a2]
    refine⟨_,_,jJ,rfl,by rw[F,e];rfl,fun _=> ?_,rfl⟩
    simp only[qA,seval]
   ·left
    simp only[qA,seval,CA,mI,KF,Io,a1,a2]
    refine⟨_,rfl,_,_,rfl,by simpa using e, ?_, ?_⟩ <;> simp only[qA,seval,KF]
 ·rintro _ ⟨fr,N,rfl,E,KF,D⟩
  have Io:an fr 63= .i .i64 3:=D
  have K:r=true:=E
  simp only[qA,seval,mI,Io,Int.lt_irrefl]
  exact⟨_,_,jB,rfl,by rw[F,K];rfl,fun h=>(by rw[K]at h;cases h),rfl⟩
theorem aja(J:List (List Nat))(f:Fl):gS pE 140 [.agg (CZ f),.vm (Pz J) (PA J)] []=some (.i .i64 (Ip J f),[]):=by
 have r:=XQ f.nu
 have C:=Ax f.ty
 have D:=KG J f.fr
 have E:=KG J f.to
 rw[gX aee (by simp[yA])]
 unfold Ip CZ
 cases Y:Em f.nu with
 |false=>
  rw[Y]at r
  simp only[qA,seval,yA,r,wu]
 |true=>
  rw[Y]at r
  cases Z:lQ f.ty with
  |false=>
   rw[Z]at C
   simp only[qA,seval,yA,r,C,wu,vR]
  |true=>
   rw[Z]at C
   by_cases F:f.fr∈J
   ·rw[decide_eq_true F]at D
    by_cases H:f.to∈J
    ·rw[decide_eq_true H]at E
     by_cases K:f.fr=f.to
     ·simp only[qA,seval,yA,r,C,wu,vR,E,H,K]
     ·by_cases N:f.dp<2880
      ·have I:rN f=false:=by simp[rN];omega
       simp only[qA,seval,yA,r,C,wu,vR,D,E,F,H,K,N,I]
      by_cases O:(52593120:Int)<f.ar
      ·have I:rN f=false:=by simp[rN];omega
       simp only[qA,seval,yA,r,C,wu,vR,D,E,F,H,K,N,O,I]
      by_cases V:f.ar≤f.dp
      ·have I:rN f=false:=by simp[rN];omega
       simp only[qA,seval,yA,r,C,wu,vR,D,E,F,H,K,N,O,V,I]
      have W:wr .i64 (f.ar-f.dp)=f.ar-f.dp:=jL (by omega)
      by_cases X:(1440:Int)<f.ar-f.dp
      ·have I:rN f=false:=by simp[rN];omega
       simp only[qA,seval,yA,r,C,wu,vR,D,E,F,H,K,N,O,V,W,X,I]
      have I:rN f=true:=by simp[rN];omega
      have U:=fun fr lh sh KF xX=>axc f.n0 f.n1 f.n2 _ rfl _ rfl fr lh sh KF xX
      have e: [f.n0,f.n1,f.n2].all mq=(mq f.n0&&(mq f.n1&&mq f.n2)):=by simp
      rw[e]at U
      cases hb:(mq f.n0&&(mq f.n1&&mq f.n2))with
      |true=>
       rw[hb]at U
       simp only[qA,seval,yA,r,C,wu,vR,D,E,F,H,K,N,O,V,W,X,I,U]
      |false=>
       rw[hb]at U
       simp only[qA,seval,yA,r,C,wu,vR,D,E,F,H,K,N,O,V,W,X,I,U]
    ·rw[decide_eq_false H]at E
     simp only[qA,seval,yA,r,C,wu,vR,D,E,F,H]
   ·rw[decide_eq_false F]at D
    simp only[qA,seval,yA,r,C,wu,vR,D,F]
theorem acF(f g:Fl):gS pE 141 [.agg (CZ f),.agg (CZ g)] []=some (.b (CD f g),[]):=by
 rw[gX U5 (by simp[Qy])]
 unfold CD CZ
 by_cases h:f.dp=g.dp
 ·simp only[qA,seval,Qy,h]
 ·simp only[qA,seval,Qy,h]
theorem axd(l:List Zo)(a:T)(cc:List T)(ha:g8 a l.length cc)(hc:ic C0 l cc)(hlen:l.length≤100)(r:Int)(C:r=KH [] l)(o:Out)(X:o=if r=0 then .ext 0 else .ret)(g:Nat)(O D:gR)(fr:Fr)(lh:hJ gR)(sh:List gR)
  (J:an fr 3= .mp .L 29 g) (Iq:an fr 31=a) (E:an fr 32= .i .i64 (l.length:Int)) (F:an fr 33= .i .i64 0) (H:a6 lh 1=O) (Ir:a6 lh 29=⟨g,.map [] [] false⟩) (I:a6 lh 50=D):
  kV 106 qn fr lh sh o∧
  ((r≠0→an (kh pE 106 qn fr lh sh) 2= .i .i64 r)∧(r=0→a6 (kH pE 106 qn fr lh sh) 29=⟨g,.map (Pz (l.map Zo.nm)) (PA (l.map Zo.nm)) false⟩)∧a6 (kH pE 106 qn fr lh sh) 1=O∧a6 (kH pE 106 qn fr lh sh) 50=D∧kb pE 106 qn fr lh sh=sh):=by
 refine ib (P:=fun iq Y iw=>(r≠0→an iq 2= .i .i64 r)∧(r=0→a6 Y 29=⟨g,.map (Pz (l.map Zo.nm)) (PA (l.map Zo.nm)) false⟩)∧a6 Y 1=O∧a6 Y 50=D∧iw=sh)
  (ij (fun k st=> ∃(fr:Fr) (K:hJ gR),st=⟨fr,K,sh⟩∧r=KH ((l.take k).map Zo.nm) (l.drop k)∧an fr 3= .mp .L 29 g∧an fr 31=a∧an fr 32= .i .i64 (l.length:Int)∧an fr 33= .i .i64 (k:Int)∧a6 K 1=O∧a6 K 50=D∧a6 K 29=⟨g,.map (Pz ((l.take k).map Zo.nm)) (PA ((l.take k).map Zo.nm)) false⟩) _ l.length ?_ ?_ 0 _ (Nat.zero_le _) ⟨fr,lh,rfl,C,J,Iq,E,F,H,I,Ir⟩)
 ·rintro k _ Z ⟨fr,K,rfl,C,J,Iq,E,F,H,I,Ir⟩
  have iu:(k:Int)<l.length:=by omega
  have hw:=iG (k:=k) (by omega)
  obtain⟨sT,sc,rr,iv,U,yk⟩:=GW ha hc k Z
  have V:=En l[k] sT sc U yk
  rw[List.drop_eq_getElem_cons Z,KH]at C
  have W:=KG ((l.take k).map Zo.nm) l[k].nm
  have nF:=XS ((l.take k).map Zo.nm) l[k].nm
  rw[AE Zo.nm Z]
  generalize (l.take k).map Zo.nm=seen at*
  generalize l[k]=z at*
  by_cases N:mf z=0
  ·rw[if_neg (by simp[N])]at C
   rw[N]at V
   by_cases hs:z.nm∈seen
   ·right
    rw[if_pos hs]at C
    rw[decide_eq_true hs]at W
    simp only[qA,seval,qn,J,Iq,E,F,Ir,iu,iv,U.froz1,V,JF,ju,W]
    refine⟨_,_,jJ,rfl,by rw[X,C];rfl,fun _=> ?_,fun h=>(by rw[C]at h;cases h), ?_, ?_,rfl⟩ <;> simp only[qA,seval,C,H,I]
   ·left
    rw[if_neg hs]at C
    rw[decide_eq_false hs]at W
    have nF:=nF hs
    simp only[qA,seval,qn,J,Iq,E,F,Ir,iu,iv,hw,U.froz1,V,JF,ju,W,vf,Ch,nF]
    refine⟨_,rfl,_,_,rfl,C, ?_, ?_, ?_, ?_, ?_, ?_, ?_⟩ <;> simp only[qA,seval,J,Iq,E,H,I]
  ·right
   rw[if_pos N]at C
   generalize mf z=e at*
   simp only[qA,seval,qn,Iq,E,F,iu,iv,U.froz1,V,JF,N]
   refine⟨_,_,jJ,rfl,by rw[X,C,if_neg N],fun _=> ?_,fun h=>absurd (C▸h) N, ?_, ?_,rfl⟩ <;> simp only[qA,seval,C,H,I]
 ·rintro _ ⟨fr,K,rfl,C,J,Iq,E,F,H,I,Ir⟩
  rw[List.drop_length,KH]at C
  rw[List.take_length]at Ir
  simp only[qA,seval,qn,E,F,Int.lt_irrefl]
  exact⟨_,_,jB,rfl,by rw[X,C];rfl,fun h=>absurd C h,fun _=>Ir,H,I,rfl⟩
theorem axe(E:List (List Nat))(l:List Ap)(a:T)(cc:List T)(ha:g8 a l.length cc)(hc:ic L8 l cc)(hlen:l.length≤100)(r:Int)(C:r=KI E [] l)(o:Out)(U:o=if r=0 then .ext 2 else .ret)(g V:Nat)(W:gR)(fr:Fr)(lh:hJ gR)(sh:List gR)
  (J:an fr 3= .mp .L 29 V) (F:an fr 7= .mp .L 50 g) (Jj:an fr 52=a) (Ci:an fr 53= .i .i64 (l.length:Int)) (CE:an fr 54= .i .i64 0) (H:a6 lh 1=W) (Ir:a6 lh 29=⟨V,.map (Pz E) (PA E) false⟩) (I:a6 lh 50=⟨g,.map [] [] false⟩):
  kV 106 qm fr lh sh o∧
  ((r≠0→an (kh pE 106 qm fr lh sh) 2= .i .i64 r)∧(r=0→a6 (kH pE 106 qm fr lh sh) 50=⟨g,.map (Pz (l.map Ap.cd)) (PA (l.map Ap.cd)) false⟩)∧a6 (kH pE 106 qm fr lh sh) 1=W∧kb pE 106 qm fr lh sh=sh):=by
 refine ib (P:=fun iq il iw=>(r≠0→an iq 2= .i .i64 r)∧(r=0→a6 il 50=⟨g,.map (Pz (l.map Ap.cd)) (PA (l.map Ap.cd)) false⟩)∧a6 il 1=W∧iw=sh)
  (ij (fun k st=> ∃(fr:Fr) (K:hJ gR),st=⟨fr,K,sh⟩∧r=KI E ((l.take k).map Ap.cd) (l.drop k)∧an fr 3= .mp .L 29 V∧an fr 7= .mp .L 50 g∧an fr 52=a∧an fr 53= .i .i64 (l.length:Int)∧an fr 54= .i .i64 (k:Int)∧a6 K 1=W∧a6 K 29=⟨V,.map (Pz E) (PA E) false⟩∧a6 K 50=⟨g,.map (Pz ((l.take k).map Ap.cd)) (PA ((l.take k).map Ap.cd)) false⟩) _ l.length ?_ ?_ 0 _ (Nat.zero_le _) ⟨fr,lh,rfl,C,J,F,Jj,Ci,CE,H,Ir,I⟩)
 ·rintro k _ hk ⟨fr,K,rfl,C,J,F,Jj,Ci,CE,H,Ir,I⟩
  have X:(k:Int)<l.length:=by omega
  have hw:=iG (k:=k) (by omega)
  obtain⟨rr,Y⟩:=KJ ha hc k hk
  have N:=acD l[k].cd
  rw[List.drop_eq_getElem_cons hk,KI]at C
  have O:=KG ((l.take k).map Ap.cd) l[k].cd
  have nF:=XS ((l.take k).map Ap.cd) l[k].cd
  have D:=KG E l[k].zn
  rw[AE Ap.cd hk]
  generalize (l.take k).map Ap.cd=seen at*
  generalize l[k]=z at*
  cases Z:CC z.cd with
  |false=>
   right
   rw[if_pos Z]at C
   rw[Z]at N
   simp only[qA,seval,qm,F,Jj,Ci,CE,X,Y,N,Ov]
   refine⟨_,_,jJ,rfl,by rw[U,C];rfl,fun _=> ?_,fun h=>(by rw[C]at h;cases h), ?_,rfl⟩ <;> simp only[qA,seval,C,H]
  |true=>
   rw[if_neg (by simp[Z])]at C
   rw[Z]at N
   by_cases hs:z.cd∈seen
   ·right
    rw[if_pos hs]at C
    rw[decide_eq_true hs]at O
    simp only[qA,seval,qm,J,F,Jj,Ci,CE,Ir,I,X,Y,N,Ov,ju,O]
    refine⟨_,_,jJ,rfl,by rw[U,C];rfl,fun _=> ?_,fun h=>(by rw[C]at h;cases h), ?_,rfl⟩ <;> simp only[qA,seval,C,H]
   ·rw[if_neg hs]at C
    rw[decide_eq_false hs]at O
    have nF:=nF hs
    by_cases hz:z.zn∈E
    ·left
     rw[if_neg (by simp[hz])]at C
     rw[decide_eq_true hz]at D
     simp only[qA,seval,qm,J,F,Jj,Ci,CE,Ir,I,X,Y,hw,N,Ov,ju,O,D,vf,Ch,nF]
     refine⟨_,rfl,_,_,rfl,C, ?_, ?_, ?_, ?_, ?_, ?_, ?_, ?_⟩ <;> simp only[qA,seval,J,F,Jj,Ci,H,Ir]
    ·right
     rw[if_pos hz]at C
     rw[decide_eq_false hz]at D
     simp only[qA,seval,qm,J,F,Jj,Ci,CE,Ir,I,X,Y,N,Ov,ju,O,D]
     refine⟨_,_,jJ,rfl,by rw[U,C];rfl,fun _=> ?_,fun h=>(by rw[C]at h;cases h), ?_,rfl⟩ <;> simp only[qA,seval,C,H]
 ·rintro _ ⟨fr,K,rfl,C,J,F,Jj,Ci,CE,H,Ir,I⟩
  rw[List.drop_length,KI]at C
  rw[List.take_length]at I
  simp only[qA,seval,qm,Ci,CE,Int.lt_irrefl]
  exact⟨_,_,jB,rfl,by rw[U,C];rfl,fun h=>absurd C h,fun _=>I,H,rfl⟩
def oE(l:List Fl)(k:Nat):Option Fl:=if k=0 then none else l[k-1]?
theorem GX{l:List Fl}{k:Nat}(r:0<k)(i:k-1<l.length):oE l k=some l[k-1]:=by
 unfold oE;rw[if_neg (by omega),List.getElem?_eq_getElem i]
theorem XT(i:List (List Nat)){l:List Fl}{k:Nat}(r:k<l.length):FI i (oE l k) (l.drop k)=if Ip i l[k]≠0 then Ip i l[k]else if(match oE l k with|some p=> !CD p l[k]|none=>false)=true then 8 else FI i (oE l (k+1)) (l.drop (k+1)):=by
 have e:oE l (k+1)=some l[k]:=by unfold oE;rw[if_neg (by omega),Nat.add_sub_cancel,List.getElem?_eq_getElem r]
 rw[List.drop_eq_getElem_cons r,e]
 conv=>lhs;unfold FI
 try rfl
theorem axf(D:List (List Nat))(Z aT:T)(l:List Fl)(a:T)(cc:List T)(ha:g8 a l.length cc)(hc:ic Z0 l cc)(hlen:l.length≤1000)(r:Int)(K:r=FI D none l)(o:Out)(Y:o=if r=0 then .ext 5 else .ret)(g:Nat)(fr:Fr)(lh:hJ gR)(sh:List gR)
  (H:an fr 1= .ptr .L 1 1 0) (E:an fr 7= .mp .L 50 g) (XU:an fr 79=a) (Ts:an fr 80= .i .i64 (l.length:Int)) (Z1:an fr 81= .i .i64 0) (I:a6 lh 1=⟨1,.cells [Z,aT,a] 0 true⟩) (F:a6 lh 50=⟨g,.map (Pz D) (PA D) false⟩):
  kV 106 uw fr lh sh o∧
  ((r≠0→an (kh pE 106 uw fr lh sh) 2= .i .i64 r)∧kb pE 106 uw fr lh sh=sh):=by
 refine ib (P:=fun iq il iw=>(r≠0→an iq 2= .i .i64 r)∧iw=sh)
  (ij (fun k st=> ∃(fr:Fr) (N:hJ gR) (wm:Bool),st=⟨fr,N,sh⟩∧r=FI D (oE l k) (l.drop k)∧an fr 1= .ptr .L 1 1 0∧an fr 7= .mp .L 50 g∧an fr 79=a∧an fr 80= .i .i64 (l.length:Int)∧an fr 81= .i .i64 (k:Int)∧a6 N 1=⟨1,.cells [Z,aT,a] 0 true⟩∧a6 N 50=⟨g,.map (Pz D) (PA D) wm⟩) _ l.length ?_ ?_ 0 _ (Nat.zero_le _) ⟨fr,lh,false,rfl,K,H,E,XU,Ts,Z1,I,F⟩)
 ·rintro k _ hk ⟨fr,N,wm,rfl,C,H,E,XU,Ts,Z1,I,F⟩
  have V:(k:Int)<l.length:=by omega
  have hw:=iG (k:=k) (by omega)
  obtain⟨rr,W⟩:=tX ha hc k hk
  have J:=aja D l[k]
  unfold CZ at J
  rw[XT D hk]at C
  by_cases O:Ip D l[k]=0
  ·rw[if_neg (by simp[O])]at C
   rw[O]at J
   by_cases Sr:k=0
   ·left
    have X: ¬(0:Int)<k:=by omega
    have hp:oE l k=none:=by rw[Sr];rfl
    rw[hp]at C
    simp only[Bool.false_eq_true,if_false]at C
    generalize l[k]=z at*
    simp only[qA,seval,iR,uw,E,XU,Ts,Z1,F,V,W,hw,J,Ow,X]
    refine⟨_,rfl,_,_,wm,rfl,C, ?_, ?_, ?_, ?_, ?_, ?_, ?_⟩ <;> simp only[qA,seval,H,E,XU,Ts,I,F]
   ·have X:(0:Int)<k:=by omega
    have tY:=oF (k:=k) (by omega) (by omega)
    obtain⟨r2,Cj⟩:=tX ha hc (k-1) (by omega)
    have U:=acF l[k-1] l[k]
    unfold CZ at U
    rw[GX (by omega) (by omega)]at C
    simp only at C
    generalize l[k]=z at*
    generalize l[k-1]=y at*
    cases Tq:CD y z with
    |false=>
     right
     rw[Tq]at U
     simp only[Tq,Bool.not_false,if_true]at C
     simp only[qA,seval,iR,iy,uw,H,E,XU,Ts,Z1,I,F,V,W,J,Ow,X,tY,Cj,U,aef,aeg]
     refine⟨_,_,jJ,rfl,by rw[Y,C];rfl,fun _=> ?_,rfl⟩
     simp only[qA,seval,C]
    |true=>
     left
     rw[Tq]at U
     simp only[Tq,Bool.not_true,Bool.false_eq_true,if_false]at C
     simp only[qA,seval,iR,iy,uw,H,E,XU,Ts,Z1,I,F,V,W,hw,J,Ow,X,tY,Cj,U,aef,aeg]
     refine⟨_,rfl,_,_,wm,rfl,C, ?_, ?_, ?_, ?_, ?_, ?_, ?_⟩ <;> simp only[qA,seval,H,E,XU,Ts,I,F]
  ·right
   rw[if_pos O]at C
   generalize l[k]=z at*
   generalize Ip D z=e at*
   simp only[qA,seval,uw,E,XU,Ts,Z1,F,V,W,J,Ow,O]
   refine⟨_,_,jJ,rfl,by rw[Y,C,if_neg O],fun _=> ?_,rfl⟩
   simp only[qA,seval,C]
 ·rintro _ ⟨fr,N,wm,rfl,K,H,E,XU,Ts,Z1,I,F⟩
  rw[List.drop_length,FI]at K
  simp only[qA,seval,uw,Ts,Z1,Int.lt_irrefl]
  exact⟨_,_,jB,rfl,by rw[Y,K];rfl,fun h=>absurd K h,rfl⟩
structure vq (t:Tt) (zT aT fT:T):Prop where
 z: ∃c,g8 zT t.zo.length c∧ic C0 t.zo c
 a: ∃c,g8 aT t.ap.length c∧ic L8 t.ap c
 f: ∃c,g8 fT t.fl.length c∧ic Z0 t.fl c
theorem Nm(t:Tt)(C D H:T)(hT:vq t C D H):gS pE 86 [.agg [C,D,H]] []=some (.i .i64 (tq t),[]):=by
 obtain⟨⟨zc,r,z2⟩,⟨ac,a1,a2⟩,⟨fc,E,f2⟩⟩:=hT
 rw[gX aoH (by simp[TJ])]
 unfold tq
 by_cases N:16<t.zo.length
 ·have KK:(16:Int)<t.zo.length:=by omega
  simp only[qA,seval,TJ,r.lenI,N,KK]
 have KK: ¬(16:Int)<t.zo.length:=by omega
 by_cases U:64<t.ap.length
 ·have Nn:(64:Int)<t.ap.length:=by omega
  simp only[qA,seval,TJ,r.lenI,a1.lenI,N,KK,U,Nn]
 have Nn: ¬(64:Int)<t.ap.length:=by omega
 by_cases Z:200<t.fl.length
 ·have Ss:(200:Int)<t.fl.length:=by omega
  simp only[qA,seval,TJ,r.lenI,a1.lenI,E.lenI,N,KK,U,Nn,Z,Ss]
 have Ss: ¬(200:Int)<t.fl.length:=by omega
 rw[if_neg N,if_neg U,if_neg Z]
 have F:=fun fr lh sh V Iq vX vY I Ir J=>axd t.zo C zc r z2 (by omega) _ rfl _ rfl 1 ⟨1,.cells [C,D,H] 0 true⟩ ⟨0,.none⟩ fr lh sh V Iq vX vY I Ir J
 have K:=fun fr lh sh V W Jj Ci CE I Ir J=>axe (t.zo.map Zo.nm) t.ap D ac a1 a2 (by omega) _ rfl _ rfl 1 1 ⟨1,.cells [C,D,H] 0 true⟩ fr lh sh V W Jj Ci CE I Ir J
 have O:=fun fr lh sh h1 W XU Ts Z1 I J=>axf (t.ap.map Ap.cd) C D t.fl H fc E f2 (by omega) _ rfl _ rfl 1 fr lh sh h1 W XU Ts Z1 I J
 generalize KH [] t.zo=r1 at*
 by_cases X:r1=0
 ·subst X
  rw[if_neg (by simp)]
  simp only[if_true,ne_eq,not_true_eq_false,false_implies,true_and,forall_const]at F
  generalize KI (t.zo.map Zo.nm) [] t.ap=r2 at*
  by_cases Y:r2=0
  ·subst Y
   rw[if_neg (by simp)]
   simp only[if_true,ne_eq,not_true_eq_false,false_implies,true_and,forall_const]at K
   generalize FI (t.ap.map Ap.cd) none t.fl=r3 at*
   by_cases e3:r3=0
   ·subst e3
    simp only[if_true,ne_eq,not_true_eq_false,false_implies,true_and]at O
    simp(maxDischargeDepth:=6) only[qA,seval,TJ,Js,Dg,r.lenI,a1.lenI,E.lenI,KK,Nn,Ss,F,K,O]
   ·simp only[e3,if_false,ne_eq,not_false_eq_true,forall_const]at O
    simp(maxDischargeDepth:=6) only[qA,seval,TJ,Js,Dg,r.lenI,a1.lenI,E.lenI,KK,Nn,Ss,F,K,O]
  ·rw[if_pos Y]
   simp only[Y,if_false,ne_eq,not_false_eq_true,forall_const,false_implies,true_and]at K
   simp(maxDischargeDepth:=6) only[qA,seval,TJ,Dg,r.lenI,a1.lenI,E.lenI,KK,Nn,Ss,F,K]
 ·rw[if_pos X]
  simp only[X,if_false,ne_eq,not_false_eq_true,forall_const,false_implies,true_and]at F
  simp(maxDischargeDepth:=6) only[qA,seval,TJ,r.lenI,a1.lenI,E.lenI,KK,Nn,Ss,F]
theorem KL: ∀a:List Nat,lG a a=false
 | []=>rfl
 |x::a=>by simp[lG,KL a]
theorem GY: ∀a b:List Nat,lG a b=true→lG b a=false
 | [],[],h=>by simp[lG]at h
 | [],y::b,h=>rfl
 |x::a,[],h=>by simp[lG]at h
 |x::a,y::b,h=>by
  simp[lG]at h ⊢
  refine⟨by omega,fun e=> ?_⟩
  subst e
  rcases h with h|h
  ·omega
  ·exact GY a b h.2
theorem KM: ∀a b:List Nat,lG a b=false→lG b a=false→a=b
 | [],[],_,_=>rfl
 | [],y::b,h,_=>by simp[lG]at h
 |x::a,[],_,h=>by simp[lG]at h
 |x::a,y::b,i,r=>by
  simp[lG]at i r
  have:x=y:=by omega
  subst this
  rw[KM a b (by simpa using i) (by simpa using r)]
theorem acG(a b:List Nat):(lG a b||a==b)= !lG b a:=by
 cases h:lG b a with
 |true=>
  rw[GY _ _ h]
  have:a≠b:=fun e=>by subst e;rw[KL]at h;cases h
  simp[this]
 |false=>
  cases i:lG a b with
  |true=>rfl
  |false=>rw[KM _ _ i h];simp
theorem XV{s t:List Nat}:Ev.bin .leq (.s s) (.s t)=some (.b (!lG t s)):=by
 rw[←acG];rfl
def ixA(s:List Nat):List (List Nat)→Nat→Int
 | [],_=> -1
 |x::r,k=>if x=s then(k:Int)else ixA s r (k+1)
theorem C1(s:List Nat): ∀(l:List (List Nat)) (k:Nat),ixA s l k<0↔s∉l
 | [],k=>by simp[ixA]
 |x::r,k=>by
  rw[ixA]
  by_cases h:x=s
  ·rw[if_pos h];subst h;simp
  ·rw[if_neg h,C1 s r (k+1)]
   simp[Ne.symm h]
theorem yS(s:List Nat): ∀(ns:List (List Nat)) (k:Nat),ixA s ns k<0→ixA s ns k= -1
 | [],_,_=>rfl
 |x::ns,k,h=>by
  rw[ixA]at h ⊢
  by_cases e:x=s
  ·rw[if_pos e]at h;omega
  ·rw[if_neg e]at h ⊢; exact yS s ns _ h
theorem zi1(s:List Nat)(l:List Zo)(a:T)(K:List T)(H:g8 a l.length K)(X:ic C0 l K)(N:l.length≤1000)(r:Int)(C:r=ixA s (l.map Zo.nm) 0)(o:Out)(O:o=if r<0 then .ext 0 else .ret)(fr:Fr)(lh:hJ gR)(sh:List gR)
  (D:an fr 0=a) (E:an fr 1= .s s) (F:an fr 5= .i .i64 0):
  kV 20 uG fr lh sh o∧
  ((¬r<0→an (kh pE 20 uG fr lh sh) 4= .i .i64 r)∧kb pE 20 uG fr lh sh=sh):=by
 refine ib (P:=fun Y il Z=>(¬r<0→an Y 4= .i .i64 r)∧Z=sh)
  (ij (fun k st=> ∃(fr:Fr) (J:hJ gR),st=⟨fr,J,sh⟩∧r=ixA s ((l.drop k).map Zo.nm) k∧an fr 0=a∧an fr 1= .s s∧an fr 5= .i .i64 (k:Int)) _ l.length ?_ ?_ 0 _ (Nat.zero_le _) ⟨fr,lh,rfl,C,D,E,F⟩)
 ·rintro k _ U ⟨fr,J,rfl,C,D,E,F⟩
  have V:(k:Int)<l.length:=by omega
  have hw:=iG (k:=k) (by omega)
  obtain⟨sT,sc,rr,W,rE,yk⟩:=GW H X k U
  rw[List.drop_eq_getElem_cons U,List.map_cons,ixA]at C
  by_cases h:l[k].nm=s
  ·right
   rw[if_pos h]at C
   have I: ¬r<0:=by omega
   simp only[qA,seval,uG,D,E,F,H.lenI,V,W,h]
   refine⟨_,_,jJ,rfl,by rw[O,if_neg I],fun _=> ?_,rfl⟩
   simp only[qA,seval,C]
  ·left
   rw[if_neg h]at C
   simp only[qA,seval,uG,D,E,F,H.lenI,V,W,h,hw]
   refine⟨_,rfl,_,_,rfl,C, ?_, ?_, ?_⟩ <;> simp only[qA,seval,D,E]
 ·rintro _ ⟨fr,J,rfl,C,D,E,F⟩
  rw[List.drop_length,List.map_nil,ixA]at C
  have I:r<0:=by omega
  simp only[qA,seval,uG,D,F,H.lenI,Int.lt_irrefl]
  exact⟨_,_,jB,rfl,by rw[O,if_pos I],fun h=>absurd I h,rfl⟩
theorem agr(s:List Nat)(l:List Zo)(a:T)(C:List T)(E:g8 a l.length C)(F:ic C0 l C)(r:l.length≤1000): ∃v:Int,gS pE 151 [a,.s s] []=some (.i .i64 v,[])∧(v<0↔s∉l.map Zo.nm):=by
 refine⟨ixA s (l.map Zo.nm) 0, ?_,C1 s _ 0⟩
 have D:=fun fr lh sh H I J=>zi1 s l a C E F r _ rfl _ rfl fr lh sh H I J
 have BC:=yS s (l.map Zo.nm) 0
 rw[gX Oy (by simp[HA])]
 generalize ixA s (l.map Zo.nm) 0=v at*
 by_cases h:v<0
 ·have e:=BC h
  subst e
  simp only[qA,seval,HA,D]
 ·simp only[h,if_false,not_false_eq_true,forall_const]at D
  simp only[qA,seval,HA,D]
theorem ai1(s:List Nat)(l:List Ap)(a:T)(K:List T)(H:g8 a l.length K)(X:ic L8 l K)(N:l.length≤1000)(r:Int)(C:r=ixA s (l.map Ap.cd) 0)(o:Out)(O:o=if r<0 then .ext 0 else .ret)(fr:Fr)(lh:hJ gR)(sh:List gR)
  (D:an fr 0=a) (E:an fr 1= .s s) (F:an fr 5= .i .i64 0):
  kV 20 uH fr lh sh o∧
  ((¬r<0→an (kh pE 20 uH fr lh sh) 4= .i .i64 r)∧kb pE 20 uH fr lh sh=sh):=by
 refine ib (P:=fun Y il Z=>(¬r<0→an Y 4= .i .i64 r)∧Z=sh)
  (ij (fun k st=> ∃(fr:Fr) (J:hJ gR),st=⟨fr,J,sh⟩∧r=ixA s ((l.drop k).map Ap.cd) k∧an fr 0=a∧an fr 1= .s s∧an fr 5= .i .i64 (k:Int)) _ l.length ?_ ?_ 0 _ (Nat.zero_le _) ⟨fr,lh,rfl,C,D,E,F⟩)
 ·rintro k _ U ⟨fr,J,rfl,C,D,E,F⟩
  have V:(k:Int)<l.length:=by omega
  have hw:=iG (k:=k) (by omega)
  obtain⟨rr,W⟩:=KJ H X k U
  rw[List.drop_eq_getElem_cons U,List.map_cons,ixA]at C
  by_cases h:l[k].cd=s
  ·right
   rw[if_pos h]at C
   have I: ¬r<0:=by omega
   simp only[qA,seval,uH,D,E,F,H.lenI,V,W,h]
   refine⟨_,_,jJ,rfl,by rw[O,if_neg I],fun _=> ?_,rfl⟩
   simp only[qA,seval,C]
  ·left
   rw[if_neg h]at C
   simp only[qA,seval,uH,D,E,F,H.lenI,V,W,h,hw]
   refine⟨_,rfl,_,_,rfl,C, ?_, ?_, ?_⟩ <;> simp only[qA,seval,D,E]
 ·rintro _ ⟨fr,J,rfl,C,D,E,F⟩
  rw[List.drop_length,List.map_nil,ixA]at C
  have I:r<0:=by omega
  simp only[qA,seval,uH,D,F,H.lenI,Int.lt_irrefl]
  exact⟨_,_,jB,rfl,by rw[O,if_pos I],fun h=>absurd I h,rfl⟩
theorem XW(s:List Nat)(l:List Ap)(a:T)(C:List T)(E:g8 a l.length C)(F:ic L8 l C)(r:l.length≤1000): ∃v:Int,gS pE 153 [a,.s s] []=some (.i .i64 v,[])∧(v<0↔s∉l.map Ap.cd):=by
 refine⟨ixA s (l.map Ap.cd) 0, ?_,C1 s _ 0⟩
 have D:=fun fr lh sh H I J=>ai1 s l a C E F r _ rfl _ rfl fr lh sh H I J
 have BC:=yS s (l.map Ap.cd) 0
 rw[gX OA (by simp[HB])]
 generalize ixA s (l.map Ap.cd) 0=v at*
 by_cases h:v<0
 ·have e:=BC h
  subst e
  simp only[qA,seval,HB,D]
 ·simp only[h,if_false,not_false_eq_true,forall_const]at D
  simp only[qA,seval,HB,D]
theorem XX{r:Bool}(n:Int)(i:Bool)(h:r=(mq n&&i)):(n<0∧r=false)∨(¬n<0∧8<n∧r=false)∨(¬n<0∧ ¬8<n∧r=i):=by
 unfold mq at h
 by_cases a1:n<0
 ·exact .inl ⟨a1,by rw[h,decide_eq_false (by omega)];rfl⟩
 ·by_cases a2:8<n
  ·exact .inr (.inl ⟨a1,a2,by rw[h,decide_eq_false (p:=n≤8) (by omega),Bool.and_false,Bool.false_and]⟩)
  ·exact .inr (.inr ⟨a1,a2,by rw[h,decide_eq_true (p:=0≤n) (by omega),decide_eq_true (p:=n≤8) (by omega)];rfl⟩)
theorem axg(f:Fl)(r:Bool)(E:r= [f.n0,f.n1,f.n2].all mq)(o:Out)(F:o=if r then .ext 0 else .ret)(K:gR)(fr:Fr)(lh:hJ gR)(sh:List gR)(D:an fr 5= .ptr .L 5 1 0)(H:an fr 6= .i .i64 0)(I:a6 lh 2=K)(C:a6 lh 5=⟨1,.cells (CZ f) 0 true⟩):
  kV 108 ls fr lh sh o∧
  ((r=false→an (kh pE 108 ls fr lh sh) 4= .i .i64 5)∧a6 (kH pE 108 ls fr lh sh) 2=K∧a6 (kH pE 108 ls fr lh sh) 5=⟨1,.cells (CZ f) 0 true⟩∧a6 (kH pE 108 ls fr lh sh) 7=a6 lh 7∧kb pE 108 ls fr lh sh=sh):=by
 refine ib (P:=fun O N U=>(r=false→an O 4= .i .i64 5)∧a6 N 2=K∧a6 N 5=⟨1,.cells (CZ f) 0 true⟩∧a6 N 7=a6 lh 7∧U=sh)
  (ij (fun k st=> ∃(fr:Fr),st=⟨fr,lh,sh⟩∧r=([f.n0,f.n1,f.n2].drop k).all mq∧an fr 5= .ptr .L 5 1 0∧an fr 6= .i .i64 (k:Int)) _ 3 ?_ ?_ 0 _ (Nat.zero_le _) ⟨fr,rfl,E,D,H⟩)
 ·rintro k _ W ⟨fr,rfl,E,D,H⟩
  have V:k=0∨k=1∨k=2:=by omega
  unfold CZ at C
  rcases V with rfl|rfl|rfl
  ·have Ji:an fr 6= .i .i64 0:=H
   rcases XX f.n0 _ E with⟨a1,e⟩|⟨a1,a2,e⟩|⟨a1,a2,e⟩
   ·right
    simp only[qA,seval,kR,ls,D,Ji,C,a1]
    refine⟨_,_,jJ,rfl,by rw[F,e];rfl,fun _=> ?_,I,C,rfl,rfl⟩
    simp only[qA,seval]
   ·right
    simp only[qA,seval,kR,ls,D,Ji,C,a1,a2]
    refine⟨_,_,jJ,rfl,by rw[F,e];rfl,fun _=> ?_,I,C,rfl,rfl⟩
    simp only[qA,seval]
   ·left
    simp only[qA,seval,kR,ls,D,Ji,C,a1,a2]
    refine⟨_,rfl,_,rfl,by simpa using e, ?_, ?_⟩ <;> simp only[qA,seval,D]
  ·have Ji:an fr 6= .i .i64 1:=H
   rcases XX f.n1 _ E with⟨a1,e⟩|⟨a1,a2,e⟩|⟨a1,a2,e⟩
   ·right
    simp only[qA,seval,kR,ls,D,Ji,C,a1]
    refine⟨_,_,jJ,rfl,by rw[F,e];rfl,fun _=> ?_,I,C,rfl,rfl⟩
    simp only[qA,seval]
   ·right
    simp only[qA,seval,kR,ls,D,Ji,C,a1,a2]
    refine⟨_,_,jJ,rfl,by rw[F,e];rfl,fun _=> ?_,I,C,rfl,rfl⟩
    simp only[qA,seval]
   ·left
    simp only[qA,seval,kR,ls,D,Ji,C,a1,a2]
    refine⟨_,rfl,_,rfl,by simpa using e, ?_, ?_⟩ <;> simp only[qA,seval,D]
  ·have Ji:an fr 6= .i .i64 2:=H
   rcases XX f.n2 _ E with⟨a1,e⟩|⟨a1,a2,e⟩|⟨a1,a2,e⟩
   ·right
    simp only[qA,seval,kR,ls,D,Ji,C,a1]
    refine⟨_,_,jJ,rfl,by rw[F,e];rfl,fun _=> ?_,I,C,rfl,rfl⟩
    simp only[qA,seval]
   ·right
    simp only[qA,seval,kR,ls,D,Ji,C,a1,a2]
    refine⟨_,_,jJ,rfl,by rw[F,e];rfl,fun _=> ?_,I,C,rfl,rfl⟩
    simp only[qA,seval]
   ·left
    simp only[qA,seval,kR,ls,D,Ji,C,a1,a2]
    refine⟨_,rfl,_,rfl,by simpa using e, ?_, ?_⟩ <;> simp only[qA,seval,D]
 ·rintro _ ⟨fr,rfl,E,D,H⟩
  have Ji:an fr 6= .i .i64 3:=H
  have J:r=true:=E
  simp only[qA,seval,ls,Ji,Int.lt_irrefl]
  exact⟨_,_,jB,rfl,by rw[F,J];rfl,fun h=>(by rw[J]at h;cases h),I,C,rfl,rfl⟩
def flS(r:List (List Nat))(i:Option Fl)(f:Fl):Int:=if Ip r f≠0 then Ip r f else if(match i with|some p=> !CD p f|none=>false)=true then 8 else 0
theorem Su(y f:Fl):(f.dp<y.dp∧CD y f=false)∨(¬f.dp<y.dp∧ ¬f.dp=y.dp∧CD y f=true)∨(¬f.dp<y.dp∧f.dp=y.dp∧CD y f=lG y.nu f.nu):=by
 unfold CD
 by_cases i:f.dp<y.dp
 ·exact .inl ⟨i,by rw[if_pos (by omega),decide_eq_false (by omega)]⟩
 ·by_cases r:f.dp=y.dp
  ·exact .inr (.inr ⟨i,r,by rw[if_neg (by simp[r])]⟩)
  ·exact .inr (.inl ⟨i,r,by rw[if_pos (by omega),decide_eq_true (by omega)]⟩)
theorem No(t:Tt)(zT aT fT:T)(hT:vq t zT aT fT)(ha:t.ap.length≤100)(hf:t.fl.length≤1000)(hN: ∀f∈t.fl,f.nu.length≤l6)(k:Nat)(hk:k<t.fl.length):
  gS pE 154 [.agg [zT,aT,fT],.i .i64 (k:Int)] []=some (.i .i64 (flS (t.ap.map Ap.cd) (oE t.fl k) t.fl[k]),[]):=by
 obtain⟨⟨zc,z1,z2⟩,⟨ac,a1,a2⟩,⟨fc,f1,f2⟩⟩:=hT
 obtain⟨rr,D⟩:=tX f1 f2 k hk
 have r:=XR t.fl[k].nu (hN _ (List.getElem_mem hk))
 have C:=Av t.fl[k].ty
 obtain⟨v1,N,E⟩:=XW t.fl[k].fr t.ap aT ac a1 a2 (by omega)
 obtain⟨v2,O,e2⟩:=XW t.fl[k].to t.ap aT ac a1 a2 (by omega)
 have Cj: ∀h0:0<k,∃r2,∀kk,sH fT (.i kk ((k-1:Nat):Int)) 9=some (.vp (.s t.fl[k-1].nu:: .s t.fl[k-1].fr:: .s t.fl[k-1].to:: .i .i64 t.fl[k-1].dp:: .i .i64 t.fl[k-1].ar:: .s t.fl[k-1].ty:: .i .i64 t.fl[k-1].n0:: .i .i64 t.fl[k-1].n1:: .i .i64 t.fl[k-1].n2::r2)):=fun h0=>tX f1 f2 (k-1) (by omega)
 have FJ: ∀h0:0<k,oE t.fl k=some t.fl[k-1]:=fun h0=>GX h0 (by omega)
 have hp0:k=0→oE t.fl k=none:=fun h=>by rw[h];rfl
 rw[gX aen (by simp[vQ])]
 unfold flS Ip
 generalize t.fl[k]=f at*
 have hL0:=fun c2 fr lh sh h5 h6 o2 o5=>axg f _ rfl _ rfl c2 fr lh sh h5 h6 o2 o5
 unfold CZ at hL0
 generalize t.ap.map Ap.cd=wb at*
 cases b1:Em f.nu with
 |false=>
  rw[b1]at r
  simp only[qA,seval,vQ,D,r,sx]
 |true=>
  rw[b1]at r
  cases b2:lQ f.ty with
  |false=>
   rw[b2]at C
   simp only[qA,seval,vQ,D,r,C,sx,tg]
  |true=>
   rw[b2]at C
   by_cases F:f.fr∈wb
   ·have J: ¬v1<0:=fun h=>(E.1 h) F
    by_cases H:f.to∈wb
    ·have K: ¬v2<0:=fun h=>(e2.1 h) H
     by_cases E:f.fr=f.to
     ·simp only[qA,seval,vQ,a1.froz,D,r,C,sx,tg,O,qC,K,H,E]
     by_cases U:f.dp<2880
     ·have I:rN f=false:=by simp[rN];omega
      simp only[qA,seval,vQ,a1.froz,D,r,C,sx,tg,N,O,qC,J,K,F,H,E,U,I]
     by_cases V:(52593120:Int)<f.ar
     ·have I:rN f=false:=by simp[rN];omega
      simp only[qA,seval,vQ,a1.froz,D,r,C,sx,tg,N,O,qC,J,K,F,H,E,U,V,I]
     by_cases W:f.ar≤f.dp
     ·have I:rN f=false:=by simp[rN];omega
      simp only[qA,seval,vQ,a1.froz,D,r,C,sx,tg,N,O,qC,J,K,F,H,E,U,V,W,I]
     have Y:wr .i64 (f.ar-f.dp)=f.ar-f.dp:=jL (by omega)
     by_cases Z:(1440:Int)<f.ar-f.dp
     ·have I:rN f=false:=by simp[rN];omega
      simp only[qA,seval,vQ,a1.froz,D,r,C,sx,tg,N,O,qC,J,K,F,H,E,U,V,W,Y,Z,I]
     have I:rN f=true:=by simp[rN];omega
     have e: [f.n0,f.n1,f.n2].all mq=(mq f.n0&&(mq f.n1&&mq f.n2)):=by simp
     have X:=fun fr lh sh h5 h6 o2 o5=>hL0 ⟨1,.cells [zT,aT,fT] 0 true⟩ fr lh sh h5 h6 o2 o5
     rw[e]at X
     cases hb:(mq f.n0&&(mq f.n1&&mq f.n2))with
     |false=>
      rw[hb]at X
      simp only[qA,seval,vQ,a1.froz,D,r,C,sx,tg,N,O,qC,J,K,F,H,E,U,V,W,Y,Z,I,X]
     |true=>
      rw[hb]at X
      by_cases Sr:k=0
      ·have hz: ¬(0:Int)<k:=by omega
       rw[hp0 Sr]
       simp only[qA,seval,vQ,xg,a1.froz,D,r,C,sx,tg,N,O,qC,J,K,F,H,E,U,V,W,Y,Z,I,X,hz]
      ·have hz:(0:Int)<k:=by omega
       have tY:=oF (k:=k) (by omega) (by omega)
       obtain⟨r2,Cj⟩:=Cj (by omega)
       rw[FJ (by omega)]
       generalize t.fl[k-1]=y at*
       rcases Su y f with⟨d1,hbe⟩|⟨d1,d2,hbe⟩|⟨d1,d2,hbe⟩
       ·simp only[hbe]
        simp only[qA,seval,vQ,xg,a1.froz,D,r,C,sx,tg,N,O,qC,J,K,F,H,E,U,V,W,Y,Z,I,X,hz,tY,Cj,d1]
       ·simp only[hbe]
        simp only[qA,seval,vQ,xg,a1.froz,D,r,C,sx,tg,N,O,qC,J,K,F,H,E,U,V,W,Y,Z,I,X,hz,tY,Cj,d1,d2]
       ·simp only[hbe]
        have hsl:=XV (s:=f.nu) (t:=y.nu)
        rw[d2]at U W Y Z d1
        cases hle:lG y.nu f.nu <;> rw[hle]at hsl <;> simp only[qA,seval,vQ,xg,a1.froz,D,r,C,sx,tg,N,O,qC,J,K,F,H,E,U,V,W,Y,Z,I,X,hz,tY,Cj,d1,d2,hsl]
    ·have K:v2<0:=e2.2 H
     simp only[qA,seval,vQ,a1.froz,D,r,C,sx,tg,N,O,qC,J,K,F,H]
   ·have J:v1<0:=E.2 F
    simp only[qA,seval,vQ,a1.froz,D,r,C,sx,tg,N,qC,J,F]
end Go.Proofs.YtblcbheipjeoeaaGreat
