/- Walks of functions of the program and of the reference, and their plain laws, part 14. Conditions: the theorems' own. -/
import Derived.Test.YtblcbheipjeoeaaGreatM13
import Derived.KernelRfl
set_option maxRecDepth 100000
set_option linter.unusedSimpArgs false
set_option linter.unusedVariables false
set_option maxHeartbeats 16000000
namespace Go.Proofs.YtblcbheipjeoeaaGreat
open Go Go.Ev
theorem itI{p:Prop}[Decidable p]{α:Type}{k:IntKind}{a b:Int}{s:α}:(if p then some (T.i k a,s)else some (T.i k b,s))=some (T.i k (if p then a else b),s):=by split <;> rfl
def Yh(k:Int×Bool)(c:List T):Prop:=c= [.i .i64 k.1,.b k.2]
theorem Yh.len(k:Int×Bool)(c:List T)(h:Yh k c):c.length=2:=by rw[h];rfl
def EA(d:List (Int×Bool))(v:T):Prop:= ∃i,g8 v d.length i∧ic Yh d i
theorem rQ{d:List (Int×Bool)}{v:T}(h:EA d v)(i:Nat)(hi:i<d.length): ∃r,∀kk,sH v (.i kk (i:Int)) 2=some (.vp (.i .i64 d[i].1:: .b d[i].2::r)):=by
 obtain⟨E,C,D⟩:=h
 obtain⟨c,r,e,h⟩:=oK (k:=2) Yh.len C D i hi
 rw[Yh]at h
 subst h
 exact⟨r,e⟩
def Cm(c:Ct)(r:List Fl)(i j:Int):Bool:=match r[i.toNat]?,r[j.toNat]? with
 |some f,some g=>Ye c f g
 |_,_=>false
theorem K0(c:Ct)(r:List Fl){i j:Nat}(hi:i<r.length)(C:j<r.length):Cm c r i j=Ye c r[i] r[j]:=by
 unfold Cm
 rw[Int.toNat_natCast,Int.toNat_natCast,List.getElem?_eq_getElem hi,List.getElem?_eq_getElem C]
theorem EB{n:Nat}{i:Int}(h:A0 n i=true): ∃k:Nat,k<n∧i=k:=by
 unfold A0 at h
 rw[decide_eq_true_eq]at h
 exact⟨i.toNat,by omega,by omega⟩
def PH(c:Ct)(i:List Fl):List (Int×Bool)→Bool
 |k::l::r=>Cm c i k.1 l.1&&PH c i (l::r)
 |_=>true
def vz(c:Ct)(i:List Fl)(d:List (Int×Bool)):Int:=
 if(d.length:Int)<1 then 5 else if(6:Int)<d.length then 5 else if d.all (fun k=>A0 i.length k.1)=true then(if PH c i d=true then 0 else 14)else 6
theorem Yi(c:Ct)(i:List Fl){d:List (Int×Bool)}{k:Nat}(r:k+1<d.length):PH c i (d.drop k)=(Cm c i d[k].1 d[k+1].1&&PH c i (d.drop (k+1))):=by
 rw[List.drop_eq_getElem_cons (by omega:k<d.length),List.drop_eq_getElem_cons r,PH]
theorem PI(c:Ct)(i:List Fl){d:List (Int×Bool)}{k:Nat}(r:k+1=d.length):PH c i (d.drop k)=true:=by
 rw[List.drop_eq_getElem_cons (by omega:k<d.length),List.drop_eq_nil_of_le (by omega),PH]
 simp
theorem Yj{α:Type}{p:α→Bool}{d:List α}{k:Nat}(i:k<d.length):(d.drop k).all p=(p d[k]&&(d.drop (k+1)).all p):=by
 rw[List.drop_eq_getElem_cons i,List.all_cons]
def oh(c:Ct)(zT aT fT a7 a8 a9 a10 hZ hU:T)(vs:List T):T:= .vp (zT::aT::fT::(iS c a7 a8 a9 a10 hZ hU++vs))
section
variable(t:Tt)(c:Ct)(zT aT fT a7 a8 a9 a10 hZ hU:T)(vs:List T)(hT:vq t zT aT fT)
theorem Yk(hT:vq t zT aT fT){i j:Int}(hi:A0 t.fl.length i=true)(D:A0 t.fl.length j=true):gS pE 49 [oh c zT aT fT a7 a8 a9 a10 hZ hU vs,.i .i64 i,.i .i64 j] []=some (.b (Cm c t.fl i j),[]):=by
 obtain⟨i,r,rfl⟩:=EB hi
 obtain⟨j,C,rfl⟩:=EB D
 obtain⟨E,F,H⟩:=hT.f
 rw[K0 c t.fl r C]
 exact ajq zT aT fT a7 a8 a9 a10 hZ hU c vs E t.fl F H i j r C
theorem axD(hT:vq t zT aT fT)(d:List (Int×Bool))(I:T)(O:EA d I)(hlen:d.length≤1000)(r:Bool)(C:r=d.all fun k=>A0 t.fl.length k.1)(o:Out)(K:o=if r=true then .ext 0 else .ret)(fr:Fr)(lh:hJ gR)(sh:List gR)
  (E:an fr 0=oh c zT aT fT a7 a8 a9 a10 hZ hU vs) (F:an fr 16=I) (D:an fr 17= .i .i64 (d.length:Int)) (H:an fr 18= .i .i64 0):
  kV 48 yw fr lh sh o∧((r=false→an (kh pE 48 yw fr lh sh) 4= .i .i64 6)∧kb pE 48 yw fr lh sh=sh):=by
 refine jo (fun k st=> ∃(fr:Fr) (lh:hJ gR),st=⟨fr,lh,sh⟩∧r=((d.drop k).all fun k=>A0 t.fl.length k.1)∧an fr 0=oh c zT aT fT a7 a8 a9 a10 hZ hU vs∧an fr 16=I∧an fr 17= .i .i64 (d.length:Int)∧an fr 18= .i .i64 (k:Int)) (fun U il V=>(r=false→an U 4= .i .i64 6)∧V=sh) o d.length ?_ ?_ fr lh sh ⟨fr,lh,rfl,C,E,F,D,H⟩
 ·rintro k _ N ⟨fr,lh,rfl,C,E,F,D,H⟩
  have W:(k:Int)<d.length:=by omega
  have X:=iG (k:=k) (by omega)
  obtain⟨rr,Y⟩:=rQ O k N
  rw[Yj N]at C
  obtain⟨Z,f1,f2⟩:=hT.f
  have J:=ajp zT aT fT (iS c a7 a8 a9 a10 hZ hU++vs) Z t.fl.length f1 d[k].1
  rw[show decide (0≤d[k].1∧d[k].1<(t.fl.length:Int))=A0 t.fl.length d[k].1 from rfl]at J
  unfold oh at*
  generalize d[k]=y at*
  cases hv:A0 t.fl.length y.1 <;> rw[hv]at J C <;> simp only[Bool.true_and,Bool.false_and]at C
  all_goals simp only[qA,seval,yw,E,F,D,H,W,X,Y,J,avL]
  all_goals first
   |exact vi ⟨by rw[K,C];rfl,fun _=>(by simp only[qA,seval]),rfl⟩
   |exact iN ⟨_,_,rfl,C,by simp only[qA,seval,E],by simp only[qA,seval,F],by simp only[qA,seval,D],by simp only[qA,seval]⟩
 ·rintro _ ⟨fr,lh,rfl,C,E,F,D,H⟩
  rw[List.drop_length]at C
  simp only[qA,seval,yw,D,H,Int.lt_irrefl]
  exact jD ⟨by rw[K,C];rfl,fun h=>(by rw[C]at h;cases h),rfl⟩
theorem axE(hT:vq t zT aT fT)(d:List (Int×Bool))(I:T)(H:EA d I)(D:1≤d.length)(hlen:d.length≤1000)(K: ∀k∈d,A0 t.fl.length k.1=true)(r:Bool)(C:r=PH c t.fl d)(o:Out)(N:o=if r=true then .ext 2 else .ret)(fr:Fr)(lh:hJ gR)(sh:List gR)
  (E:an fr 0=oh c zT aT fT a7 a8 a9 a10 hZ hU vs) (D:an fr 1=I) (F:an fr 7= .i .i64 1):
  kV 48 A6 fr lh sh o∧((r=false→an (kh pE 48 A6 fr lh sh) 4= .i .i64 14)∧kb pE 48 A6 fr lh sh=sh):=by
 refine jo (fun k st=> ∃(fr:Fr),st=⟨fr,lh,sh⟩∧r=PH c t.fl (d.drop k)∧an fr 0=oh c zT aT fT a7 a8 a9 a10 hZ hU vs∧an fr 1=I∧an fr 7= .i .i64 ((k+1:Nat):Int)) (fun U Z V=>(r=false→an U 4= .i .i64 14)∧V=sh) o (d.length-1) ?_ ?_ fr lh sh ⟨fr,rfl,C,E,D,F⟩
 ·rintro k _ hk ⟨fr,rfl,C,E,D,F⟩
  have J:((k+1:Nat):Int)<d.length:=by omega
  have W:=iG (k:=k+1) (by omega)
  have X:wr .i64 (((k+1:Nat):Int)-1)=(k:Int):=by rw[jL (by omega)];omega
  obtain⟨rr,Y⟩:=rQ H k (by omega)
  obtain⟨r2,Cj⟩:=rQ H (k+1) (by omega)
  rw[Yi c t.fl (by omega:k+1<d.length)]at C
  have O:=Yk t c zT aT fT a7 a8 a9 a10 hZ hU vs hT (K _ (List.getElem_mem (by omega:k<d.length))) (K _ (List.getElem_mem (by omega:k+1<d.length)))
  unfold oh at*
  generalize d[k]=x at*
  generalize d[k+1]=y at*
  cases hv:Cm c t.fl x.1 y.1 <;> rw[hv]at O C <;> simp only[Bool.true_and,Bool.false_and]at C
  all_goals simp only[qA,seval,iR,iy,A6,E,D,F,H.choose_spec.1.lenI,J,W,X,Y,Cj,O,avN,avO]
  all_goals first
   |exact vi ⟨by rw[N,C];rfl,fun _=>(by simp only[qA,seval]),rfl⟩
   |exact iN ⟨_,rfl,C,by simp only[qA,seval,E],by simp only[qA,seval,D],by simp only[qA,seval]⟩
 ·rintro _ ⟨fr,rfl,C,E,D,F⟩
  rw[PI c t.fl (by omega)]at C
  have J: ¬((d.length-1+1:Nat):Int)<d.length:=by omega
  simp only[qA,seval,A6,D,F,H.choose_spec.1.lenI,J]
  exact jD ⟨by rw[N,C];rfl,fun h=>(by rw[C]at h;cases h),rfl⟩
theorem ajs(hT:vq t zT aT fT)(d:List (Int×Bool))(C:T)(D:EA d C)(hlen:d.length≤1000):gS pE 53 [oh c zT aT fT a7 a8 a9 a10 hZ hU vs,C] []=some (.i .i64 (vz c t.fl d),[]):=by
 have r:=fun fr lh sh E I J K=>axD t c zT aT fT a7 a8 a9 a10 hZ hU vs hT d C D hlen _ rfl _ rfl fr lh sh E I J K
 have EC:=D.choose_spec.1.lenI
 rw[gX aot (by simp[c53])]
 unfold vz
 cases H:d.all fun k=>A0 t.fl.length k.1 <;> rw[H]at r
 ·simp only[qB,seval,c53,r,EC,itI]
 ·by_cases N:1≤d.length
  ·have L7:=fun fr lh sh E F O=>axE t c zT aT fT a7 a8 a9 a10 hZ hU vs hT d C D N hlen (List.all_eq_true.1 H) _ rfl _ rfl fr lh sh E F O
   cases U:PH c t.fl d <;> rw[U]at L7
   all_goals simp only[qB,seval,c53,TI,L7,r,EC,itI]
  ·have F:(d.length:Int)<1:=by omega
   simp only[qB,seval,c53,EC,F]
end
section
variable(t:Tt)(c:Ct)(zT aT fT a7 a8 a9 a10 hZ hU:T)(hT:vq t zT aT fT)(hC:xG c a7 a8 a9 a10 hZ hU)
theorem Yl(hT:vq t zT aT fT)(hC:xG c a7 a8 a9 a10 hZ hU){i j:Int}(hi:A0 t.fl.length i=true)(H:A0 t.fl.length j=true):gS pE 52 [.agg [zT,aT,fT],.agg (iS c a7 a8 a9 a10 hZ hU),.i .i64 i,.i .i64 j] []=some (.b (Cm c t.fl i j),[]):=by
 obtain⟨i,C,rfl⟩:=EB hi
 obtain⟨j,D,rfl⟩:=EB H
 obtain⟨⟨X,Y,Z⟩,⟨ac,b1,b2⟩,⟨fc,E,F⟩⟩:=hT
 obtain⟨⟨c7,i7,j7⟩,⟨c8,i8,j8⟩,⟨c9,i9,j9⟩,⟨vv,I,vw⟩,⟨yg,J,xH⟩,⟨yY,K,yt⟩⟩:=hC
 rw[K0 c t.fl C D]
 obtain⟨r,N⟩:=tX E F i C
 obtain⟨r',O⟩:=tX E F j D
 rw[gX ahv (by simp[c52])]
 generalize t.fl[i]=f at*
 generalize t.fl[j]=g at*
 unfold iS Ye
 simp only[qB,seval,c52,N,O]
 by_cases U:f.to=g.fr <;> by_cases V:c.cn≤wr .i64 (g.dp-f.ar) <;> by_cases W:wr .i64 (g.dp-f.ar)≤c.st <;> simp[U,V,W]
theorem axF(d:List (Int×Bool))(H:T)(I:EA d H)(hlen:d.length≤1000)(N:List T)(O:g8 fT t.fl.length N)(r:Bool)(C:r=d.all fun k=>A0 t.fl.length k.1)(o:Out)(J:o=if r=true then .ext 0 else .ret)(fr:Fr)(lh:hJ gR)(sh:List gR)
  (D:an fr 2=H) (E:an fr 3= .ptr .L 3 1 0) (F:an fr 7= .i .i64 0) (U:a6 lh 3=⟨1,.cells [zT,aT,fT] 0 true⟩):
  kV 61 wk fr lh sh o∧((r=false→an (kh pE 61 wk fr lh sh) 6= .i .i64 6)∧kH pE 61 wk fr lh sh=lh∧kb pE 61 wk fr lh sh=sh):=by
 refine jo (fun k st=> ∃(fr:Fr),st=⟨fr,lh,sh⟩∧r=((d.drop k).all fun k=>A0 t.fl.length k.1)∧an fr 2=H∧an fr 3= .ptr .L 3 1 0∧an fr 7= .i .i64 (k:Int)) (fun V W X=>(r=false→an V 6= .i .i64 6)∧W=lh∧X=sh) o d.length ?_ ?_ fr lh sh ⟨fr,rfl,C,D,E,F⟩
 ·rintro k _ K ⟨fr,rfl,C,D,E,F⟩
  have Y:(k:Int)<d.length:=by omega
  have Z:=iG (k:=k) (by omega)
  obtain⟨rr,iv⟩:=rQ I k K
  rw[Yj K]at C
  unfold A0 at C
  generalize d[k]=y at*
  simp only[qB,seval,wk,D,E,F,U,I.choose_spec.1.lenI,O.lenI,Y,Z,iv]
  repeat' (refine vh (fun _=> ?_) (fun _=> ?_))
  all_goals first
   |(rw[decide_eq_false (by omega),Bool.false_and]at C
     exact vi ⟨by rw[J,C];rfl,fun _=>(by simp only[qA,seval]),rfl,rfl⟩)
   |(rw[decide_eq_true (by omega),Bool.true_and]at C
     exact iN ⟨_,rfl,C,by simp only[qA,seval,D],by simp only[qA,seval,E],by simp only[qA,seval]⟩)
 ·rintro _ ⟨fr,rfl,C,D,E,F⟩
  rw[List.drop_length]at C
  simp only[qA,seval,wk,D,F,I.choose_spec.1.lenI,Int.lt_irrefl]
  exact jD ⟨by rw[J,C];rfl,fun h=>(by rw[C]at h;cases h),rfl,rfl⟩
theorem axG(hT:vq t zT aT fT)(hC:xG c a7 a8 a9 a10 hZ hU)(d:List (Int×Bool))(J:T)(I:EA d J)(h1:1≤d.length)(hlen:d.length≤1000)(Y: ∀k∈d,A0 t.fl.length k.1=true)(r:Bool)(C:r=PH c t.fl d)(o:Out)(Z:o=if r=true then .ext 2 else .ret)(fr:Fr)(lh:hJ gR)(sh:List gR)
  (D:an fr 2=J) (E:an fr 3= .ptr .L 3 1 0) (F:an fr 4= .ptr .L 4 1 0) (H:an fr 8= .i .i64 1) (o3:a6 lh 3=⟨1,.cells [zT,aT,fT] 0 true⟩) (o4:a6 lh 4=⟨1,.cells (iS c a7 a8 a9 a10 hZ hU) 0 true⟩):
  kV 61 A9 fr lh sh o∧((r=false→an (kh pE 61 A9 fr lh sh) 6= .i .i64 14)∧kb pE 61 A9 fr lh sh=sh):=by
 have K:=hT
 have N:=hC
 obtain⟨⟨zc,z1,z2⟩,⟨ac,b1,b2⟩,⟨fc,f1,f2⟩⟩:=K
 obtain⟨⟨c7,i7,j7⟩,⟨c8,i8,j8⟩,⟨c9,i9,j9⟩,⟨vv,O,vw⟩,⟨yg,U,xH⟩,⟨yY,V,yt⟩⟩:=N
 refine jo (fun k st=> ∃(fr:Fr),st=⟨fr,lh,sh⟩∧r=PH c t.fl (d.drop k)∧an fr 2=J∧an fr 3= .ptr .L 3 1 0∧an fr 4= .ptr .L 4 1 0∧an fr 8= .i .i64 ((k+1:Nat):Int)) (fun iq il iw=>(r=false→an iq 6= .i .i64 14)∧iw=sh) o (d.length-1) ?_ ?_ fr lh sh ⟨fr,rfl,C,D,E,F,H⟩
 ·rintro k _ hk ⟨fr,rfl,C,D,E,F,H⟩
  have W:((k+1:Nat):Int)<d.length:=by omega
  have hw:=iG (k:=k+1) (by omega)
  have tY:wr .i64 (((k+1:Nat):Int)-1)=(k:Int):=by rw[jL (by omega)];omega
  obtain⟨rr,iv⟩:=rQ I k (by omega)
  obtain⟨r2,Cj⟩:=rQ I (k+1) (by omega)
  rw[Yi c t.fl (by omega:k+1<d.length)]at C
  have X:=Yl t c zT aT fT a7 a8 a9 a10 hZ hU hT hC (Y _ (List.getElem_mem (by omega:k<d.length))) (Y _ (List.getElem_mem (by omega:k+1<d.length)))
  unfold iS at X o4
  generalize d[k]=x at*
  generalize d[k+1]=y at*
  cases hv:Cm c t.fl x.1 y.1 <;> rw[hv]at X C <;> simp only[Bool.true_and,Bool.false_and]at C
  all_goals simp only[qA,seval,iR,iy,A9,D,E,F,H,o3,o4,I.choose_spec.1.lenI,W,hw,tY,iv,Cj,X,avP,avQ,z1.froz1,b1.froz1,f1.froz1,i7.froz1,i8.froz1,i9.froz1,O.froz1,U.froz1,V.froz1]
  all_goals first
   |exact vi ⟨by rw[Z,C];rfl,fun _=>(by simp only[qA,seval]),rfl⟩
   |exact iN ⟨_,rfl,C,by simp only[qA,seval,D],by simp only[qA,seval,E],by simp only[qA,seval,F],by simp only[qA,seval]⟩
 ·rintro _ ⟨fr,rfl,C,D,E,F,H⟩
  rw[PI c t.fl (by omega)]at C
  have W: ¬((d.length-1+1:Nat):Int)<d.length:=by omega
  simp only[qA,seval,A9,D,H,I.choose_spec.1.lenI,W]
  exact jD ⟨by rw[Z,C];rfl,fun h=>(by rw[C]at h;cases h),rfl⟩
theorem acO(hT:vq t zT aT fT)(hC:xG c a7 a8 a9 a10 hZ hU)(d:List (Int×Bool))(C:T)(D:EA d C)(hlen:d.length≤1000):gS pE 98 [.agg [zT,aT,fT],.agg (iS c a7 a8 a9 a10 hZ hU),C] []=some (.i .i64 (vz c t.fl d),[]):=by
 have EC:=D.choose_spec.1.lenI
 have E:=hT
 have F:=hC
 obtain⟨⟨zc,z1,z2⟩,⟨ac,b1,b2⟩,⟨N,O,f2⟩⟩:=E
 obtain⟨⟨c7,i7,j7⟩,⟨c8,i8,j8⟩,⟨c9,i9,j9⟩,⟨vv,U,vw⟩,⟨yg,V,xH⟩,⟨yY,W,yt⟩⟩:=F
 have r:=fun fr lh sh H I X J=>axF t zT aT fT d C D hlen N O _ rfl _ rfl fr lh sh H I X J
 rw[gX aoP (by simp[c98])]
 unfold vz
 cases K:d.all fun k=>A0 t.fl.length k.1 <;> rw[K]at r
 ·unfold iS
  simp only[qB,seval,c98,r,EC,itI]
 ·by_cases Y:1≤d.length
  ·have L7:=fun fr lh sh H I Z h8 J o4=>axG t c zT aT fT a7 a8 a9 a10 hZ hU hT hC d C D Y hlen (List.all_eq_true.1 K) _ rfl _ rfl fr lh sh H I Z h8 J o4
   unfold iS at L7 ⊢
   cases hc:PH c t.fl d <;> rw[hc]at L7
   all_goals simp only[qB,seval,c98,TO,L7,r,EC,itI]
  ·have oP:(d.length:Int)<1:=by omega
   unfold iS
   simp only[qB,seval,c98,EC,oP]
end
section
variable(c:Ct)(a7 a8 a9 a10 hZ hU:T)(hT:xG c a7 a8 a9 a10 hZ hU)(ED:pw c=false∨sU c=false)
include hT ED
theorem ajt:gS pE 142 [.agg (iS c a7 a8 a9 a10 hZ hU)] []=some (.i .i64 (mz c),[]):=by
 obtain⟨⟨I,E,J⟩,⟨K,F,N⟩,⟨O,H,U⟩,⟨V,r,W⟩,⟨X,C,Y⟩,⟨Z,D,yt⟩⟩:=hT
 unfold iS
 rw[gX U6 (by simp[qp])]
 unfold mz
 unfold pw sU at ED ⊢
 have w:=fun n lo hi=>qM (mL n lo hi)
 simp(maxDischargeDepth:=6) only[qB,seval,qp,E.lenI,F.lenI,H.lenI,r.lenI,C.lenI,D.lenI,w,lX]
 clear w
 grind (splits:=40)
theorem aju:gS pE 155 [.agg (iS c a7 a8 a9 a10 hZ hU)] []=some (.i .i64 (mz c),[]):=by
 obtain⟨⟨I,E,J⟩,⟨K,F,N⟩,⟨O,H,U⟩,⟨V,r,W⟩,⟨X,C,Y⟩,⟨Z,D,yt⟩⟩:=hT
 unfold iS
 rw[gX Va (by simp[Mn])]
 unfold mz
 unfold pw sU at ED ⊢
 have w:=fun n lo hi=>qM (sW n lo hi)
 simp(maxDischargeDepth:=6) only[qB,seval,Mn,E.lenI,F.lenI,H.lenI,r.lenI,C.lenI,D.lenI,w,Gm]
 clear w
 grind (splits:=40)
theorem AM:mz c≠0:=by
 have _:=hT
 unfold mz
 by_cases h:pw c=false
 ·rw[if_pos h];decide
 ·rw[if_neg h,if_pos (ED.resolve_left h)];decide
theorem EE:my c=mz c:=by
 unfold my;rw[if_pos (AM c a7 a8 a9 a10 hZ hU hT ED)]
theorem agA: ∃s,gS pE 87 [.agg (iS c a7 a8 a9 a10 hZ hU)] []=some (.i .i64 (my c),s):=by
 have EF:=ajt c a7 a8 a9 a10 hZ hU hT ED
 have E:=AM c a7 a8 a9 a10 hZ hU hT ED
 rw[EE c a7 a8 a9 a10 hZ hU hT ED]
 obtain⟨⟨J,F,K⟩,⟨N,H,O⟩,⟨U,I,V⟩,⟨W,r,X⟩,⟨Y,C,Z⟩,⟨yY,D,yt⟩⟩:=hT
 unfold iS at EF ⊢
 rw[gX ahE (by simp[Tk])]
 generalize mz c=e at*
 simp only[qA,seval,Tk,F.froz1,H.froz1,I.froz1,r.froz1,C.froz1,D.froz1,EF,Dq,E]
 exact⟨_,rfl⟩
theorem PJ:gS pE 93 [.agg (iS c a7 a8 a9 a10 hZ hU)] []=some (.i .i64 (my c),[]):=by
 have EF:=aju c a7 a8 a9 a10 hZ hU hT ED
 have E:=AM c a7 a8 a9 a10 hZ hU hT ED
 rw[EE c a7 a8 a9 a10 hZ hU hT ED]
 obtain⟨⟨J,F,K⟩,⟨N,H,O⟩,⟨U,I,V⟩,⟨W,r,X⟩,⟨Y,C,Z⟩,⟨yY,D,yt⟩⟩:=hT
 unfold iS at EF ⊢
 rw[gX ahH (by simp[Tl])]
 generalize mz c=e at*
 simp only[qA,seval,Tl,F.froz1,H.froz1,I.froz1,r.froz1,C.froz1,D.froz1,EF,Dr,E]
end
structure CtN (c:Ct):Prop where
 n7:Ym c.cs
 n8: ∀u∈c.ru,Mc u.x
 n9: ∀u∈c.co,Mc u.x
 n10: ∀x∈c.cr,Mc x
theorem CtN.sm{c:Ct}(h:CtN c)(hs:sU c=true):AK c:=by
 unfold sU at hs
 simp only[Bool.and_eq_true,decide_eq_true_eq]at hs
 obtain⟨i,r,C,D,E,F⟩:=hs
 exact⟨⟨h.n7,ku (by omega)⟩,⟨h.n8,ku (by omega)⟩,⟨h.n9,ku (by omega)⟩,⟨h.n10,ku (by omega)⟩,ku (by omega),ku (by omega)⟩
def nq(t:Tt)(c:Ct):Int:=if tq t≠0 then tq t else my c
def flG(l:List Fl)(i:Int):Fl:=(l[i.toNat]?).getD ⟨[],[],[],0,0,[],0,0,0⟩
theorem ajv{l:List Fl}{i:Nat}(h:i<l.length):flG l i=l[i]:=by
 unfold flG;rw[Int.toNat_natCast,List.getElem?_eq_getElem h];rfl
theorem wQ(c:Ct)(zT aT fT a7 a8 a9 a10 hZ hU:T)(vs:List T):froz (oh c zT aT fT a7 a8 a9 a10 hZ hU vs)=true:=nr rfl
section
variable(t:Tt)(c:Ct)(zT aT fT a7 a8 a9 a10 hZ hU:T)(hT:vq t zT aT fT)(hC:xG c a7 a8 a9 a10 hZ hU)(hN:CtN c)
theorem Yn(hT:vq t zT aT fT)(hC:xG c a7 a8 a9 a10 hZ hU):(froz1 zT=true∧froz1 aT=true∧froz1 fT=true∧froz1 a7=true∧froz1 a8=true∧froz1 a9=true∧froz1 a10=true∧froz1 hZ=true∧froz1 hU=true)∧cellsOf zT= [zT]∧cellsOf aT= [aT]∧cellsOf fT= [fT]∧cellsOf a7= [a7]∧cellsOf a8= [a8]∧cellsOf a9= [a9]∧cellsOf a10= [a10]∧cellsOf hZ= [hZ]∧cellsOf hU= [hU]:=by
 obtain⟨⟨_,D,_⟩,⟨_,E,_⟩,⟨_,F,_⟩⟩:=hT
 obtain⟨⟨_,H,_⟩,⟨_,I,_⟩,⟨_,J,_⟩,⟨_,i,_⟩,⟨_,r,_⟩,⟨_,C,_⟩⟩:=hC
 exact⟨⟨D.froz1,E.froz1,F.froz1,H.froz1,I.froz1,J.froz1,i.froz1,r.froz1,C.froz1⟩,D.cells,E.cells,F.cells,H.cells,I.cells,J.cells,i.cells,r.cells,C.cells⟩
include hC hN
theorem asf: ∃s,gS pE 87 [.agg (iS c a7 a8 a9 a10 hZ hU)] []=some (.i .i64 (my c),s):=by
 by_cases r:pw c=false
 ·exact agA c a7 a8 a9 a10 hZ hU hC (.inl r)
 ·by_cases hs:sU c=false
  ·exact agA c a7 a8 a9 a10 hZ hU hC (.inr hs)
  ·exact PD c a7 a8 a9 a10 hZ hU hC (hN.sm (by simpa using hs))
theorem acP:gS pE 93 [.agg (iS c a7 a8 a9 a10 hZ hU)] []=some (.i .i64 (my c),[]):=by
 by_cases r:pw c=false
 ·exact PJ c a7 a8 a9 a10 hZ hU hC (.inl r)
 ·by_cases hs:sU c=false
  ·exact PJ c a7 a8 a9 a10 hZ hU hC (.inr hs)
  ·exact Sx c a7 a8 a9 a10 hZ hU hC (hN.sm (by simpa using hs))
omit hN in
theorem G3(h:my c=0):sU c=true:=by
 cases hs:sU c with
 |true=>rfl
 |false=>
  exfalso
  rw[EE c a7 a8 a9 a10 hZ hU hC (.inr hs)]at h
  exact AM c a7 a8 a9 a10 hZ hU hC (.inr hs) h
include hT
theorem asg(h:nq t c=0): ∃s vs,gS pE 42 [.agg [zT,aT,fT],.agg (iS c a7 a8 a9 a10 hZ hU)] []=some (.tup [oh c zT aT fT a7 a8 a9 a10 hZ hU vs,.i .i64 0],s)∧Ix t c vs:=by
 unfold nq at h
 by_cases r:tq t=0
 ·rw[if_neg (by simp[r])]at h
  obtain⟨s,vs,C,_,_,D⟩:=ajo t c zT aT fT a7 a8 a9 a10 hZ hU hT hC (hN.sm (G3 c a7 a8 a9 a10 hZ hU hC h)) r h
  exact⟨s,vs,C,D⟩
 ·rw[if_pos r]at h;exact absurd h r
theorem ash(h:nq t c≠0): ∃s,gS pE 42 [.agg [zT,aT,fT],.agg (iS c a7 a8 a9 a10 hZ hU)] []=some (.tup [.nilptr,.i .i64 (nq t c)],s):=by
 unfold nq at h ⊢
 by_cases C:tq t=0
 ·rw[if_neg (by simp[C])]at h ⊢
  have ZW:=Nm t zT aT fT hT
  obtain⟨U,r⟩:=asf c a7 a8 a9 a10 hZ hU hC hN
  rw[C]at ZW
  obtain⟨⟨V,H,W⟩,⟨ac,I,X⟩,⟨Y,J,Z⟩⟩:=hT
  obtain⟨⟨_,K,_⟩,⟨_,N,_⟩,⟨_,O,_⟩,⟨_,D,_⟩,⟨_,E,_⟩,⟨_,F,_⟩⟩:=hC
  rw[gX aaq (by simp[c42])]
  unfold iS at r ⊢
  simp only[qA,seval,c42,ZW,r,h,ahD,aoI,H.froz1,I.froz1,J.froz1,K.froz1,N.froz1,O.froz1,D.froz1,E.froz1,F.froz1]
  exact⟨_,rfl⟩
 ·rw[if_pos C]
  exact acM t c zT aT fT a7 a8 a9 a10 hZ hU hT hC C
theorem acQ(F: ∀f∈t.fl,f.nu.length≤l6):gS pE 45 [.agg [zT,aT,fT],.agg (iS c a7 a8 a9 a10 hZ hU)] []=some (.i .i64 (nq t c),[]):=by
 have H:=ajd t zT aT fT hT F
 have E:=acP c a7 a8 a9 a10 hZ hU hC hN
 obtain⟨⟨W,I,X⟩,⟨ac,J,Y⟩,⟨Z,K,f2⟩⟩:=hT
 obtain⟨⟨_,N,_⟩,⟨_,O,_⟩,⟨_,U,_⟩,⟨_,r,_⟩,⟨_,C,_⟩,⟨_,D,_⟩⟩:=hC
 unfold nq
 rw[gX aos (by simp[c45])]
 unfold iS at E ⊢
 by_cases V:tq t=0
 all_goals simp only[qA,seval,c45,H,E,V,av4,av5,I.froz1,J.froz1,K.froz1,N.froz1,O.froz1,U.froz1,r.froz1,C.froz1,D.froz1]
theorem Nz(h:nq t c=0):tq t=0∧my c=0:=by
 have _:=hC;have _:=hN;have _:=hT
 unfold nq at h
 by_cases i:tq t=0
 ·rw[if_neg (by simp[i])]at h;exact⟨i,h⟩
 ·rw[if_pos i]at h;exact absurd h i
theorem acR(F: ∀f∈t.fl,f.nu.length≤l6)(d:List (Int×Bool))(r:T)(E:EA d r)(hlen:d.length≤1000):gS pE 54 [.agg [zT,aT,fT],.agg (iS c a7 a8 a9 a10 hZ hU),r] []=some (.i .i64 (if nq t c≠0 then nq t c else vz c t.fl d),[]):=by
 have hz:=Yn t c zT aT fT a7 a8 a9 a10 hZ hU hT hC
 have C:=acQ t c zT aT fT a7 a8 a9 a10 hZ hU hT hC hN F
 have H:=acO t c zT aT fT a7 a8 a9 a10 hZ hU hT hC d r E hlen
 have D:=E.choose_spec.1.froz
 rw[gX aou (by simp[c54])]
 unfold iS at*
 by_cases h:nq t c=0
 all_goals simp only[qA,seval,c54,C,avM,H,av6,h,hz,D]
end
theorem NA(a:Int):a.tdiv 1440=if a.tmod 1440<0 then a/1440+1 else a/1440:=by
 have C:=Int.tmod_def a 1440
 have i:=Int.tdiv_eq_ediv (a:=a) (b:=1440)
 have r:(1440:Int).sign=1:=rfl
 rw[r]at i
 split at i <;> split <;> omega
theorem ajw(a:Int):a.tmod 1440=if a.tmod 1440<0 then a%1440-1440 else a%1440:=by
 have r:=Int.tmod_def a 1440
 have i:=NA a
 by_cases h:a.tmod 1440<0
 ·rw[if_pos h]at i;rw[if_pos h];rw[i]at r;omega
 ·rw[if_neg h]at i;rw[if_neg h];rw[i]at r;omega
def Cp(a:Int):Prop:= -100000000≤a∧a≤100000000
theorem BI(a:Int)(E:Cp a):gS pE 254 [.i .i64 a] []=some (.tup [.i .i64 (a/1440),.i .i64 (a%1440)],[]):=by
 obtain⟨I,J⟩:=E
 have C:=NA a
 have r:=ajw a
 rw[gX afc (by simp[QY])]
 by_cases h:a.tmod 1440<0
 ·rw[if_pos h]at C r
  rw[r]at h
  have D:wr .i64 (a/1440+1)=a/1440+1:=jL (by omega)
  have F:wr .i64 (a/1440+1-1)=a/1440:=by rw[jL (by omega)];omega
  have H:wr .i64 (a%1440-1440+1440)=a%1440:=by rw[jL (by omega)];omega
  simp only[qA,seval,QY,C,r,D,h,F,H]
 ·rw[if_neg h]at C r
  rw[r]at h
  have D:wr .i64 (a/1440)=a/1440:=jL (by omega)
  simp only[qA,seval,QY,C,r,D,h]
theorem Sy(a:Int)(D:Cp a):gS pE 256 [.i .i64 a,.i .i64 1440] []=some (.i .i64 (a/1440),[]):=by
 obtain⟨F,H⟩:=D
 have r:=NA a
 rw[gX aff (by simp[QZ])]
 by_cases h:a.tmod 1440<0
 ·have I:=h
  rw[if_pos h]at r
  have C:wr .i64 (a/1440+1)=a/1440+1:=jL (by omega)
  have E:wr .i64 (a/1440+1-1)=a/1440:=by rw[jL (by omega)];omega
  simp only[qA,seval,QZ,r,C,h,E]
 ·rw[if_neg h]at r
  have C:wr .i64 (a/1440)=a/1440:=jL (by omega)
  simp only[qA,seval,QZ,r,C,h]
theorem BJ(a:Int)(r:Cp a):gS pE 187 [.i .i64 a] []=some (.tup [.i .i64 (a/1440),.i .i64 (a%1440)],[]):=by
 have C:=Sy a r
 obtain⟨F,H⟩:=r
 have D:wr .i64 (1440*(a/1440))=1440*(a/1440):=jL (by omega)
 have E:wr .i64 (a-1440*(a/1440))=a%1440:=by rw[jL (by omega)];omega
 rw[gX aeG (by simp[Ug])]
 simp only[qA,seval,Ug,C,apJ,D,E]
def vA(o:Int):List (Int×Int)→Int→Int
 | [],_=>o
 |s::r,t=>if s.1≤t then vA s.2 r t else o
def CF(o:Int):List (Int×Int)→Int→Int
 | [],_=>o
 |s::r,t=>CF (if s.1≤t then s.2 else o) r t
theorem EG{p:Option Int}{s:Int×Int}{r:List (Int×Int)}(h:EH p (s::r)=0):rR s.1=true∧se s.2=true∧(∀q,p=some q→q<s.1)∧EH (some s.1) r=0:=by
 unfold EH at h
 by_cases i:(rR s.1&&se s.2)=false
 ·rw[if_pos i]at h;exact absurd h (by decide)
 ·rw[if_neg i]at h
  simp only[Bool.not_eq_false,Bool.and_eq_true]at i
  refine⟨i.1,i.2, ?_⟩
  cases p with
  |none=>exact⟨by simp,by simpa using h⟩
  |some q=>
   by_cases C:s.1≤q
   ·simp[C]at h
   ·simp only[C,decide_false,Bool.false_eq_true,if_false]at h
    exact⟨fun D e=>by cases e;omega,h⟩
theorem G5: ∀(l:List (Int×Int)) (p o t:Int),EH (some p) l=0→t<p→CF o l t=o
 | [],p,o,t,h,i=>rfl
 |s::r,p,o,t,h,i=>by
  obtain⟨_,_,C,D⟩:=EG h
  have:=C p rfl
  rw[CF,if_neg (by omega)]
  exact G5 r s.1 o t D (by omega)
theorem Yo: ∀(l:List (Int×Int)) (p:Option Int) (o t:Int),EH p l=0→CF o l t=vA o l t
 | [],p,o,t,h=>rfl
 |s::r,p,o,t,h=>by
  obtain⟨_,_,_,i⟩:=EG h
  rw[CF,vA]
  by_cases hs:s.1≤t
  ·rw[if_pos hs,if_pos hs];exact Yo r _ _ _ i
  ·rw[if_neg hs,if_neg hs];exact G5 r _ _ _ i (by omega)
theorem C7: ∀{l:List (Int×Int)} {p:Option Int},EH p l=0→ ∀s∈l,rR s.1=true∧se s.2=true
 |a::r,p,h,s,hs=>by
  obtain⟨i,C,_,D⟩:=EG h
  rcases List.mem_cons.1 hs with rfl|hs
  ·exact⟨i,C⟩
  ·exact C7 D s hs
theorem Yp: ∀{l:List (Int×Int)} {o t:Int},se o=true→(∀s∈l,se s.2=true)→se (vA o l t)=true
 | [],o,t,h,_=>h
 |s::r,o,t,h,i=>by
  rw[vA]
  split
  ·exact Yp (i s (by simp)) fun x C=>i x (by simp[C])
  ·exact h
def Zo.off(z:Zo)(t:Int):Int:=vA z.o z.sh t
theorem nU{z:Zo}(h:mf z=0):se z.o=true∧z.sh.length≤16∧EH none z.sh=0:=by
 unfold mf at h
 split at h
 ·cases h
 ·split at h
  ·cases h
  ·rename_i i
   split at h
   ·cases h
   ·exact⟨by simpa using i,by omega,h⟩
theorem Zo.off_bd{z:Zo}(h:mf z=0)(t:Int): -840≤z.off t∧z.off t≤840:=by
 obtain⟨i,_,r⟩:=nU h
 have:=Yp (t:=t) i fun s hs=>(C7 r s hs).2
 unfold se at this
 simpa[Zo.off]using this
def sf(z:Zo)(a:T):List T:= [.s z.nm,.i .i64 z.o,a]
def ZoT(z:Zo)(a:T):Prop:= ∃i,g8 a z.sh.length i∧ic Sz z.sh i
section
variable(z:Zo)(a:T)(hz:ZoT z a)(hlen:z.sh.length≤16)
include hz hlen
theorem axI(t:Int)(fr:Fr)(lh:hJ gR)(sh:List gR)(F:an fr 1= .i .i64 t)(H:an fr 5= .i .i64 z.o)(D:an fr 11=a)(C:an fr 12= .i .i64 (z.sh.length:Int))(I:an fr 13= .i .i64 0):
  kV 25 xm fr lh sh (.ext 0)∧
  (an (kh pE 25 xm fr lh sh) 5= .i .i64 (vA z.o z.sh t)∧kb pE 25 xm fr lh sh=sh):=by
 obtain⟨Y,K,N⟩:=hz
 refine jo (fun k st=> ∃(fr:Fr) (lh:hJ gR) (o:Int),st=⟨fr,lh,sh⟩∧an fr 1= .i .i64 t∧an fr 5= .i .i64 o∧an fr 11=a∧an fr 12= .i .i64 (z.sh.length:Int)∧an fr 13= .i .i64 (k:Int)∧vA o (z.sh.drop k) t=vA z.o z.sh t)
  (fun O Z U=>an O 5= .i .i64 (vA z.o z.sh t)∧U=sh) _ z.sh.length ?_ ?_ fr lh sh ⟨fr,lh,z.o,rfl,F,H,D,C,I,rfl⟩
 ·rintro k _ J ⟨fr,lh,o,rfl,F,H,D,C,I,E⟩
  have V:(k:Int)<z.sh.length:=by omega
  have W:=iG (k:=k) (by omega)
  obtain⟨rr,X⟩:=EI K N J
  rw[List.drop_eq_getElem_cons J,vA]at E
  generalize z.sh[k]=s at*
  generalize vA z.o z.sh t=r at*
  simp only[qB,seval,xm,F,D,C,I,V,X,W]
  refine vh (fun h=> ?_) (fun h=> ?_)
  ·rw[if_neg (by omega)]at E
   exact jD ⟨rfl,by simp only[qA,seval,H,E],rfl⟩
  ·rw[if_pos (by omega)]at E
   exact iN ⟨_,_,s.2,rfl,by simp only[qA,seval,F],by simp only[qA,seval],by simp only[qA,seval,D],by simp only[qA,seval,C],by simp only[qA,seval],E⟩
 ·rintro _ ⟨fr,lh,o,rfl,F,H,D,C,I,E⟩
  rw[List.drop_length,vA]at E
  simp only[qA,seval,xm,C,I,Int.lt_irrefl]
  exact jD ⟨rfl,by simp only[qA,seval,H,E],rfl⟩
theorem SA(t:Int):gS pE 252 [.agg (sf z a),.i .i64 t] []=some (.i .i64 (z.off t),[]):=by
 have D:=fun fr lh sh E F r C H=>axI z a hz hlen t fr lh sh E F r C H
 obtain⟨J,I,K⟩:=hz
 unfold Zo.off sf
 rw[gX afa (by simp[Uz])]
 simp only[qA,seval,Uz,I.lenI,D]
theorem axJ(t:Int)(fr:Fr)(lh:hJ gR)(sh:List gR)(E:an fr 1= .i .i64 t)(D:an fr 2= .ptr .L 2 1 0)(F:an fr 5= .i .i64 z.o)(H:an fr 6= .i .i64 0)(I:a6 lh 2=⟨1,.cells (sf z a) 0 true⟩):
  kV 31 xe fr lh sh (.ext 0)∧
  (an (kh pE 31 xe fr lh sh) 5= .i .i64 (CF z.o z.sh t)∧kb pE 31 xe fr lh sh=sh):=by
 obtain⟨Y,J,N⟩:=hz
 unfold sf at I
 refine jo (fun k st=> ∃(fr:Fr) (o:Int),st=⟨fr,lh,sh⟩∧an fr 1= .i .i64 t∧an fr 2= .ptr .L 2 1 0∧an fr 5= .i .i64 o∧an fr 6= .i .i64 (k:Int)∧CF o (z.sh.drop k) t=CF z.o z.sh t)
  (fun O Z U=>an O 5= .i .i64 (CF z.o z.sh t)∧U=sh) _ z.sh.length ?_ ?_ fr lh sh ⟨fr,z.o,rfl,E,D,F,H,rfl⟩
 ·rintro k _ K ⟨fr,o,rfl,E,D,F,H,C⟩
  have V:(k:Int)<z.sh.length:=by omega
  have W:=iG (k:=k) (by omega)
  obtain⟨rr,X⟩:=EI J N K
  rw[List.drop_eq_getElem_cons K,CF]at C
  generalize z.sh[k]=s at*
  generalize CF z.o z.sh t=r at*
  simp only[qB,seval,xe,E,D,H,I,J.lenI,V,X,W]
  refine vh (fun h=> ?_) (fun h=> ?_)
  ·rw[if_pos h]at C
   exact iN ⟨_,s.2,rfl,by simp only[qA,seval,E],by simp only[qA,seval,D],by simp only[qA,seval],by simp only[qA,seval],C⟩
  ·rw[if_neg h]at C
   exact iN ⟨_,o,rfl,by simp only[qA,seval,E],by simp only[qA,seval,D],by simp only[qA,seval,F],by simp only[qA,seval],C⟩
 ·rintro _ ⟨fr,o,rfl,E,D,F,H,C⟩
  rw[List.drop_length,CF]at C
  simp only[qA,seval,xe,D,H,I,J.lenI,Int.lt_irrefl]
  exact jD ⟨rfl,by simp only[qA,seval,F,C],rfl⟩
theorem vB(hv:mf z=0)(t:Int):gS pE 117 [.agg (sf z a),.i .i64 t] []=some (.i .i64 (z.off t),[]):=by
 have r:=fun fr lh sh C D E F H=>axJ z a hz hlen t fr lh sh C D E F H
 obtain⟨I,J,K⟩:=hz
 rw[Yo _ _ _ _ (nU hv).2.2]at r
 unfold Zo.off
 unfold sf at r ⊢
 rw[gX U1 (by simp[TW])]
 simp only[qA,seval,TW,r]
end
section
variable(z:Zo)(a:T)(hz:ZoT z a)(hv:mf z=0)
include hz hv
theorem yZ(t:Int)(F:rR t=true):gS pE 183 [.agg (sf z a),.i .i64 t] []=some (.tup [.i .i64 (z.off t),.i .i64 0],[]):=by
 have r:=SA z a hz (nU hv).2.1 t
 obtain⟨H,C,I⟩:=hz
 have D:=En z a H C I
 have E:=PK t
 rw[hv]at D
 rw[F]at E
 unfold sf at r ⊢
 rw[gX aeB (by simp[Uc])]
 simp only[qA,seval,Uc,r,D,E,C.froz1,apG,JF,Gk]
theorem SC(t:Int)(F:rR t=true):gS pE 284 [.agg (sf z a),.i .i64 t] []=some (.tup [.i .i64 (z.off t),.i .i64 0],[]):=by
 have r:=vB z a hz (nU hv).2.1 hv t
 obtain⟨H,C,I⟩:=hz
 have D:=Eo z a H C I
 have E:=PL t
 rw[hv]at D
 rw[F]at E
 unfold sf at r ⊢
 rw[gX afB (by simp[UM])]
 simp only[qA,seval,UM,r,D,E,C.froz1,JE,JH,Gl]
theorem NB(t:Int)(i:rR t=true):wr .i64 (t+z.off t)=t+z.off t∧Cp (t+z.off t):=by
 have _:=hz
 have r:=Zo.off_bd hv t
 unfold rR at i
 simp only[Bool.and_eq_true,decide_eq_true_eq]at i
 exact⟨jL (by omega),by unfold Cp;omega⟩
def Zo.day(z:Zo)(t:Int):Int:=(t+z.off t)/1440
def Zo.clk(z:Zo)(t:Int):Int:=(t+z.off t)%1440
theorem K1(t:Int)(r:rR t=true):gS pE 184 [.agg (sf z a),.i .i64 t] []=some (.tup [.i .i64 (z.day t),.i .i64 (z.clk t),.i .i64 0],[]):=by
 have C:=yZ z a hz hv t r
 obtain⟨w,n⟩:=NB z a hz hv t r
 have F:=BI _ n
 obtain⟨H,D,I⟩:=hz
 have E:gS pE 253 [.agg (sf z a),.i .i64 t] []=some (.tup [.i .i64 (t+z.off t),.i .i64 0],[]):=by
  unfold sf at C ⊢
  rw[gX afb (by simp[UA])]
  simp only[qA,seval,UA,C,w,D.froz1,Vl]
 unfold Zo.day Zo.clk
 generalize t+z.off t=m at*
 unfold sf at E ⊢
 rw[gX aeC (by simp[Ud])]
 simp only[qA,seval,Ud,E,F,D.froz1,apH,afd]
theorem Yq(t:Int)(r:rR t=true):gS pE 189 [.agg (sf z a),.i .i64 t] []=some (.tup [.i .i64 (z.day t),.i .i64 (z.clk t),.i .i64 0],[]):=by
 have C:=SC z a hz hv t r
 obtain⟨w,n⟩:=NB z a hz hv t r
 have F:=BJ _ n
 obtain⟨H,D,I⟩:=hz
 have E:gS pE 257 [.agg (sf z a),.i .i64 t] []=some (.tup [.i .i64 (t+z.off t),.i .i64 0],[]):=by
  unfold sf at C ⊢
  rw[gX afg (by simp[UC])]
  simp only[qA,seval,UC,C,w,D.froz1,apR]
 unfold Zo.day Zo.clk
 generalize t+z.off t=m at*
 unfold sf at E ⊢
 rw[gX aeH (by simp[Uh])]
 simp only[qA,seval,Uh,E,F,D.froz1,apK,OB]
end
end Go.Proofs.YtblcbheipjeoeaaGreat
