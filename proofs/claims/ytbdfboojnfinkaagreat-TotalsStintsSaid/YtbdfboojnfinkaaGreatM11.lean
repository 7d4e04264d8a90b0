/- Walks of functions of the program and of the reference, and their plain laws, part 11. Conditions: the theorems' own. -/
import Derived.Test.YtbdfboojnfinkaaGreatM10
import Derived.KernelRfl
set_option maxRecDepth 100000
set_option linter.unusedSimpArgs false
set_option linter.unusedVariables false
set_option maxHeartbeats 16000000
namespace Go.Proofs.YtbdfboojnfinkaaGreat
open Go Go.Ev
theorem itI{p:Prop}[Decidable p]{α:Type}{k:IntKind}{a b:Int}{s:α}:(if p then some (T.i k a,s)else some (T.i k b,s))=some (T.i k (if p then a else b),s):=by split <;> rfl
def TkR(k:Int×Bool)(c:List T):Prop:=c= [.i .i64 k.1,.b k.2]
theorem TkR.len(k:Int×Bool)(c:List T)(h:TkR k c):c.length=2:=by rw[h];rfl
def CJ(d:List (Int×Bool))(v:T):Prop:= ∃h,IsSl v d.length h∧iB TkR d h
theorem rh{d:List (Int×Bool)}{v:T}(h:CJ d v)(i:Nat)(hi:i<d.length): ∃r,∀kk,pv v (.i kk (i:Int)) 2=some (.vp (.i .i64 d[i].1:: .b d[i].2::r)):=by
 obtain⟨F,D,E⟩:=h
 obtain⟨c,r,e,h⟩:=oa (k:=2) TkR.len D E i hi
 simp_all[TkR]
def yi(c:Ct)(h:List Fl)(i j:Int):Bool:=match h[i.toNat]?,h[j.toNat]? with
 |some f,some g=>UW c f g
 |_,_=>false
theorem I6(c:Ct)(h:List Fl){i j:Nat}(hi:i<h.length)(D:j<h.length):yi c h i j=UW c h[i] h[j]:=by
 grind [yi]
theorem CM{n:Nat}{i:Int}(h:yh n i=true): ∃k:Nat,k<n∧i=k:=by
 unfold yh at h
 rw[decide_eq_true_eq]at h
 exact⟨i.toNat,by omega,by omega⟩
def M5(c:Ct)(h:List Fl):List (Int×Bool)→Bool
 |k::l::r=>yi c h k.1 l.1&&M5 c h (l::r)
 |_=>true
def sn(c:Ct)(h:List Fl)(d:List (Int×Bool)):Int:=
 if(d.length:Int)<1 then 5 else if(6:Int)<d.length then 5 else if d.all (fun k=>yh h.length k.1)=true then(if M5 c h d=true then 0 else 14)else 6
theorem UZ(c:Ct)(h:List Fl){d:List (Int×Bool)}{k:Nat}(D:k+1<d.length):M5 c h (d.drop k)=(yi c h d[k].1 d[k+1].1&&M5 c h (d.drop (k+1))):=by
 grind [List.drop_eq_getElem_cons,M5]
theorem M6(c:Ct)(h:List Fl){d:List (Int×Bool)}{k:Nat}(D:k+1=d.length):M5 c h (d.drop k)=true:=by
 rw[List.drop_eq_getElem_cons (by omega:k<d.length),List.drop_eq_nil_of_le (by omega),M5]
 simp
theorem U0{α:Type}{p:α→Bool}{d:List α}{k:Nat}(h:k<d.length):(d.drop k).all p=(p d[k]&&(d.drop (k+1)).all p):=by
 rw[List.drop_eq_getElem_cons h,List.all_cons]
def pg(c:Ct)(zT aT fT a7 a8 a9 iv iw iy:T)(vs:List T):T:= .vp (zT::aT::fT::(jf c a7 a8 a9 iv iw iy++vs))
section
variable(t:Tt)(c:Ct)(zT aT fT a7 a8 a9 iv iw iy:T)(vs:List T)(hT:sI t zT aT fT)
theorem U1(hT:sI t zT aT fT){i j:Int}(hi:yh t.fl.length i=true)(E:yh t.fl.length j=true):hZ pE 35 [pg c zT aT fT a7 a8 a9 iv iw iy vs,.i .i64 i,.i .i64 j] []=some (.b (yi c t.fl i j),[]):=by
 obtain⟨i,h,rfl⟩:=CM hi
 obtain⟨j,D,rfl⟩:=CM E
 obtain⟨F,H,I⟩:=hT.f
 rw[I6 c t.fl h D]
 exact afI zT aT fT a7 a8 a9 iv iw iy c vs F t.fl H I i j h D
theorem avb(hT:sI t zT aT fT)(d:List (Int×Bool))(H:T)(K:CJ d H)(hlen:d.length≤1000)(r:Bool)(h:r=d.all fun k=>yh t.fl.length k.1)(o:Out)(N:o=if r=true then .ext 0 else .ret)(fr:Fr)(lh:iz ib)(sh:List ib)
  (D:an fr 0=pg c zT aT fT a7 a8 a9 iv iw iy vs) (E:an fr 16=H) (CN:an fr 17= .i .i64 (d.length:Int)) (F:an fr 18= .i .i64 0):
  rD 48 wh fr lh sh o∧((r=false→an (pw pE 48 wh fr lh sh) 4= .i .i64 6)∧ng pE 48 wh fr lh sh=sh):=by
 refine lQ (fun k st=> ∃(fr:Fr) (lh:iz ib),st=⟨fr,lh,sh⟩∧r=((d.drop k).all fun k=>yh t.fl.length k.1)∧an fr 0=pg c zT aT fT a7 a8 a9 iv iw iy vs∧an fr 16=H∧an fr 17= .i .i64 (d.length:Int)∧an fr 18= .i .i64 (k:Int)) (fun O iN U=>(r=false→an O 4= .i .i64 6)∧U=sh) o d.length ?_ ?_ fr lh sh ⟨fr,lh,rfl,h,D,E,CN,F⟩
 ·rintro k _ J ⟨fr,lh,rfl,h,D,E,CN,F⟩
  have V:(k:Int)<d.length:=by omega
  have W:=iM (k:=k) (by omega)
  obtain⟨rr,X⟩:=rh K k J
  rw[U0 J]at h
  obtain⟨Y,Z,f2⟩:=hT.f
  have I:=afH zT aT fT (jf c a7 a8 a9 iv iw iy++vs) Y t.fl.length Z d[k].1
  rw[show decide (0≤d[k].1∧d[k].1<(t.fl.length:Int))=yh t.fl.length d[k].1 from rfl]at I
  unfold pg at*
  generalize d[k]=y at*
  cases hv:yh t.fl.length y.1 <;> rw[hv]at I h <;> simp only[Bool.true_and,Bool.false_and]at h
  all_goals simp only[qA,seval,wh,D,E,CN,F,V,W,X,I,asY]
  all_goals first
   |exact uD ⟨by rw[N,h];rfl,fun _=>(by simp only[qA,seval]),rfl⟩
   |exact k7 ⟨_,_,rfl,h,by simp only[qA,seval,D],by simp only[qA,seval,E],by simp only[qA,seval,CN],by simp only[qA,seval]⟩
 ·rintro _ ⟨fr,lh,rfl,h,D,E,CN,F⟩
  rw[List.drop_length]at h
  simp only[qA,seval,wh,CN,F,Int.lt_irrefl]
  grind [mI]
theorem avc(hT:sI t zT aT fT)(d:List (Int×Bool))(J:T)(I:CJ d J)(E:1≤d.length)(hlen:d.length≤1000)(D: ∀k∈d,yh t.fl.length k.1=true)(r:Bool)(h:r=M5 c t.fl d)(o:Out)(O:o=if r=true then .ext 2 else .ret)(fr:Fr)(lh:iz ib)(sh:List ib)
  (F:an fr 0=pg c zT aT fT a7 a8 a9 iv iw iy vs) (E:an fr 1=J) (H:an fr 7= .i .i64 1):
  rD 48 yH fr lh sh o∧((r=false→an (pw pE 48 yH fr lh sh) 4= .i .i64 14)∧ng pE 48 yH fr lh sh=sh):=by
 refine lQ (fun k st=> ∃(fr:Fr),st=⟨fr,lh,sh⟩∧r=M5 c t.fl (d.drop k)∧an fr 0=pg c zT aT fT a7 a8 a9 iv iw iy vs∧an fr 1=J∧an fr 7= .i .i64 ((k+1:Nat):Int)) (fun U Y V=>(r=false→an U 4= .i .i64 14)∧V=sh) o (d.length-1) ?_ ?_ fr lh sh ⟨fr,rfl,h,F,E,H⟩
 ·rintro k _ Z ⟨fr,rfl,h,F,E,H⟩
  have K:((k+1:Nat):Int)<d.length:=by omega
  have W:=iM (k:=k+1) (by omega)
  have DQ:wr .i64 (((k+1:Nat):Int)-1)=(k:Int):=by rw[jw (by omega)];omega
  obtain⟨rr,X⟩:=rh I k (by omega)
  obtain⟨r2,Hg⟩:=rh I (k+1) (by omega)
  rw[UZ c t.fl (by omega:k+1<d.length)]at h
  have N:=U1 t c zT aT fT a7 a8 a9 iv iw iy vs hT (D _ (List.getElem_mem (by omega:k<d.length))) (D _ (List.getElem_mem (by omega:k+1<d.length)))
  unfold pg at*
  generalize d[k]=x at*
  generalize d[k+1]=y at*
  cases hv:yi c t.fl x.1 y.1 <;> rw[hv]at N h <;> simp only[Bool.true_and,Bool.false_and]at h
  all_goals simp only[qA,seval,iY,iC,yH,F,E,H,I.choose_spec.1.lenI,K,W,DQ,X,Hg,N,asZ,as0]
  all_goals first
   |exact uD ⟨by rw[O,h];rfl,fun _=>(by simp only[qA,seval]),rfl⟩
   |exact k7 ⟨_,rfl,h,by simp only[qA,seval,F],by simp only[qA,seval,E],by simp only[qA,seval]⟩
 ·rintro _ ⟨fr,rfl,h,F,E,H⟩
  rw[M6 c t.fl (by omega)]at h
  have K: ¬((d.length-1+1:Nat):Int)<d.length:=by omega
  simp only[qA,seval,yH,E,H,I.choose_spec.1.lenI,K]
  grind [mI]
theorem afL(hT:sI t zT aT fT)(d:List (Int×Bool))(h:T)(D:CJ d h)(hlen:d.length≤1000):hZ pE 18 [pg c zT aT fT a7 a8 a9 iv iw iy vs,h] []=some (.i .i64 (sn c t.fl d),[]):=by
 have Zq:=fun fr lh sh E I CN J=>avb t c zT aT fT a7 a8 a9 iv iw iy vs hT d h D hlen _ rfl _ rfl fr lh sh E I CN J
 have CO:=D.choose_spec.1.lenI
 rw[im akB (by simp[c18])]
 unfold sn
 cases H:d.all fun k=>yh t.fl.length k.1 <;> rw[H]at Zq
 ·simp only[qB,seval,c18,Zq,CO,itI]
 ·by_cases K:1≤d.length
  ·have Ha:=fun fr lh sh E F N=>avc t c zT aT fT a7 a8 a9 iv iw iy vs hT d h D K hlen (List.all_eq_true.1 H) _ rfl _ rfl fr lh sh E F N
   cases O:M5 c t.fl d <;> rw[O]at Ha
   all_goals simp only[qB,seval,c18,QJ,Ha,Zq,CO,itI]
  ·have F:(d.length:Int)<1:=by omega
   simp only[qB,seval,c18,CO,F]
end
section
variable(t:Tt)(c:Ct)(zT aT fT a7 a8 a9 iv iw iy:T)(hT:sI t zT aT fT)(hC:tZ c a7 a8 a9 iv iw iy)
theorem I7(hT:sI t zT aT fT)(hC:tZ c a7 a8 a9 iv iw iy){i j:Int}(hi:yh t.fl.length i=true)(H:yh t.fl.length j=true):hZ pE 15 [.agg [zT,aT,fT],.agg (jf c a7 a8 a9 iv iw iy),.i .i64 i,.i .i64 j] []=some (.b (yi c t.fl i j),[]):=by
 obtain⟨i,h,rfl⟩:=CM hi
 obtain⟨j,D,rfl⟩:=CM H
 obtain⟨⟨X,Y,Z⟩,⟨ac,b1,b2⟩,⟨fc,E,F⟩⟩:=hT
 obtain⟨⟨c7,i7,j7⟩,⟨c8,i8,j8⟩,⟨c9,i9,j9⟩,⟨vU,I,As⟩,⟨wT,J,yF⟩,⟨yG,K,DO⟩⟩:=hC
 rw[I6 c t.fl h D]
 obtain⟨r,N⟩:=sk E F i h
 obtain⟨r',O⟩:=sk E F j D
 rw[im adx (by simp[c15])]
 generalize t.fl[i]=f at*
 generalize t.fl[j]=g at*
 unfold jf UW
 simp only[qB,seval,c15,N,O]
 by_cases U:f.to=g.fr <;> by_cases V:c.cn≤wr .i64 (g.dp-f.ar) <;> by_cases W:wr .i64 (g.dp-f.ar)≤c.st <;> simp[U,V,W]
theorem avd(d:List (Int×Bool))(I:T)(J:CJ d I)(hlen:d.length≤1000)(O:List T)(U:IsSl fT t.fl.length O)(r:Bool)(D:r=d.all fun k=>yh t.fl.length k.1)(o:Out)(K:o=if r=true then .ext 0 else .ret)(fr:Fr)(lh:iz ib)(sh:List ib)
  (E:an fr 2=I) (F:an fr 3= .ptr .L 3 1 0) (H:an fr 7= .i .i64 0) (V:a6 lh 3=⟨1,.cells [zT,aT,fT] 0 true⟩):
  rD 61 uc fr lh sh o∧((r=false→an (pw pE 61 uc fr lh sh) 6= .i .i64 6)∧lZ pE 61 uc fr lh sh=lh∧ng pE 61 uc fr lh sh=sh):=by
 refine lQ (fun k st=> ∃(fr:Fr),st=⟨fr,lh,sh⟩∧r=((d.drop k).all fun k=>yh t.fl.length k.1)∧an fr 2=I∧an fr 3= .ptr .L 3 1 0∧an fr 7= .i .i64 (k:Int)) (fun W X Y=>(r=false→an W 6= .i .i64 6)∧X=lh∧Y=sh) o d.length ?_ ?_ fr lh sh ⟨fr,rfl,D,E,F,H⟩
 ·rintro k _ N ⟨fr,rfl,D,E,F,H⟩
  have Z:(k:Int)<d.length:=by omega
  have hw:=iM (k:=k) (by omega)
  obtain⟨rr,iS⟩:=rh J k N
  rw[U0 N]at D
  unfold yh at D
  generalize d[k]=y at*
  simp only[qB,seval,uc,E,F,H,V,J.choose_spec.1.lenI,U.lenI,Z,hw,iS]
  repeat' (refine wD (fun _=> ?_) (fun _=> ?_))
  all_goals first
   |(rw[decide_eq_false (by omega),Bool.false_and]at D
     exact uD ⟨by rw[K,D];rfl,fun _=>(by simp only[qA,seval]),rfl,rfl⟩)
   |(rw[decide_eq_true (by omega),Bool.true_and]at D
     exact k7 ⟨_,rfl,D,by simp only[qA,seval,E],by simp only[qA,seval,F],by simp only[qA,seval]⟩)
 ·rintro _ ⟨fr,rfl,D,E,F,H⟩
  rw[List.drop_length]at D
  simp only[qA,seval,uc,E,H,J.choose_spec.1.lenI,Int.lt_irrefl]
  exact mI ⟨by rw[K,D];rfl,fun h=>(by rw[D]at h;cases h),rfl,rfl⟩
theorem ave(hT:sI t zT aT fT)(hC:tZ c a7 a8 a9 iv iw iy)(d:List (Int×Bool))(N:T)(K:CJ d N)(h1:1≤d.length)(hlen:d.length≤1000)(E: ∀k∈d,yh t.fl.length k.1=true)(r:Bool)(D:r=M5 c t.fl d)(o:Out)(Z:o=if r=true then .ext 2 else .ret)(fr:Fr)(lh:iz ib)(sh:List ib)
  (F:an fr 2=N) (H:an fr 3= .ptr .L 3 1 0) (I:an fr 4= .ptr .L 4 1 0) (J:an fr 8= .i .i64 1) (o3:a6 lh 3=⟨1,.cells [zT,aT,fT] 0 true⟩) (o4:a6 lh 4=⟨1,.cells (jf c a7 a8 a9 iv iw iy) 0 true⟩):
  rD 61 yJ fr lh sh o∧((r=false→an (pw pE 61 yJ fr lh sh) 6= .i .i64 14)∧ng pE 61 yJ fr lh sh=sh):=by
 have Zt:=hT
 have O:=hC
 obtain⟨⟨zc,z1,z2⟩,⟨ac,b1,b2⟩,⟨fc,f1,f2⟩⟩:=Zt
 obtain⟨⟨c7,i7,j7⟩,⟨c8,i8,j8⟩,⟨c9,i9,j9⟩,⟨vU,U,As⟩,⟨wT,V,yF⟩,⟨yG,W,DO⟩⟩:=O
 refine lQ (fun k st=> ∃(fr:Fr),st=⟨fr,lh,sh⟩∧r=M5 c t.fl (d.drop k)∧an fr 2=N∧an fr 3= .ptr .L 3 1 0∧an fr 4= .ptr .L 4 1 0∧an fr 8= .i .i64 ((k+1:Nat):Int)) (fun js iN jb=>(r=false→an js 6= .i .i64 14)∧jb=sh) o (d.length-1) ?_ ?_ fr lh sh ⟨fr,rfl,D,F,H,I,J⟩
 ·rintro k _ hk ⟨fr,rfl,D,F,H,I,J⟩
  have X:((k+1:Nat):Int)<d.length:=by omega
  have hw:=iM (k:=k+1) (by omega)
  have DQ:wr .i64 (((k+1:Nat):Int)-1)=(k:Int):=by rw[jw (by omega)];omega
  obtain⟨rr,iS⟩:=rh K k (by omega)
  obtain⟨r2,Hg⟩:=rh K (k+1) (by omega)
  rw[UZ c t.fl (by omega:k+1<d.length)]at D
  have Y:=I7 t c zT aT fT a7 a8 a9 iv iw iy hT hC (E _ (List.getElem_mem (by omega:k<d.length))) (E _ (List.getElem_mem (by omega:k+1<d.length)))
  unfold jf at Y o4
  generalize d[k]=x at*
  generalize d[k+1]=y at*
  cases hv:yi c t.fl x.1 y.1 <;> rw[hv]at Y D <;> simp only[Bool.true_and,Bool.false_and]at D
  all_goals simp only[qA,seval,iY,iC,yJ,F,H,I,J,o3,o4,K.choose_spec.1.lenI,X,hw,DQ,iS,Hg,Y,ady,asO,z1.froz1,b1.froz1,f1.froz1,i7.froz1,i8.froz1,i9.froz1,U.froz1,V.froz1,W.froz1]
  all_goals first
   |exact uD ⟨by rw[Z,D];rfl,fun _=>(by simp only[qA,seval]),rfl⟩
   |exact k7 ⟨_,rfl,D,by simp only[qA,seval,F],by simp only[qA,seval,H],by simp only[qA,seval,I],by simp only[qA,seval]⟩
 ·rintro _ ⟨fr,rfl,D,F,H,I,J⟩
  rw[M6 c t.fl (by omega)]at D
  have X: ¬((d.length-1+1:Nat):Int)<d.length:=by omega
  simp only[qA,seval,yJ,F,J,K.choose_spec.1.lenI,X]
  exact mI ⟨by rw[Z,D];rfl,fun h=>(by rw[D]at h;cases h),rfl⟩
theorem Zu(hT:sI t zT aT fT)(hC:tZ c a7 a8 a9 iv iw iy)(d:List (Int×Bool))(h:T)(D:CJ d h)(hlen:d.length≤1000):hZ pE 28 [.agg [zT,aT,fT],.agg (jf c a7 a8 a9 iv iw iy),h] []=some (.i .i64 (sn c t.fl d),[]):=by
 have CO:=D.choose_spec.1.lenI
 have Zt:=hT
 have E:=hC
 obtain⟨⟨zc,z1,z2⟩,⟨ac,b1,b2⟩,⟨K,N,f2⟩⟩:=Zt
 obtain⟨⟨c7,i7,j7⟩,⟨c8,i8,j8⟩,⟨c9,i9,j9⟩,⟨vU,O,As⟩,⟨wT,U,yF⟩,⟨yG,V,DO⟩⟩:=E
 have Zq:=fun fr lh sh F H W I=>avd t zT aT fT d h D hlen K N _ rfl _ rfl fr lh sh F H W I
 rw[im akL (by simp[c28])]
 unfold sn
 cases J:d.all fun k=>yh t.fl.length k.1 <;> rw[J]at Zq
 ·unfold jf
  simp only[qB,seval,c28,Zq,CO,itI]
 ·by_cases X:1≤d.length
  ·have Ha:=fun fr lh sh F H Y Z I o4=>ave t c zT aT fT a7 a8 a9 iv iw iy hT hC d h D X hlen (List.all_eq_true.1 J) _ rfl _ rfl fr lh sh F H Y Z I o4
   unfold jf at Ha ⊢
   cases hc:M5 c t.fl d <;> rw[hc]at Ha
   all_goals simp only[qB,seval,c28,QK,Ha,Zq,CO,itI]
  ·have ve:(d.length:Int)<1:=by omega
   unfold jf
   simp only[qB,seval,c28,CO,ve]
end
section
variable(c:Ct)(a7 a8 a9 iv iw iy:T)(hT:tZ c a7 a8 a9 iv iw iy)(CP:pz c=false∨pI c=false)
include hT CP
theorem afN:hZ pE 60 [.agg (jf c a7 a8 a9 iv iw iy)] []=some (.i .i64 (mK c),[]):=by
 obtain⟨⟨J,F,K⟩,⟨N,H,O⟩,⟨U,I,V⟩,⟨W,h,As⟩,⟨X,D,Y⟩,⟨Z,E,DO⟩⟩:=hT
 unfold jf
 rw[im adQ (by simp[c60])]
 unfold mK
 unfold pz pI at CP ⊢
 have w:=fun n lo hi=>jE (yj n lo hi)
 simp(maxDischargeDepth:=6) only[qB,seval,c60,F.lenI,H.lenI,I.lenI,h.lenI,D.lenI,E.lenI,w,HZ]
 clear w
 grind (splits:=40)
theorem afO:hZ pE 53 [.agg (jf c a7 a8 a9 iv iw iy)] []=some (.i .i64 (mK c),[]):=by
 obtain⟨⟨J,F,K⟩,⟨N,H,O⟩,⟨U,I,V⟩,⟨W,h,As⟩,⟨X,D,Y⟩,⟨Z,E,DO⟩⟩:=hT
 unfold jf
 rw[im Xb (by simp[c53])]
 unfold mK
 unfold pz pI at CP ⊢
 have w:=fun n lo hi=>jE (ri n lo hi)
 simp(maxDischargeDepth:=6) only[qB,seval,c53,F.lenI,H.lenI,I.lenI,h.lenI,D.lenI,E.lenI,w,OF]
 clear w
 grind (splits:=40)
theorem yk:mK c≠0:=by
 have _:=hT
 unfold mK
 by_cases h:pz c=false
 ·rw[if_pos h];decide
 ·rw[if_neg h,if_pos (CP.resolve_left h)];decide
theorem CQ:l0 c=mK c:=by
 unfold l0;rw[if_pos (yk c a7 a8 a9 iv iw iy hT CP)]
theorem acB: ∃s,hZ pE 30 [.agg (jf c a7 a8 a9 iv iw iy)] []=some (.i .i64 (l0 c),s):=by
 have Qx:=afN c a7 a8 a9 iv iw iy hT CP
 have F:=yk c a7 a8 a9 iv iw iy hT CP
 rw[CQ c a7 a8 a9 iv iw iy hT CP]
 obtain⟨⟨K,H,N⟩,⟨O,I,U⟩,⟨V,J,W⟩,⟨X,h,As⟩,⟨Y,D,Z⟩,⟨yG,E,DO⟩⟩:=hT
 unfold jf at Qx ⊢
 rw[im adD (by simp[c30])]
 generalize mK c=e at*
 simp only[qA,seval,c30,H.froz1,I.froz1,J.froz1,h.froz1,D.froz1,E.froz1,Qx,ak9,F]
 exact⟨_,rfl⟩
theorem M7:hZ pE 55 [.agg (jf c a7 a8 a9 iv iw iy)] []=some (.i .i64 (l0 c),[]):=by
 have Qx:=afO c a7 a8 a9 iv iw iy hT CP
 have F:=yk c a7 a8 a9 iv iw iy hT CP
 rw[CQ c a7 a8 a9 iv iw iy hT CP]
 obtain⟨⟨K,H,N⟩,⟨O,I,U⟩,⟨V,J,W⟩,⟨X,h,As⟩,⟨Y,D,Z⟩,⟨yG,E,DO⟩⟩:=hT
 unfold jf at Qx ⊢
 rw[im adO (by simp[c55])]
 generalize mK c=e at*
 simp only[qA,seval,c55,H.froz1,I.froz1,J.froz1,h.froz1,D.froz1,E.froz1,Qx,ak2,F]
end
structure Qy (c:Ct):Prop where
 n7:U2 c.cs
 n8: ∀u∈c.ru,Qz u.x
 n9: ∀u∈c.co,Qz u.x
 n10: ∀x∈c.cr,Qz x
theorem Qy.sm{c:Ct}(h:Qy c)(hs:pI c=true):yc c:=by
 unfold pI at hs
 simp only[Bool.and_eq_true,decide_eq_true_eq]at hs
 obtain⟨D,E,F,H,I,J⟩:=hs
 exact⟨⟨h.n7,kI (by omega)⟩,⟨h.n8,kI (by omega)⟩,⟨h.n9,kI (by omega)⟩,⟨h.n10,kI (by omega)⟩,kI (by omega),kI (by omega)⟩
def mz(t:Tt)(c:Ct):Int:=if rL t≠0 then rL t else l0 c
def flG(l:List Fl)(i:Int):Fl:=(l[i.toNat]?).getD ⟨[],[],[],0,0,[],0,0,0⟩
theorem afP{l:List Fl}{i:Nat}(h:i<l.length):flG l i=l[i]:=by
 unfold flG;rw[Int.toNat_natCast,List.getElem?_eq_getElem h];rfl
theorem zF(c:Ct)(zT aT fT a7 a8 a9 iv iw iy:T)(vs:List T):froz (pg c zT aT fT a7 a8 a9 iv iw iy vs)=true:=nr rfl
section
variable(t:Tt)(c:Ct)(zT aT fT a7 a8 a9 iv iw iy:T)(hT:sI t zT aT fT)(hC:tZ c a7 a8 a9 iv iw iy)(hN:Qy c)
theorem WQ(hT:sI t zT aT fT)(hC:tZ c a7 a8 a9 iv iw iy):(froz1 zT=true∧froz1 aT=true∧froz1 fT=true∧froz1 a7=true∧froz1 a8=true∧froz1 a9=true∧froz1 iv=true∧froz1 iw=true∧froz1 iy=true)∧cellsOf zT= [zT]∧cellsOf aT= [aT]∧cellsOf fT= [fT]∧cellsOf a7= [a7]∧cellsOf a8= [a8]∧cellsOf a9= [a9]∧cellsOf iv= [iv]∧cellsOf iw= [iw]∧cellsOf iy= [iy]:=by
 obtain⟨⟨_,F,_⟩,⟨_,H,_⟩,⟨_,I,_⟩⟩:=hT
 obtain⟨⟨_,J,_⟩,⟨_,K,_⟩,⟨_,N,_⟩,⟨_,h,_⟩,⟨_,D,_⟩,⟨_,E,_⟩⟩:=hC
 exact⟨⟨F.froz1,H.froz1,I.froz1,J.froz1,K.froz1,N.froz1,h.froz1,D.froz1,E.froz1⟩,F.cells,H.cells,I.cells,J.cells,K.cells,N.cells,h.cells,D.cells,E.cells⟩
include hC hN
theorem aoJ: ∃s,hZ pE 30 [.agg (jf c a7 a8 a9 iv iw iy)] []=some (.i .i64 (l0 c),s):=by
 by_cases h:pz c=false
 ·exact acB c a7 a8 a9 iv iw iy hC (.inl h)
 ·by_cases hs:pI c=false
  ·exact acB c a7 a8 a9 iv iw iy hC (.inr hs)
  ·exact MY c a7 a8 a9 iv iw iy hC (hN.sm (by simpa using hs))
theorem Zv:hZ pE 55 [.agg (jf c a7 a8 a9 iv iw iy)] []=some (.i .i64 (l0 c),[]):=by
 by_cases h:pz c=false
 ·exact M7 c a7 a8 a9 iv iw iy hC (.inl h)
 ·by_cases hs:pI c=false
  ·exact M7 c a7 a8 a9 iv iw iy hC (.inr hs)
  ·exact PJ c a7 a8 a9 iv iw iy hC (hN.sm (by simpa using hs))
omit hN in
theorem EI(h:l0 c=0):pI c=true:=by
 cases hs:pI c with
 |true=>rfl
 |false=>
  exfalso
  rw[CQ c a7 a8 a9 iv iw iy hC (.inr hs)]at h
  exact yk c a7 a8 a9 iv iw iy hC (.inr hs) h
include hT
theorem aoK(h:mz t c=0): ∃s vs,hZ pE 17 [.agg [zT,aT,fT],.agg (jf c a7 a8 a9 iv iw iy)] []=some (.tup [pg c zT aT fT a7 a8 a9 iv iw iy vs,.i .i64 0],s)∧Gg t c vs:=by
 unfold mz at h
 by_cases D:rL t=0
 ·rw[if_neg (by simp[D])]at h
  obtain⟨s,vs,E,_,_,F⟩:=afG t c zT aT fT a7 a8 a9 iv iw iy hT hC (hN.sm (EI c a7 a8 a9 iv iw iy hC h)) D h
  exact⟨s,vs,E,F⟩
 ·rw[if_pos D]at h;exact absurd h D
theorem aoL(h:mz t c≠0): ∃s,hZ pE 17 [.agg [zT,aT,fT],.agg (jf c a7 a8 a9 iv iw iy)] []=some (.tup [.nilptr,.i .i64 (mz t c)],s):=by
 unfold mz at h ⊢
 by_cases E:rL t=0
 ·rw[if_neg (by simp[E])]at h ⊢
  have WG:=Lc t zT aT fT hT
  obtain⟨W,D⟩:=aoJ c a7 a8 a9 iv iw iy hC hN
  rw[E]at WG
  obtain⟨⟨X,J,Y⟩,⟨ac,K,Z⟩,⟨fc,N,f2⟩⟩:=hT
  obtain⟨⟨_,O,_⟩,⟨_,U,_⟩,⟨_,V,_⟩,⟨_,F,_⟩,⟨_,H,_⟩,⟨_,I,_⟩⟩:=hC
  rw[im W9 (by simp[WX])]
  unfold jf at D ⊢
  simp only[qA,seval,WX,WG,D,h,adC,akN,J.froz1,K.froz1,N.froz1,O.froz1,U.froz1,V.froz1,F.froz1,H.froz1,I.froz1]
  exact⟨_,rfl⟩
 ·rw[if_pos E]
  exact Zs t c zT aT fT a7 a8 a9 iv iw iy hT hC E
theorem Zw(H: ∀f∈t.fl,f.nu.length≤mJ):hZ pE 27 [.agg [zT,aT,fT],.agg (jf c a7 a8 a9 iv iw iy)] []=some (.i .i64 (mz t c),[]):=by
 have I:=afQ t zT aT fT hT H
 have F:=Zv c a7 a8 a9 iv iw iy hC hN
 obtain⟨⟨X,J,Y⟩,⟨ac,K,Z⟩,⟨fc,N,f2⟩⟩:=hT
 obtain⟨⟨_,O,_⟩,⟨_,U,_⟩,⟨_,V,_⟩,⟨_,h,_⟩,⟨_,D,_⟩,⟨_,E,_⟩⟩:=hC
 unfold mz
 rw[im akK (by simp[c27])]
 unfold jf at F ⊢
 by_cases W:rL t=0
 all_goals simp only[qA,seval,c27,I,F,W,atj,atk,J.froz1,K.froz1,N.froz1,O.froz1,U.froz1,V.froz1,h.froz1,D.froz1,E.froz1]
theorem Ln(h:mz t c=0):rL t=0∧l0 c=0:=by
 have _:=hC;have _:=hN;have _:=hT
 unfold mz at h
 by_cases D:rL t=0
 ·rw[if_neg (by simp[D])]at h;exact⟨D,h⟩
 ·rw[if_pos D]at h;exact absurd h D
theorem Gj(I: ∀f∈t.fl,f.nu.length≤mJ)(d:List (Int×Bool))(D:T)(H:CJ d D)(hlen:d.length≤1000):hZ pE 16 [.agg [zT,aT,fT],.agg (jf c a7 a8 a9 iv iw iy),D] []=some (.i .i64 (if mz t c≠0 then mz t c else sn c t.fl d),[]):=by
 have hz:=WQ t c zT aT fT a7 a8 a9 iv iw iy hT hC
 have Zx:=Zw t c zT aT fT a7 a8 a9 iv iw iy hT hC hN I
 have E:=Zu t c zT aT fT a7 a8 a9 iv iw iy hT hC d D H hlen
 have F:=H.choose_spec.1.froz
 rw[im adz (by simp[c16])]
 unfold jf at*
 by_cases h:mz t c=0
 all_goals simp only[qA,seval,c16,Zx,asU,E,asV,h,hz,F]
end
theorem U3(a:Int):a.tdiv 1440=if a.tmod 1440<0 then a/1440+1 else a/1440:=by
 grind
theorem afR(a:Int):a.tmod 1440=if a.tmod 1440<0 then a%1440-1440 else a%1440:=by
 grind
def Av(a:Int):Prop:= -100000000≤a∧a≤100000000
theorem zG(a:Int)(H:Av a):hZ pE 136 [.i .i64 a] []=some (.tup [.i .i64 (a/1440),.i .i64 (a%1440)],[]):=by
 obtain⟨K,N⟩:=H
 have E:=U3 a
 have D:=afR a
 rw[im aaY (by simp[N9])]
 by_cases h:a.tmod 1440<0
 ·rw[if_pos h]at E D
  rw[D]at h
  have F:wr .i64 (a/1440+1)=a/1440+1:=jw (by omega)
  have I:wr .i64 (a/1440+1-1)=a/1440:=by rw[jw (by omega)];omega
  have J:wr .i64 (a%1440-1440+1440)=a%1440:=by rw[jw (by omega)];omega
  simp only[qA,seval,N9,E,D,F,h,I,J]
 ·rw[if_neg h]at E D
  rw[D]at h
  have F:wr .i64 (a/1440)=a/1440:=jw (by omega)
  simp only[qA,seval,N9,E,D,F,h]
theorem PK(a:Int)(F:Av a):hZ pE 169 [.i .i64 a,.i .i64 1440] []=some (.i .i64 (a/1440),[]):=by
 obtain⟨I,J⟩:=F
 have D:=U3 a
 rw[im abt (by simp[Om])]
 by_cases h:a.tmod 1440<0
 ·have K:=h
  rw[if_pos h]at D
  have E:wr .i64 (a/1440+1)=a/1440+1:=jw (by omega)
  have H:wr .i64 (a/1440+1-1)=a/1440:=by rw[jw (by omega)];omega
  simp only[qA,seval,Om,D,E,h,H]
 ·rw[if_neg h]at D
  have E:wr .i64 (a/1440)=a/1440:=jw (by omega)
  simp only[qA,seval,Om,D,E,h]
theorem zH(a:Int)(h:Av a):hZ pE 127 [.i .i64 a] []=some (.tup [.i .i64 (a/1440),.i .i64 (a%1440)],[]):=by
 have D:=PK a h
 obtain⟨H,I⟩:=h
 have E:wr .i64 (1440*(a/1440))=1440*(a/1440):=jw (by omega)
 have F:wr .i64 (a-1440*(a/1440))=a%1440:=by rw[jw (by omega)];omega
 rw[im aaT (by simp[Rh])]
 simp only[qA,seval,Rh,D,amf,E,F]
def tm(o:Int):List (Int×Int)→Int→Int
 | [],_=>o
 |s::r,t=>if s.1≤t then tm s.2 r t else o
def AL(o:Int):List (Int×Int)→Int→Int
 | [],_=>o
 |s::r,t=>AL (if s.1≤t then s.2 else o) r t
theorem CR{p:Option Int}{s:Int×Int}{r:List (Int×Int)}(h:DR p (s::r)=0):sq s.1=true∧uF s.2=true∧(∀q,p=some q→q<s.1)∧DR (some s.1) r=0:=by
 unfold DR at h
 grind
theorem EJ: ∀(l:List (Int×Int)) (p o t:Int),DR (some p) l=0→t<p→AL o l t=o
 | [],p,o,t,h,D=>rfl
 |s::r,p,o,t,h,D=>by
  obtain⟨_,_,E,F⟩:=CR h
  have:=E p rfl
  rw[AL,if_neg (by omega)]
  exact EJ r s.1 o t F (by omega)
theorem U4: ∀(l:List (Int×Int)) (p:Option Int) (o t:Int),DR p l=0→AL o l t=tm o l t
 | [],p,o,t,h=>rfl
 |s::r,p,o,t,h=>by
  obtain⟨_,_,_,D⟩:=CR h
  rw[AL,tm]
  by_cases hs:s.1≤t
  ·rw[if_pos hs,if_pos hs];exact U4 r _ _ _ D
  ·grind [EJ]
theorem A0: ∀{l:List (Int×Int)} {p:Option Int},DR p l=0→ ∀s∈l,sq s.1=true∧uF s.2=true
 |a::r,p,h,s,hs=>by
  obtain⟨E,F,_,D⟩:=CR h
  rcases List.mem_cons.1 hs with rfl|hs
  ·grind
  ·exact A0 D s hs
theorem U5: ∀{l:List (Int×Int)} {o t:Int},uF o=true→(∀s∈l,uF s.2=true)→uF (tm o l t)=true
 | [],o,t,h,_=>h
 |s::r,o,t,h,D=>by
  rw[tm]
  split
  ·exact U5 (D s (by simp)) fun x E=>D x (by simp[E])
  ·exact h
def Zo.off(z:Zo)(t:Int):Int:=tm z.o z.sh t
theorem nE{z:Zo}(h:nh z=0):uF z.o=true∧z.sh.length≤16∧DR none z.sh=0:=by
 grind [nh]
theorem Zo.off_bd{z:Zo}(h:nh z=0)(t:Int): -840≤z.off t∧z.off t≤840:=by
 obtain⟨D,_,E⟩:=nE h
 have:=U5 (t:=t) D fun s hs=>(A0 E s hs).2
 grind [uF,Zo.off]
def qK(z:Zo)(a:T):List T:= [.s z.nm,.i .i64 z.o,a]
def Zy(z:Zo)(a:T):Prop:= ∃h,IsSl a z.sh.length h∧iB QA z.sh h
section
variable(z:Zo)(a:T)(hz:Zy z a)(hlen:z.sh.length≤16)
include hz hlen
theorem avg(t:Int)(fr:Fr)(lh:iz ib)(sh:List ib)(H:an fr 1= .i .i64 t)(I:an fr 5= .i .i64 z.o)(E:an fr 11=a)(D:an fr 12= .i .i64 (z.sh.length:Int))(J:an fr 13= .i .i64 0):
  rD 25 uY fr lh sh (.ext 0)∧
  (an (pw pE 25 uY fr lh sh) 5= .i .i64 (tm z.o z.sh t)∧ng pE 25 uY fr lh sh=sh):=by
 obtain⟨Z,N,O⟩:=hz
 refine lQ (fun k st=> ∃(fr:Fr) (lh:iz ib) (o:Int),st=⟨fr,lh,sh⟩∧an fr 1= .i .i64 t∧an fr 5= .i .i64 o∧an fr 11=a∧an fr 12= .i .i64 (z.sh.length:Int)∧an fr 13= .i .i64 (k:Int)∧tm o (z.sh.drop k) t=tm z.o z.sh t)
  (fun U iN V=>an U 5= .i .i64 (tm z.o z.sh t)∧V=sh) _ z.sh.length ?_ ?_ fr lh sh ⟨fr,lh,z.o,rfl,H,I,E,D,J,rfl⟩
 ·rintro k _ K ⟨fr,lh,o,rfl,H,I,E,D,J,F⟩
  have W:(k:Int)<z.sh.length:=by omega
  have X:=iM (k:=k) (by omega)
  obtain⟨rr,Y⟩:=CS N O K
  rw[List.drop_eq_getElem_cons K,tm]at F
  generalize z.sh[k]=s at*
  generalize tm z.o z.sh t=r at*
  simp only[qB,seval,uY,H,E,D,J,W,Y,X]
  refine wD (fun h=> ?_) (fun h=> ?_)
  ·rw[if_neg (by omega)]at F
   exact mI ⟨rfl,by simp only[qA,seval,I,F],rfl⟩
  ·rw[if_pos (by omega)]at F
   exact k7 ⟨_,_,s.2,rfl,by simp only[qA,seval,H],by simp only[qA,seval],by simp only[qA,seval,E],by simp only[qA,seval,D],by simp only[qA,seval],F⟩
 ·rintro _ ⟨fr,lh,o,rfl,H,I,E,D,J,F⟩
  rw[List.drop_length,tm]at F
  simp only[qA,seval,uY,D,J,Int.lt_irrefl]
  exact mI ⟨rfl,by simp only[qA,seval,I,F],rfl⟩
theorem PL(t:Int):hZ pE 164 [.agg (qK z a),.i .i64 t] []=some (.i .i64 (z.off t),[]):=by
 have E:=fun fr lh sh F H h D I=>avg z a hz hlen t fr lh sh F H h D I
 obtain⟨K,J,N⟩:=hz
 unfold Zo.off qK
 rw[im abm (by simp[Rv])]
 simp only[qA,seval,Rv,J.lenI,E]
theorem avh(t:Int)(fr:Fr)(lh:iz ib)(sh:List ib)(F:an fr 1= .i .i64 t)(E:an fr 2= .ptr .L 2 1 0)(H:an fr 5= .i .i64 z.o)(I:an fr 6= .i .i64 0)(J:a6 lh 2=⟨1,.cells (qK z a) 0 true⟩):
  rD 31 yU fr lh sh (.ext 0)∧
  (an (pw pE 31 yU fr lh sh) 5= .i .i64 (AL z.o z.sh t)∧ng pE 31 yU fr lh sh=sh):=by
 obtain⟨Z,K,O⟩:=hz
 unfold qK at J
 refine lQ (fun k st=> ∃(fr:Fr) (o:Int),st=⟨fr,lh,sh⟩∧an fr 1= .i .i64 t∧an fr 2= .ptr .L 2 1 0∧an fr 5= .i .i64 o∧an fr 6= .i .i64 (k:Int)∧AL o (z.sh.drop k) t=AL z.o z.sh t)
  (fun U iN V=>an U 5= .i .i64 (AL z.o z.sh t)∧V=sh) _ z.sh.length ?_ ?_ fr lh sh ⟨fr,z.o,rfl,F,E,H,I,rfl⟩
 ·rintro k _ N ⟨fr,o,rfl,F,E,H,I,D⟩
  have W:(k:Int)<z.sh.length:=by omega
  have X:=iM (k:=k) (by omega)
  obtain⟨rr,Y⟩:=CS K O N
  rw[List.drop_eq_getElem_cons N,AL]at D
  generalize z.sh[k]=s at*
  generalize AL z.o z.sh t=r at*
  simp only[qB,seval,yU,F,E,I,J,K.lenI,W,Y,X]
  refine wD (fun h=> ?_) (fun h=> ?_)
  ·rw[if_pos h]at D
   exact k7 ⟨_,s.2,rfl,by simp only[qA,seval,F],by simp only[qA,seval,E],by simp only[qA,seval],by simp only[qA,seval],D⟩
  ·rw[if_neg h]at D
   exact k7 ⟨_,o,rfl,by simp only[qA,seval,F],by simp only[qA,seval,E],by simp only[qA,seval,H],by simp only[qA,seval],D⟩
 ·rintro _ ⟨fr,o,rfl,F,E,H,I,D⟩
  rw[List.drop_length,AL]at D
  simp only[qA,seval,yU,E,I,J,K.lenI,Int.lt_irrefl]
  exact mI ⟨rfl,by simp only[qA,seval,H,D],rfl⟩
theorem tn(hv:nh z=0)(t:Int):hZ pE 73 [.agg (qK z a),.i .i64 t] []=some (.i .i64 (z.off t),[]):=by
 have h:=fun fr lh sh D E F H I=>avh z a hz hlen t fr lh sh D E F H I
 obtain⟨J,K,N⟩:=hz
 rw[U4 _ _ _ _ (nE hv).2.2]at h
 unfold Zo.off
 unfold qK at h ⊢
 rw[im adX (by simp[c73])]
 simp only[qA,seval,c73,h]
end
section
variable(z:Zo)(a:T)(hz:Zy z a)(hv:nh z=0)
include hz hv
theorem wH(t:Int)(H:sq t=true):hZ pE 120 [.agg (qK z a),.i .i64 t] []=some (.tup [.i .i64 (z.off t),.i .i64 0],[]):=by
 have h:=PL z a hz (nE hv).2.1 t
 obtain⟨I,D,J⟩:=hz
 have E:=CT z a I D J
 have F:=M8 t
 rw[hv]at E
 rw[H]at F
 unfold qK at h ⊢
 rw[im aaP (by simp[Rc])]
 simp only[qA,seval,Rc,h,E,F,D.froz1,amc,Xc,RY]
theorem PM(t:Int)(H:sq t=true):hZ pE 199 [.agg (qK z a),.i .i64 t] []=some (.tup [.i .i64 (z.off t),.i .i64 0],[]):=by
 have h:=tn z a hz (nE hv).2.1 hv t
 obtain⟨I,D,J⟩:=hz
 have E:=CU z a I D J
 have F:=M9 t
 rw[hv]at E
 rw[H]at F
 unfold qK at h ⊢
 rw[im abR (by simp[RI])]
 simp only[qA,seval,RI,h,E,F,D.froz1,RR,ad1,Sf]
theorem Lo(t:Int)(h:sq t=true):wr .i64 (t+z.off t)=t+z.off t∧Av (t+z.off t):=by
 have _:=hz
 have D:=Zo.off_bd hv t
 unfold sq at h
 simp only[Bool.and_eq_true,decide_eq_true_eq]at h
 exact⟨jw (by omega),by unfold Av;omega⟩
def Zo.day(z:Zo)(t:Int):Int:=(t+z.off t)/1440
def Zo.clk(z:Zo)(t:Int):Int:=(t+z.off t)%1440
theorem I8(t:Int)(h:sq t=true):hZ pE 79 [.agg (qK z a),.i .i64 t] []=some (.tup [.i .i64 (z.day t),.i .i64 (z.clk t),.i .i64 0],[]):=by
 have D:=wH z a hz hv t h
 obtain⟨w,n⟩:=Lo z a hz hv t h
 have H:=zG _ n
 obtain⟨I,E,J⟩:=hz
 have F:hZ pE 135 [.agg (qK z a),.i .i64 t] []=some (.tup [.i .i64 (t+z.off t),.i .i64 0],[]):=by
  unfold qK at D ⊢
  rw[im aaX (by simp[Rj])]
  simp only[qA,seval,Rj,D,w,E.froz1,R6]
 unfold Zo.day Zo.clk
 generalize t+z.off t=m at*
 unfold qK at F ⊢
 rw[im alu (by simp[c79])]
 simp only[qA,seval,c79,F,H,E.froz1,alX,aaZ]
theorem U6(t:Int)(h:sq t=true):hZ pE 129 [.agg (qK z a),.i .i64 t] []=some (.tup [.i .i64 (z.day t),.i .i64 (z.clk t),.i .i64 0],[]):=by
 have D:=PM z a hz hv t h
 obtain⟨w,n⟩:=Lo z a hz hv t h
 have H:=zH _ n
 obtain⟨I,E,J⟩:=hz
 have F:hZ pE 170 [.agg (qK z a),.i .i64 t] []=some (.tup [.i .i64 (t+z.off t),.i .i64 0],[]):=by
  unfold qK at D ⊢
  rw[im abu (by simp[Ry])]
  simp only[qA,seval,Ry,D,w,E.froz1,amx]
 unfold Zo.day Zo.clk
 generalize t+z.off t=m at*
 unfold qK at F ⊢
 rw[im aaU (by simp[Ri])]
 simp only[qA,seval,Ri,F,H,E.froz1,amg,L7]
end
def pf(f:Int→Bool)(a:Int):Nat→Int
 |0=>0
 |n+1=>pf f a n+if f (a+n)=true then 1 else 0
theorem I9(f:Int→Bool)(a:Int)(m:Nat): ∀n,pf f a (m+n)=pf f a m+pf f (a+m) n
 |0=>by simp[pf]
 |n+1=>by
  rw[←Nat.add_assoc,pf,pf,I9 f a m n,show a+((m+n:Nat):Int)=a+m+n by omega]
  omega
theorem CV{f g:Int→Bool}{a:Int}: ∀{n:Nat},(∀t,a≤t→t<a+n→f t=g t)→pf f a n=pf g a n
 |0,_=>rfl
 |n+1,h=>by rw[pf,pf,CV fun t D E=>h t D (by omega),h (a+n) (by omega) (by omega)]
theorem A1(f:Int→Bool)(a:Int): ∀n,0≤pf f a n∧pf f a n≤n
 |0=>by simp[pf]
 |n+1=>by have:=A1 f a n;rw[pf];split <;> omega
def uG(f:Int→Bool)(a b:Int):Int:=pf f a (b-a).toNat
theorem U7(f:Int→Bool){a m b:Int}(h:a≤m)(D:m≤b):uG f a b=uG f a m+uG f m b:=by
 unfold uG
 have:=I9 f a (m-a).toNat (b-m).toNat
 grind
theorem vB(f:Int→Bool){a b:Int}(h:b≤a):uG f a b=0:=by
 unfold uG;rw[show(b-a).toNat=0 by omega];rfl
theorem wI{f g:Int→Bool}{a b:Int}(h: ∀t,a≤t→t<b→f t=g t):uG f a b=uG g a b:=by
 grind [uG,CV]
def Lq(c len p q d:Int):Int:=if max (1440*d+c) p<min (1440*d+c+len) q then min (1440*d+c+len) q-max (1440*d+c) p else 0
def uH(c len p q lo:Int):Nat→Int
 |0=>0
 |n+1=>uH c len p q lo n+Lq c len p q (lo+n)
theorem PN{c len p q d:Int}(h:1≤len)(D:p≤q):Lq c len p (q+1) d=Lq c len p q d+if 1440*d+c≤q∧q<1440*d+c+len then 1 else 0:=by
 grind [Lq]
theorem EL{c len p q lo:Int}(h:1≤len)(E:len<1440)(D:p≤q): ∀n:Nat,uH c len p (q+1) lo n=uH c len p q lo n+if lo≤(q-c)/1440∧(q-c)/1440<lo+n∧(q-c)%1440<len then 1 else 0
 |0=>by grind [uH]
 |n+1=>by
  rw[uH,uH,EL h E D n,PN h D]
  grind
theorem EM{c len p:Int}(lo:Int): ∀n:Nat,uH c len p p lo n=0
 |0=>rfl
 |n+1=>by
  rw[uH,EM lo n]
  grind [Lq]
def jU(f t:Int):Int:=(t-f+1440)%1440
theorem Ja{m f t:Int}(h:0≤f∧f<1440)(D:0≤t∧t<1440):kC (m%1440) f t=decide ((m-f)%1440<jU f t):=by
 grind [kC,jU]
theorem Jb{f t o p:Int}(H:0≤f∧f<1440)(I:0≤t∧t<1440)(E:jU f t≠0)(lo:Int)(n:Nat)(D:lo≤(p+o)/1440-1):
  ∀k:Nat,(p+k-1+o)/1440<lo+n→uH (f-o) (jU f t) p (p+k) lo n=pf (fun x=>kC ((x+o)%1440) f t) p k
 |0,_=>by rw[show p+((0:Nat):Int)=p by omega,EM];rfl
 |k+1,h=>by
  have F:1≤jU f t∧jU f t<1440:=by unfold jU at E ⊢; omega
  have ih:=Jb H I E lo n D k (by omega)
  rw[show p+((k+1:Nat):Int)=p+k+1 by omega,EL F.1 F.2 (by omega),ih,pf]
  grind [Ja]
def yl(a b o:Int):List (Int×Int×Int):=if a<b then [(a,b,o)]else []
def oc(S T fr o:Int):List (Int×Int)→List (Int×Int×Int)
 | []=>yl (max fr S) (min 52596000 T) o
 |s::r=>yl (max fr S) (min s.1 T) o++oc S T s.1 s.2 r
def wJ(g:Int×Int→Bool)(l:List (Int×Int×Int)):Int:=(l.map fun x=>uG (fun t=>g (t,x.2.2)) x.1 x.2.1).sum
theorem U8(g:Int×Int→Bool)(a b o:Int):wJ g (yl a b o)=uG (fun t=>g (t,o)) a b:=by
 grind [yl,wJ,vB]
theorem Jc(g:Int×Int→Bool)(l r:List (Int×Int×Int)):wJ g (l++r)=wJ g l+wJ g r:=by
 grind [wJ]
theorem Jd(g:Int×Int→Bool){S T:Int}(hT:T≤52596000): ∀(l:List (Int×Int)) (p:Option Int) (fr o:Int),DR p l=0→(∀s∈l.head?,fr≤s.1)→wJ g (oc S T fr o l)=uG (fun t=>g (t,tm o l t)) (max fr S) T
 | [],p,fr,o,h,AR=>by
   rw[oc,U8,Int.min_eq_right hT];rfl
 |s::r,p,fr,o,h,AR=>by
  obtain⟨_,_,_,E⟩:=CR h
  have hs:=AR s rfl
  have J: ∀x∈r.head?,s.1≤x.1:=by
   intro x F
   cases r with
   |nil=>cases F
   |cons y r=>
    cases F
    have:=(CR E).2.2.1 s.1 rfl
    omega
  rw[oc,Jc,U8,Jd g hT r _ s.1 s.2 E J]
  have D: ∀t,s.1≤t→tm o (s::r) t=tm s.2 r t:=fun t H=>by rw[tm,if_pos H]
  have early: ∀t,t<s.1→tm o (s::r) t=o:=fun t H=>by rw[tm,if_neg (by omega)]
  by_cases I:max fr S≤s.1∧s.1≤T
  ·rw[U7 (m:=s.1) _ I.1 I.2,show min s.1 T=s.1 by omega,show max s.1 S=s.1 by omega]
   grind [wI]
  ·by_cases N:s.1≤T
   ·rw[vB (a:=max fr S) (b:=min s.1 T) _ (by omega),show max s.1 S=max fr S by omega,Int.zero_add]
    exact wI fun t K _=>by rw[D t (by omega)]
   ·rw[vB (a:=max s.1 S) (b:=T) _ (by omega),show min s.1 T=T by omega,Int.add_zero]
    exact wI fun t _ K=>by rw[early t (by omega)]
def Zo.bandM(z:Zo)(S T f t:Int):Int:=uG (fun x=>kC (z.clk x) f t) S T
theorem Lr{z:Zo}(hv:nh z=0){S T f t:Int}(D:0≤S)(hT:T≤52596000):wJ (fun x=>kC ((x.1+x.2)%1440) f t) (oc S T 0 z.o z.sh)=z.bandM S T f t:=by
 have h:=(nE hv).2.2
 rw[Jd _ hT z.sh none 0 z.o h,show max 0 S=S by omega]
 ·rfl
 ·intro s hs
  have:=(A0 h s (List.mem_of_mem_head? hs)).1
  grind [sq]
theorem su{a b:Int}:(if b>a then b else a)=max a b:=by rw[Int.max_def];split <;> split <;> omega
theorem qv{a b:Int}:(if b<a then b else a)=min a b:=by rw[Int.min_def];split <;> split <;> omega
theorem uI{lh:iz ib}{sh:List ib}{v:T}{k n sz bytes:Nat}{cs:List T}(h:iP lh v k sz n cs)(D:List T)(F:D.length=sz)(E:(n+1)*bytes≤roomy)(ex:Bool):
  appW lh sh k sz bytes v (.sl D 1 ex)=some (J4 lh sh k sz bytes v (.sl D 1 ex),Cy lh sh k sz bytes v (.sl D 1 ex))∧iP (Cy lh sh k sz bytes v (.sl D 1 ex)) (J4 lh sh k sz bytes v (.sl D 1 ex)) k sz (n+1) (cs++D)∧ ∀j,j≠k→a6 (Cy lh sh k sz bytes v (.sl D 1 ex)) j=a6 lh j:=
 iP.appW h (m:=0) (by rw[FZ,if_pos (by omega)]) (by omega) E
def Aw(l:List (Int×Int×Int)):List T:=l.flatMap fun x=> [.i .i64 x.1,.i .i64 x.2.1,.i .i64 x.2.2]
theorem Na(a b:List (Int×Int×Int)):Aw (a++b)=Aw a++Aw b:=by unfold Aw;rw[List.flatMap_append]
theorem Nb(p q o:Int)(l:List (Int×Int×Int)):Aw l++ [.i .i64 p,.i .i64 q,.i .i64 o]=Aw (l++ [(p,q,o)]):=by rw[Na];rfl
section
variable(z:Zo)(a:T)(hz:Zy z a)(hlen:z.sh.length≤16)(A B:Int)
def tp(z:Zo)(A B h D:Int)(k:Nat):List (Int×Int×Int):=if k≤z.sh.length then oc A B h D (z.sh.drop k)else []
theorem PO{h D:Int}{k:Nat}(E:k<z.sh.length):tp z A B h D k=yl (max h A) (min z.sh[k].1 B) D++tp z A B z.sh[k].1 z.sh[k].2 (k+1):=by
 unfold tp
 rw[if_pos (by omega),if_pos (by omega),List.drop_eq_getElem_cons E,oc]
theorem Ls{h D:Int}:tp z A B h D z.sh.length=yl (max h A) (min 52596000 B) D:=by
 unfold tp
 rw[if_pos (by omega),List.drop_length,oc]
theorem uJ{h D:Int}:tp z A B h D (z.sh.length+1)= []:=by
 unfold tp
 rw[if_neg (by omega)]
include hz hlen
theorem avi(fr:Fr)(lh:iz ib)(sh:List ib)(H:an fr 2= .ptr .L 2 1 0)(I:an fr 3= .ptr .L 3 1 0)(W:an fr 5= .nilsl)(U:an fr 6= .i .i64 0)(V:an fr 7= .i .i64 z.o)(X:an fr 8= .i .i64 0)(F:a6 lh 2=⟨1,.cells (qK z a) 0 true⟩)(J:a6 lh 3=⟨1,.cells [.i .i64 A,.i .i64 B] 0 true⟩):
  rD 63 qO fr lh sh (.ext 0)∧
  (iP (lZ pE 63 qO fr lh sh) (an (pw pE 63 qO fr lh sh) 5) 49 3 (oc A B 0 z.o z.sh).length (Aw (oc A B 0 z.o z.sh))∧(oc A B 0 z.o z.sh).length≤17∧ng pE 63 qO fr lh sh=sh):=by
 obtain⟨cc,Z,hc⟩:=hz
 unfold qK at F
 refine lQ (fun k st=> ∃(fr:Fr) (lh:iz ib) (K N:Int) (L:List (Int×Int×Int)),st=⟨fr,lh,sh⟩∧an fr 2= .ptr .L 2 1 0∧an fr 3= .ptr .L 3 1 0∧an fr 6= .i .i64 K∧an fr 7= .i .i64 N∧an fr 8= .i .i64 (k:Int)∧a6 lh 2=⟨1,.cells [.s z.nm,.i .i64 z.o,a] 0 true⟩∧a6 lh 3=⟨1,.cells [.i .i64 A,.i .i64 B] 0 true⟩∧iP lh (an fr 5) 49 3 L.length (Aw L)∧L.length≤k∧L++tp z A B K N k=oc A B 0 z.o z.sh)
  (fun js iN jb=>iP iN (an js 5) 49 3 (oc A B 0 z.o z.sh).length (Aw (oc A B 0 z.o z.sh))∧(oc A B 0 z.o z.sh).length≤17∧jb=sh) _ (z.sh.length+1) ?_ ?_ fr lh sh ⟨fr,lh,0,z.o,[],rfl,H,I,U,V,X,F,J,by rw[W];exact iP.nil,by simp,by simp[tp]⟩
 ·rintro k _ hk ⟨fr,lh,K,N,L,rfl,H,I,U,V,X,F,J,O,hL,D⟩
  have iR:(k:Int)≤z.sh.length:=by omega
  have hw:=iM (k:=k) (by omega)
  have E:=fun e:Int=>uI (sh:=sh) O [.i .i64 (max K A),.i .i64 (min e B),.i .i64 N] rfl (bytes:=24) (by unfold roomy;omega) true
  generalize W:an fr 5=v5 at O E
  by_cases ua:k<z.sh.length
  ·have hk2:(k:Int)<z.sh.length:=by omega
   obtain⟨rr,iS⟩:=CS Z hc ua
   rw[PO z A B ua]at D
   generalize z.sh[k]=s at*
   have E:=E s.1
   have Y:=(E.2.2 2 (by decide)).trans F
   have p3:=(E.2.2 3 (by decide)).trans J
   simp only[qB,seval,repl,qO,H,I,W,U,V,X,F,J,Z.lenI,iR,hk2,iS,hw,su,qv,O.notS,E.1,Y]
   refine wD (fun h=> ?_) (fun h=> ?_)
   ·rw[yl,if_pos h]at D
    exact k7 ⟨_,_,s.1,s.2,L++ [(max K A,min s.1 B,N)],rfl,by simp only[qA,seval,H],by simp only[qA,seval,I],by simp only[qA,seval],by simp only[qA,seval],by simp only[qA,seval],Y,p3,by simp only[qA,seval];rw[←Nb,List.length_append];exact E.2.1,by simp;omega,by rw[List.append_assoc];exact D⟩
   ·rw[yl,if_neg h,List.nil_append]at D
    exact k7 ⟨_,_,s.1,s.2,L,rfl,by simp only[qA,seval,H],by simp only[qA,seval,I],by simp only[qA,seval],by simp only[qA,seval],by simp only[qA,seval],F,J,by simp only[qA,seval,W];exact O,by omega,D⟩
  ·obtain rfl:k=z.sh.length:=by omega
   rw[Ls]at D
   have E:=E 52596000
   have Y:=(E.2.2 2 (by decide)).trans F
   have p3:=(E.2.2 3 (by decide)).trans J
   simp only[qB,seval,repl,qO,H,I,W,U,V,X,F,J,Z.lenI,Int.lt_irrefl,Int.le_refl,hw,su,qv,O.notS,E.1,Y]
   refine wD (fun h=> ?_) (fun h=> ?_)
   ·rw[yl,if_pos h]at D
    exact k7 ⟨_,_,K,N,L++ [(max K A,min 52596000 B,N)],rfl,by simp only[qA,seval,H],by simp only[qA,seval,I],by simp only[qA,seval,U],by simp only[qA,seval,V],by simp only[qA,seval],Y,p3,by simp only[qA,seval];rw[←Nb,List.length_append];exact E.2.1,by simp;omega,by rw[uJ,List.append_nil];exact D⟩
   ·rw[yl,if_neg h,List.append_nil]at D
    exact k7 ⟨_,_,K,N,L,rfl,by simp only[qA,seval,H],by simp only[qA,seval,I],by simp only[qA,seval,U],by simp only[qA,seval,V],by simp only[qA,seval],F,J,by simp only[qA,seval,W];exact O,by omega,by rw[uJ,List.append_nil];exact D⟩
 ·rintro _ ⟨fr,lh,K,N,L,rfl,H,I,U,V,X,F,J,O,hL,D⟩
  rw[uJ,List.append_nil]at D
  subst D
  have iR: ¬((z.sh.length+1:Nat):Int)≤z.sh.length:=by omega
  simp only[qA,seval,qO,H,X,F,Z.lenI,iR]
  exact mI ⟨rfl,(by simp only[qA,seval];exact O),by omega,rfl⟩
theorem U9(sp:T)(O:sp= .agg [.i .i64 A,.i .i64 B]):hZ pE 196 [.agg (qK z a),sp] []=some (kz (oc A B 0 z.o z.sh).length (Aw (oc A B 0 z.o z.sh)),[]):=by
 subst O
 have N:=fun fr lh sh h D E F H I J K=>avi z a hz hlen A B fr lh sh h D E F H I J K
 have U:=fun m keep fr lh sh h D E F H I J K=>iP.fzW (m:=m) (keep:=keep) (sh:=sh) (N fr lh sh h D E F H I J K).2.1
 have WR:=fun keep fr lh sh h D E F H I J K=>iP.fzV (keep:=keep) (sh:=sh) (N fr lh sh h D E F H I J K).2.1
 obtain⟨V,W,X⟩:=hz
 unfold qK at N U WR ⊢
 rw[im abO (by simp[RG])]
 simp only[qA,seval,RG,N,WR,zB]
end
end Go.Proofs.YtbdfboojnfinkaaGreat
