/- Walks of functions of the program and of the reference, and their plain laws, part 16. Conditions: the theorems' own. -/
import Derived.Test.YtcpceiclnbmgiaaGreatGS
import Derived.Test.YtcpceiclnbmgiaaGreatM4
import Derived.Test.YtcpceiclnbmgiaaGreatM5
import Derived.Test.YtcpceiclnbmgiaaGreatM12
import Derived.Test.YtcpceiclnbmgiaaGreatM15
import Derived.KernelRfl
set_option maxRecDepth 100000
set_option linter.unusedSimpArgs false
set_option linter.unusedVariables false
set_option maxHeartbeats 16000000
namespace Go.Proofs.YtcpceiclnbmgiaaGreat
open Go Go.Ev
theorem itI{p:Prop}[Decidable p]{α:Type}{k:IntKind}{a b:Int}{s:α}:(if p then some (T.i k a,s)else some (T.i k b,s))=some (T.i k (if p then a else b),s):=by split <;> rfl
def TkR(k:Int×Bool)(c:List T):Prop:=c= [.i .i64 k.1,.b k.2]
theorem TkR.len(k:Int×Bool)(c:List T)(h:TkR k c):c.length=2:=by rw[h];rfl
def Dq(d:List (Int×Bool))(v:T):Prop:= ∃r,IsSl v d.length r∧aA TkR d r
theorem qd{d:List (Int×Bool)}{v:T}(h:Dq d v)(i:Nat)(hi:i<d.length): ∃r,∀kk,dV v (.i kk (i:Int)) 2=some (.vp (.i .i64 d[i].1:: .b d[i].2::r)):=by
 obtain⟨D,h1,h2⟩:=h
 obtain⟨c,r,e,h⟩:=kD (k:=2) TkR.len h1 h2 i hi
 simp_all[TkR]
def sX(c:Ct)(r:List Fl)(i j:Int):Bool:=match r[i.toNat]?,r[j.toNat]? with
 |some f,some g=>Mf c f g
 |_,_=>false
theorem JB(c:Ct)(r:List Fl){i j:Nat}(hi:i<r.length)(D:j<r.length):sX c r i j=Mf c r[i] r[j]:=by
 grind [sX]
theorem Gx{n:Nat}{i:Int}(h:sW n i=true): ∃k:Nat,k<n∧i=k:=by
 unfold sW at h
 rw[decide_eq_true_eq]at h
 exact⟨i.toNat,by omega,by omega⟩
def Ek(c:Ct)(D:List Fl):List (Int×Bool)→Bool
 |k::l::r=>sX c D k.1 l.1&&Ek c D (l::r)
 |_=>true
def mi(c:Ct)(r:List Fl)(d:List (Int×Bool)):Int:=
 if(d.length:Int)<1 then 5 else if(6:Int)<d.length then 5 else if d.all (fun k=>sW r.length k.1)=true then(if Ek c r d=true then 0 else 14)else 6
theorem amM(c:Ct)(r:List Fl){d:List (Int×Bool)}{k:Nat}(hk:k+1<d.length):Ek c r (d.drop k)=(sX c r d[k].1 d[k+1].1&&Ek c r (d.drop (k+1))):=by
 grind [List.drop_eq_getElem_cons,Ek]
theorem afj(c:Ct)(r:List Fl){d:List (Int×Bool)}{k:Nat}(hk:k+1=d.length):Ek c r (d.drop k)=true:=by
 rw[List.drop_eq_getElem_cons (by omega:k<d.length),List.drop_eq_nil_of_le zO,Ek]
 simp
theorem amN{α:Type}{p:α→Bool}{d:List α}{k:Nat}(hk:k<d.length):(d.drop k).all p=(p d[k]&&(d.drop (k+1)).all p):=by
 rw[List.drop_eq_getElem_cons hk,List.all_cons]
def stV(c:Ct)(zT aT fT a7 a8 a9 a10 aw av:T)(vs:List T):T:= .vp (zT::aT::fT::(aR c a7 a8 a9 a10 aw av++vs))
section
variable(t:Tt)(c:Ct)(zT aT fT a7 a8 a9 a10 aw av:T)(vs:List T)(hT:ow t zT aT fT)
end
section
variable(t:Tt)(c:Ct)(zT aT fT a7 a8 a9 a10 aw av:T)(hT:ow t zT aT fT)(hC:oP c a7 a8 a9 a10 aw av)
theorem JC(hT:ow t zT aT fT)(hC:oP c a7 a8 a9 a10 aw av){i j:Int}(hi:sW t.fl.length i=true)(J:sW t.fl.length j=true):ae pE 12 [.agg [zT,aT,fT],.agg (aR c a7 a8 a9 a10 aw av),.i .i64 i,.i .i64 j] []=some (.b (sX c t.fl i j),[]):=by
 obtain⟨i,D,rfl⟩:=Gx hi
 obtain⟨j,F,rfl⟩:=Gx J
 obtain⟨⟨X,Y,Z⟩,⟨ac,b1,b2⟩,⟨fc,H,I⟩⟩:=hT
 obtain⟨⟨y7,i7,j7⟩,⟨y8,i8,j8⟩,⟨y9,i9,j9⟩,⟨K,N,ua⟩,⟨O,U,yn⟩,⟨V,W,zN⟩⟩:=hC
 rw[JB c t.fl D F]
 obtain⟨r,h1⟩:=ot H I i D
 obtain⟨r',h2⟩:=ot H I j F
 rw[an aj7 (by simp[xJ])]
 generalize t.fl[i]=f at*
 generalize t.fl[j]=g at*
 unfold aR Mf
 simp only[qB,seval,xJ,h1,h2]
 by_cases e1:f.to=g.fr <;> by_cases e2:c.cn≤wr .i64 (g.dp-f.ar) <;> by_cases e3:wr .i64 (g.dp-f.ar)≤c.st <;> simp[e1,e2,e3]
theorem aGc(d:List (Int×Bool))(F:T)(H:Dq d F)(hlen:d.length≤1000)(J:List T)(K:IsSl fT t.fl.length J)(r:Bool)(hr:r=d.all fun k=>sW t.fl.length k.1)(o:Out)(I:o=if r=true then .ext 0 else .ret)(fr:Fr)(lh:aB ah)(sh:List ah)
  (h2:aa fr 2=F) (h3:aa fr 3= .ptr .L 3 1 0) (D:aa fr 7= .i .i64 0) (N:ab lh 3=⟨1,.cells [zT,aT,fT] 0 true⟩):
  mI 61 oS fr lh sh o∧((r=false→aa (kR pE 61 oS fr lh sh) 6= .i .i64 6)∧iy pE 61 oS fr lh sh=lh∧iF pE 61 oS fr lh sh=sh):=by
 refine dJ (fun k st=> ∃(fr:Fr),st=⟨fr,lh,sh⟩∧r=((d.drop k).all fun k=>sW t.fl.length k.1)∧aa fr 2=F∧aa fr 3= .ptr .L 3 1 0∧aa fr 7= .i .i64 (k:Int)) (fun O U V=>(r=false→aa O 6= .i .i64 6)∧U=lh∧V=sh) o d.length ?_ ?_ fr lh sh ⟨fr,rfl,hr,h2,h3,D⟩
 ·rintro k _ hk ⟨fr,rfl,hr,h2,h3,D⟩
  have W:(k:Int)<d.length:=zO
  have X:=aI (k:=k) zO
  obtain⟨Z,Y⟩:=qd H k hk
  rw[amN hk]at hr
  unfold sW at hr
  generalize d[k]=y at*
  simp only[qB,seval,oS,h2,h3,D,N,H.choose_spec.1.lenI,K.lenI,W,X,Y]
  repeat' (refine px (fun _=> ?_) (fun _=> ?_))
  all_goals first
   |(rw[decide_eq_false zO,Bool.false_and]at hr
     exact tz ⟨by rw[I,hr];rfl,fun _=>wL,rfl,rfl⟩)
   |(rw[decide_eq_true zO,Bool.true_and]at hr
     exact cS ⟨_,rfl,hr,by simp only[qA,seval,h2],by simp only[qA,seval,h3],by simp only[qA,seval]⟩)
 ·rintro _ ⟨fr,rfl,hr,h2,h3,D⟩
  rw[List.drop_length]at hr
  simp only[qA,seval,oS,h2,D,H.choose_spec.1.lenI,Int.lt_irrefl]
  exact eL ⟨by rw[I,hr];rfl,fun h=>(by rw[hr]at h;cases h),rfl,rfl⟩
theorem aGd(hT:ow t zT aT fT)(hC:oP c a7 a8 a9 a10 aw av)(d:List (Int×Bool))(H:T)(F:Dq d H)(h1:1≤d.length)(hlen:d.length≤1000)(W: ∀k∈d,sW t.fl.length k.1=true)(r:Bool)(hr:r=Ek c t.fl d)(o:Out)(X:o=if r=true then .ext 2 else .ret)(fr:Fr)(lh:aB ah)(sh:List ah)
  (h2:aa fr 2=H) (h3:aa fr 3= .ptr .L 3 1 0) (h4:aa fr 4= .ptr .L 4 1 0) (D:aa fr 8= .i .i64 1) (Z:ab lh 3=⟨1,.cells [zT,aT,fT] 0 true⟩) (Y:ab lh 4=⟨1,.cells (aR c a7 a8 a9 a10 aw av) 0 true⟩):
  mI 61 rM fr lh sh o∧((r=false→aa (kR pE 61 rM fr lh sh) 6= .i .i64 14)∧iF pE 61 rM fr lh sh=sh):=by
 have I:=hT
 have J:=hC
 obtain⟨⟨zc,z1,z2⟩,⟨ac,b1,b2⟩,⟨fc,f1,f2⟩⟩:=I
 obtain⟨⟨y7,i7,j7⟩,⟨y8,i8,j8⟩,⟨y9,i9,j9⟩,⟨y10,K,ua⟩,⟨y11,N,yn⟩,⟨y12,O,zN⟩⟩:=J
 refine dJ (fun k st=> ∃(fr:Fr),st=⟨fr,lh,sh⟩∧r=Ek c t.fl (d.drop k)∧aa fr 2=H∧aa fr 3= .ptr .L 3 1 0∧aa fr 4= .ptr .L 4 1 0∧aa fr 8= .i .i64 ((k+1:Nat):Int)) (fun bE aZ aY=>(r=false→aa bE 6= .i .i64 14)∧aY=sh) o (d.length-1) ?_ ?_ fr lh sh ⟨fr,rfl,hr,h2,h3,h4,D⟩
 ·rintro k _ hk ⟨fr,rfl,hr,h2,h3,h4,D⟩
  have U:((k+1:Nat):Int)<d.length:=zO
  have hw:=aI (k:=k+1) zO
  have Dl:wr .i64 (((k+1:Nat):Int)-1)=(k:Int):=by rw[bo zO];omega
  obtain⟨rr,aQ⟩:=qd F k zO
  obtain⟨r2,KP⟩:=qd F (k+1) zO
  rw[amM c t.fl (by omega:k+1<d.length)]at hr
  have V:=JC t c zT aT fT a7 a8 a9 a10 aw av hT hC (W _ (List.getElem_mem (by omega:k<d.length))) (W _ (List.getElem_mem (by omega:k+1<d.length)))
  unfold aR at V Y
  generalize d[k]=x at*
  generalize d[k+1]=y at*
  cases hv:sX c t.fl x.1 y.1 <;> rw[hv]at V hr <;> simp only[Bool.true_and,Bool.false_and]at hr
  all_goals simp only[qA,seval,bp,aJ,rM,h2,h3,h4,D,Z,Y,F.choose_spec.1.lenI,U,hw,Dl,aQ,KP,V,aj8,aCN,z1.froz1,b1.froz1,f1.froz1,i7.froz1,i8.froz1,i9.froz1,K.froz1,N.froz1,O.froz1]
  all_goals first
   |exact tz ⟨by rw[X,hr];rfl,fun _=>wL,rfl⟩
   |exact cS ⟨_,rfl,hr,by simp only[qA,seval,h2],by simp only[qA,seval,h3],by simp only[qA,seval,h4],by simp only[qA,seval]⟩
 ·rintro _ ⟨fr,rfl,hr,h2,h3,h4,D⟩
  rw[afj c t.fl zO]at hr
  have U: ¬((d.length-1+1:Nat):Int)<d.length:=zO
  simp only[qA,seval,rM,h2,D,F.choose_spec.1.lenI,U]
  exact eL ⟨by rw[X,hr];rfl,fun h=>(by rw[hr]at h;cases h),rfl⟩
theorem afl(hT:ow t zT aT fT)(hC:oP c a7 a8 a9 a10 aw av)(d:List (Int×Bool))(D:T)(F:Dq d D)(hlen:d.length≤1000):ae pE 235 [.agg [zT,aT,fT],.agg (aR c a7 a8 a9 a10 aw av),D] []=some (.i .i64 (mi c t.fl d),[]):=by
 have YS:=F.choose_spec.1.lenI
 have H:=hT
 have I:=hC
 obtain⟨⟨zc,z1,z2⟩,⟨ac,b1,b2⟩,⟨N,O,f2⟩⟩:=H
 obtain⟨⟨y7,i7,j7⟩,⟨y8,i8,j8⟩,⟨y9,i9,j9⟩,⟨U,V,ua⟩,⟨W,X,yn⟩,⟨Y,Z,zN⟩⟩:=I
 have r:=fun fr lh sh h2 h3 h7 J=>aGc t zT aT fT d D F hlen N O _ rfl _ rfl fr lh sh h2 h3 h7 J
 rw[an aim (by simp[K2])]
 unfold mi
 cases K:d.all fun k=>sW t.fl.length k.1 <;> rw[K]at r
 ·unfold aR
  simp only[qB,seval,K2,r,YS,itI]
 ·by_cases h1:1≤d.length
  ·have OC:=fun fr lh sh h2 h3 h4 h8 J o4=>aGd t c zT aT fT a7 a8 a9 a10 aw av hT hC d D F h1 hlen (List.all_eq_true.1 K) _ rfl _ rfl fr lh sh h2 h3 h4 h8 J o4
   unfold aR at OC ⊢
   cases hc:Ek c t.fl d <;> rw[hc]at OC
   all_goals simp only[qB,seval,K2,apr,OC,r,YS,itI]
  ·have sQ:(d.length:Int)<1:=zO
   unfold aR
   simp only[qB,seval,K2,YS,sQ]
end
section
variable(c:Ct)(a7 a8 a9 a10 aw av:T)(hT:oP c a7 a8 a9 a10 aw av)(B9:jD c=false∨jM c=false)
include hT B9
theorem amO:ae pE 88 [.agg (aR c a7 a8 a9 a10 aw av)] []=some (.i .i64 (fR c),[]):=by
 obtain⟨⟨c7,H,K⟩,⟨c8,I,N⟩,⟨O,J,U⟩,⟨ta,r,V⟩,⟨tX,D,W⟩,⟨xJ,F,X⟩⟩:=hT
 unfold aR
 rw[an akz (by simp[c88])]
 unfold fR
 unfold jD jM at B9 ⊢
 have w:=fun n lo hi=>cO (vi n lo hi)
 simp(maxDischargeDepth:=6) only[qB,seval,c88,H.lenI,I.lenI,J.lenI,r.lenI,D.lenI,F.lenI,w,HZ]
 clear w
 grind (splits:=40)
theorem amP:ae pE 80 [.agg (aR c a7 a8 a9 a10 aw av)] []=some (.i .i64 (fR c),[]):=by
 obtain⟨⟨c7,H,K⟩,⟨c8,I,N⟩,⟨O,J,U⟩,⟨ta,r,V⟩,⟨tX,D,W⟩,⟨xJ,F,X⟩⟩:=hT
 unfold aR
 rw[an acp (by simp[c80])]
 unfold fR
 unfold jD jM at B9 ⊢
 have w:=fun n lo hi=>cO (nw n lo hi)
 simp(maxDischargeDepth:=6) only[qB,seval,c80,H.lenI,I.lenI,J.lenI,r.lenI,D.lenI,F.lenI,w,DG]
 clear w
 grind (splits:=40)
theorem vG:fR c≠0:=by
 have _:=hT
 unfold fR
 by_cases h:jD c=false
 ·rw[if_pos h];decide
 ·rw[if_neg h,if_pos (B9.resolve_left h)];decide
theorem Ca:fI c=fR c:=by
 unfold fI;rw[if_pos (vG c a7 a8 a9 a10 aw av hT B9)]
theorem ajg: ∃s,ae pE 50 [.agg (aR c a7 a8 a9 a10 aw av)] []=some (.i .i64 (fI c),s):=by
 have SV:=amO c a7 a8 a9 a10 aw av hT B9
 have H:=vG c a7 a8 a9 a10 aw av hT B9
 rw[Ca c a7 a8 a9 a10 aw av hT B9]
 obtain⟨⟨c7,I,N⟩,⟨c8,J,O⟩,⟨U,K,V⟩,⟨ta,r,W⟩,⟨tX,D,X⟩,⟨xJ,F,Y⟩⟩:=hT
 unfold aR at SV ⊢
 rw[an akk (by simp[Tf])]
 generalize fR c=e at*
 simp only[qA,seval,Tf,I.froz1,J.froz1,K.froz1,r.froz1,D.froz1,F.froz1,SV,auQ,H]
 exact⟨_,rfl⟩
theorem OD:ae pE 105 [.agg (aR c a7 a8 a9 a10 aw av)] []=some (.i .i64 (fI c),[]):=by
 have SV:=amP c a7 a8 a9 a10 aw av hT B9
 have H:=vG c a7 a8 a9 a10 aw av hT B9
 rw[Ca c a7 a8 a9 a10 aw av hT B9]
 obtain⟨⟨c7,I,N⟩,⟨c8,J,O⟩,⟨U,K,V⟩,⟨ta,r,W⟩,⟨tX,D,X⟩,⟨xJ,F,Y⟩⟩:=hT
 unfold aR at SV ⊢
 rw[an UF (by simp[KW])]
 generalize fR c=e at*
 simp only[qA,seval,KW,I.froz1,J.froz1,K.froz1,r.froz1,D.froz1,F.froz1,SV,auH,H]
end
structure OE (c:Ct):Prop where
 n7:smC c.cs
 n8: ∀u∈c.ru,X4 u.x
 n9: ∀u∈c.co,X4 u.x
 n10: ∀x∈c.cr,X4 x
 b7: ∃j,j≤2∧c.cs=sg j
 b8: ∀u∈c.ru,(u.sc,u.x)∈Ea
 b9: ∀u∈c.co,(u.sc,u.x)∈Ea
 b10: ∀x∈c.cr,((1:Int),x)∈Ea
theorem OE.sm{c:Ct}(h:OE c)(hs:jM c=true):vn c:=by
 unfold jM at hs
 simp only[Bool.and_eq_true,decide_eq_true_eq]at hs
 obtain⟨h1,h2,h3,h4,h5,h6⟩:=hs
 exact⟨⟨h.n7,iM zO⟩,⟨h.n8,iM zO⟩,⟨h.n9,iM zO⟩,⟨h.n10,iM zO⟩,iM zO,iM zO,h.b7,h.b8,h.b9,h.b10⟩
def eO(t:Tt)(c:Ct):Int:=if ou t≠0 then ou t else fI c
def flG(l:List Fl)(i:Int):Fl:=(l[i.toNat]?).getD ⟨[],[],[],0,0,[],0,0,0⟩
theorem amQ{l:List Fl}{i:Nat}(h:i<l.length):flG l i=l[i]:=by
 unfold flG;rw[Int.toNat_natCast,List.getElem?_eq_getElem h];rfl
theorem xj(c:Ct)(zT aT fT a7 a8 a9 a10 aw av:T)(vs:List T):froz (stV c zT aT fT a7 a8 a9 a10 aw av vs)=true:=nr rfl
section
variable(t:Tt)(c:Ct)(zT aT fT a7 a8 a9 a10 aw av:T)(hT:ow t zT aT fT)(hC:oP c a7 a8 a9 a10 aw av)(hN:OE c)
theorem zX(hT:ow t zT aT fT)(hC:oP c a7 a8 a9 a10 aw av):(froz1 zT=true∧froz1 aT=true∧froz1 fT=true∧froz1 a7=true∧froz1 a8=true∧froz1 a9=true∧froz1 a10=true∧froz1 aw=true∧froz1 av=true)∧cellsOf zT= [zT]∧cellsOf aT= [aT]∧cellsOf fT= [fT]∧cellsOf a7= [a7]∧cellsOf a8= [a8]∧cellsOf a9= [a9]∧cellsOf a10= [a10]∧cellsOf aw= [aw]∧cellsOf av= [av]:=by
 obtain⟨⟨_,H,_⟩,⟨_,I,_⟩,⟨_,J,_⟩⟩:=hT
 obtain⟨⟨_,K,_⟩,⟨_,N,_⟩,⟨_,O,_⟩,⟨_,r,_⟩,⟨_,D,_⟩,⟨_,F,_⟩⟩:=hC
 exact⟨⟨H.froz1,I.froz1,J.froz1,K.froz1,N.froz1,O.froz1,r.froz1,D.froz1,F.froz1⟩,H.cells,I.cells,J.cells,K.cells,N.cells,O.cells,r.cells,D.cells,F.cells⟩
include hC hN
theorem ayL: ∃s,ae pE 50 [.agg (aR c a7 a8 a9 a10 aw av)] []=some (.i .i64 (fI c),s):=by
 by_cases hr:jD c=false
 ·exact ajg c a7 a8 a9 a10 aw av hC (.inl hr)
 ·by_cases hs:jM c=false
  ·exact ajg c a7 a8 a9 a10 aw av hC (.inr hs)
  ·exact Oo c a7 a8 a9 a10 aw av hC (hN.sm (by simpa using hs))
theorem afn:ae pE 105 [.agg (aR c a7 a8 a9 a10 aw av)] []=some (.i .i64 (fI c),[]):=by
 by_cases hr:jD c=false
 ·exact OD c a7 a8 a9 a10 aw av hC (.inl hr)
 ·by_cases hs:jM c=false
  ·exact OD c a7 a8 a9 a10 aw av hC (.inr hs)
  ·exact Rx c a7 a8 a9 a10 aw av hC (hN.sm (by simpa using hs))
omit hN in
theorem El(h:fI c=0):jM c=true:=by
 cases hs:jM c with
 |true=>rfl
 |false=>
  exfalso
  rw[Ca c a7 a8 a9 a10 aw av hC (.inr hs)]at h
  exact vG c a7 a8 a9 a10 aw av hC (.inr hs) h
include hT
theorem YT(h:eO t c=0): ∃s vs,ae pE 23 [.agg [zT,aT,fT],.agg (aR c a7 a8 a9 a10 aw av)] []=some (.tup [stV c zT aT fT a7 a8 a9 a10 aw av vs,.i .i64 0],s)∧Jz t c vs:=by
 unfold eO at h
 by_cases r:ou t=0
 ·rw[if_neg (by simp[r])]at h
  obtain⟨s,vs,h1,_,_,h2⟩:=amI t c zT aT fT a7 a8 a9 a10 aw av hT hC (hN.sm (El c a7 a8 a9 a10 aw av hC h)) r h
  exact⟨s,vs,h1,h2⟩
 ·rw[if_pos r]at h;exact absurd h r
theorem YU(h:eO t c≠0): ∃s,ae pE 23 [.agg [zT,aT,fT],.agg (aR c a7 a8 a9 a10 aw av)] []=some (.tup [.nilptr,.i .i64 (eO t c)],s):=by
 unfold eO at h ⊢
 by_cases F:ou t=0
 ·rw[if_neg (by simp[F])]at h ⊢
  have r:=L8 t zT aT fT hT
  obtain⟨X,D⟩:=ayL c a7 a8 a9 a10 aw av hC hN
  rw[F]at r
  obtain⟨⟨Y,K,Z⟩,⟨ac,N,b2⟩,⟨fc,O,f2⟩⟩:=hT
  obtain⟨⟨_,U,_⟩,⟨_,V,_⟩,⟨_,W,_⟩,⟨_,H,_⟩,⟨_,I,_⟩,⟨_,J,_⟩⟩:=hC
  rw[an acg (by simp[c23])]
  unfold aR at D ⊢
  simp only[qA,seval,c23,r,D,h,akj,auk,K.froz1,N.froz1,O.froz1,U.froz1,V.froz1,W.froz1,H.froz1,I.froz1,J.froz1]
  exact⟨_,rfl⟩
 ·rw[if_pos F]
  exact afi t c zT aT fT a7 a8 a9 a10 aw av hT hC F
theorem Gy(H: ∀f∈t.fl,f.nu.length≤fj):ae pE 62 [.agg [zT,aT,fT],.agg (aR c a7 a8 a9 a10 aw av)] []=some (.i .i64 (eO t c),[]):=by
 have h1:=amA t zT aT fT hT H
 have h2:=afn c a7 a8 a9 a10 aw av hC hN
 obtain⟨⟨W,I,X⟩,⟨ac,J,Y⟩,⟨Z,K,f2⟩⟩:=hT
 obtain⟨⟨_,N,_⟩,⟨_,O,_⟩,⟨_,U,_⟩,⟨_,r,_⟩,⟨_,D,_⟩,⟨_,F,_⟩⟩:=hC
 unfold eO
 rw[an auy (by simp[c62])]
 unfold aR at h2 ⊢
 by_cases V:ou t=0
 all_goals simp only[qA,seval,c62,h1,h2,V,au7,au8,I.froz1,J.froz1,K.froz1,N.froz1,O.froz1,U.froz1,r.froz1,D.froz1,F.froz1]
theorem Mg(h:eO t c=0):ou t=0∧fI c=0:=by
 have _:=hC;have _:=hN;have _:=hT
 unfold eO at h
 by_cases r:ou t=0
 ·rw[if_neg (by simp[r])]at h;exact⟨r,h⟩
 ·rw[if_pos r]at h;exact absurd h r
theorem afo(I: ∀f∈t.fl,f.nu.length≤fj)(d:List (Int×Bool))(r:T)(H:Dq d r)(hlen:d.length≤1000):ae pE 220 [.agg [zT,aT,fT],.agg (aR c a7 a8 a9 a10 aw av),r] []=some (.i .i64 (if eO t c≠0 then eO t c else mi c t.fl d),[]):=by
 have hz:=zX t c zT aT fT a7 a8 a9 a10 aw av hT hC
 have D:=Gy t c zT aT fT a7 a8 a9 a10 aw av hT hC hN I
 have J:=afl t c zT aT fT a7 a8 a9 a10 aw av hT hC d r H hlen
 have F:=H.choose_spec.1.froz
 rw[an ah7 (by simp[Uf])]
 unfold aR at*
 by_cases h:eO t c=0
 all_goals simp only[qA,seval,Uf,D,K7,J,avW,h,hz,F]
end
theorem YV(a:Int):a.tdiv 1440=if a.tmod 1440<0 then a/1440+1 else a/1440:=by
 grind
theorem amR(a:Int):a.tmod 1440=if a.tmod 1440<0 then a%1440-1440 else a%1440:=by
 grind
def yp(a:Int):Prop:= -100000000≤a∧a≤100000000
theorem xk(a:Int)(D:yp a):ae pE 168 [.i .i64 a] []=some (.tup [.i .i64 (a/1440),.i .i64 (a%1440)],[]):=by
 obtain⟨h1,h2⟩:=D
 have e1:=YV a
 have e2:=amR a
 rw[an ahy (by simp[PU])]
 by_cases h:a.tmod 1440<0
 ·rw[if_pos h]at e1 e2
  rw[e2]at h
  have r:wr .i64 (a/1440+1)=a/1440+1:=bo zO
  have F:wr .i64 (a/1440+1-1)=a/1440:=by rw[bo zO];omega
  have H:wr .i64 (a%1440-1440+1440)=a%1440:=by rw[bo zO];omega
  simp only[qA,seval,PU,e1,e2,r,h,F,H]
 ·rw[if_neg h]at e1 e2
  rw[e2]at h
  have r:wr .i64 (a/1440)=a/1440:=bo zO
  simp only[qA,seval,PU,e1,e2,r,h]
theorem RK(a:Int)(D:yp a):ae pE 258 [.i .i64 a,.i .i64 1440] []=some (.i .i64 (a/1440),[]):=by
 obtain⟨h1,h2⟩:=D
 have e1:=YV a
 rw[an aiC (by simp[P7])]
 by_cases h:a.tmod 1440<0
 ·have H:=h
  rw[if_pos h]at e1
  have r:wr .i64 (a/1440+1)=a/1440+1:=bo zO
  have F:wr .i64 (a/1440+1-1)=a/1440:=by rw[bo zO];omega
  simp only[qA,seval,P7,e1,r,h,F]
 ·rw[if_neg h]at e1
  have r:wr .i64 (a/1440)=a/1440:=bo zO
  simp only[qA,seval,P7,e1,r,h]
theorem xl(a:Int)(r:yp a):ae pE 246 [.i .i64 a] []=some (.tup [.i .i64 (a/1440),.i .i64 (a%1440)],[]):=by
 have D:=RK a r
 obtain⟨h1,h2⟩:=r
 have F:wr .i64 (1440*(a/1440))=1440*(a/1440):=bo zO
 have H:wr .i64 (a-1440*(a/1440))=a%1440:=by rw[bo zO];omega
 rw[an aix (by simp[Un])]
 simp only[qA,seval,Un,D,awb,F,H]
def pK(o:Int):List (Int×Int)→Int→Int
 | [],_=>o
 |s::r,t=>if s.1≤t then pK s.2 r t else o
def yI(o:Int):List (Int×Int)→Int→Int
 | [],_=>o
 |s::r,t=>yI (if s.1≤t then s.2 else o) r t
theorem Cb{p:Option Int}{s:Int×Int}{r:List (Int×Int)}(h:Dk p (s::r)=0):oq s.1=true∧qW s.2=true∧(∀q,p=some q→q<s.1)∧Dk (some s.1) r=0:=by
 unfold Dk at h
 grind
theorem Em: ∀(l:List (Int×Int)) (p o t:Int),Dk (some p) l=0→t<p→yI o l t=o
 | [],p,o,t,h,D=>rfl
 |s::r,p,o,t,h,D=>by
  obtain⟨_,_,h3,h4⟩:=Cb h
  have:=h3 p rfl
  rw[yI,if_neg zO]
  exact Em r s.1 o t h4 zO
theorem YW: ∀(l:List (Int×Int)) (p:Option Int) (o t:Int),Dk p l=0→yI o l t=pK o l t
 | [],p,o,t,h=>rfl
 |s::r,p,o,t,h=>by
  obtain⟨_,_,_,h4⟩:=Cb h
  rw[yI,pK]
  by_cases hs:s.1≤t
  ·rw[if_pos hs,if_pos hs];exact YW r _ _ _ h4
  ·grind [Em]
theorem zY: ∀{l:List (Int×Int)} {p:Option Int},Dk p l=0→ ∀s∈l,oq s.1=true∧qW s.2=true
 |a::r,p,h,s,hs=>by
  obtain⟨h1,h2,_,h4⟩:=Cb h
  rcases List.mem_cons.1 hs with rfl|hs
  ·grind
  ·exact zY h4 s hs
theorem YX: ∀{l:List (Int×Int)} {o t:Int},qW o=true→(∀s∈l,qW s.2=true)→qW (pK o l t)=true
 | [],o,t,h,_=>h
 |s::r,o,t,h,D=>by
  rw[pK]
  split
  ·exact YX (D s xv) fun x hx=>D x (by simp[hx])
  ·exact h
def Zo.off(z:Zo)(t:Int):Int:=pK z.o z.sh t
theorem ja{z:Zo}(h:iG z=0):qW z.o=true∧z.sh.length≤16∧Dk none z.sh=0:=by
 grind [iG]
theorem Zo.off_bd{z:Zo}(h:iG z=0)(t:Int): -840≤z.off t∧z.off t≤840:=by
 obtain⟨h1,_,h3⟩:=ja h
 have:=YX (t:=t) h1 fun s hs=>(zY h3 s hs).2
 grind [qW,Zo.off]
def mK(z:Zo)(a:T):List T:= [.s z.nm,.i .i64 z.o,a]
def ZoT(z:Zo)(a:T):Prop:= ∃r,IsSl a z.sh.length r∧aA SW z.sh r
section
variable(z:Zo)(a:T)(hz:ZoT z a)(hlen:z.sh.length≤16)
include hz hlen
theorem aGf(t:Int)(fr:Fr)(lh:aB ah)(sh:List ah)(h1:aa fr 1= .i .i64 t)(h5:aa fr 5= .i .i64 z.o)(F:aa fr 11=a)(D:aa fr 12= .i .i64 (z.sh.length:Int))(I:aa fr 13= .i .i64 0):
  mI 25 rI fr lh sh (.ext 0)∧
  (aa (kR pE 25 rI fr lh sh) 5= .i .i64 (pK z.o z.sh t)∧iF pE 25 rI fr lh sh=sh):=by
 obtain⟨W,J,hc⟩:=hz
 refine dJ (fun k st=> ∃(fr:Fr) (lh:aB ah) (o:Int),st=⟨fr,lh,sh⟩∧aa fr 1= .i .i64 t∧aa fr 5= .i .i64 o∧aa fr 11=a∧aa fr 12= .i .i64 (z.sh.length:Int)∧aa fr 13= .i .i64 (k:Int)∧pK o (z.sh.drop k) t=pK z.o z.sh t)
  (fun K X N=>aa K 5= .i .i64 (pK z.o z.sh t)∧N=sh) _ z.sh.length ?_ ?_ fr lh sh ⟨fr,lh,z.o,rfl,h1,h5,F,D,I,rfl⟩
 ·rintro k _ hk ⟨fr,lh,o,rfl,h1,h5,F,D,I,H⟩
  have O:(k:Int)<z.sh.length:=zO
  have U:=aI (k:=k) zO
  obtain⟨Y,V⟩:=BV J hc hk
  rw[List.drop_eq_getElem_cons hk,pK]at H
  generalize z.sh[k]=s at*
  generalize pK z.o z.sh t=r at*
  simp only[qB,seval,rI,h1,F,D,I,O,V,U]
  refine px (fun h=> ?_) (fun h=> ?_)
  ·rw[if_neg zO]at H
   exact eL ⟨rfl,by simp only[qA,seval,h5,H],rfl⟩
  ·rw[if_pos zO]at H
   exact cS ⟨_,_,s.2,rfl,by simp only[qA,seval,h1],by simp only[qA,seval],by simp only[qA,seval,F],by simp only[qA,seval,D],by simp only[qA,seval],H⟩
 ·rintro _ ⟨fr,lh,o,rfl,h1,h5,F,D,I,H⟩
  rw[List.drop_length,pK]at H
  simp only[qA,seval,rI,D,I,Int.lt_irrefl]
  exact eL ⟨rfl,by simp only[qA,seval,h5,H],rfl⟩
theorem RM(t:Int):ae pE 166 [.agg (mK z a),.i .i64 t] []=some (.i .i64 (z.off t),[]):=by
 have F:=fun fr lh sh h1 h5 r D H=>aGf z a hz hlen t fr lh sh h1 h5 r D H
 obtain⟨J,I,hc⟩:=hz
 unfold Zo.off mK
 rw[an ahw (by simp[TU])]
 simp only[qA,seval,TU,I.lenI,F]
theorem aGg(t:Int)(fr:Fr)(lh:aB ah)(sh:List ah)(h1:aa fr 1= .i .i64 t)(h2:aa fr 2= .ptr .L 2 1 0)(h5:aa fr 5= .i .i64 z.o)(h6:aa fr 6= .i .i64 0)(F:ab lh 2=⟨1,.cells (mK z a) 0 true⟩):
  mI 31 rO fr lh sh (.ext 0)∧
  (aa (kR pE 31 rO fr lh sh) 5= .i .i64 (yI z.o z.sh t)∧iF pE 31 rO fr lh sh=sh):=by
 obtain⟨U,H,hc⟩:=hz
 unfold mK at F
 refine dJ (fun k st=> ∃(fr:Fr) (o:Int),st=⟨fr,lh,sh⟩∧aa fr 1= .i .i64 t∧aa fr 2= .ptr .L 2 1 0∧aa fr 5= .i .i64 o∧aa fr 6= .i .i64 (k:Int)∧yI o (z.sh.drop k) t=yI z.o z.sh t)
  (fun I V J=>aa I 5= .i .i64 (yI z.o z.sh t)∧J=sh) _ z.sh.length ?_ ?_ fr lh sh ⟨fr,z.o,rfl,h1,h2,h5,h6,rfl⟩
 ·rintro k _ hk ⟨fr,o,rfl,h1,h2,h5,h6,D⟩
  have K:(k:Int)<z.sh.length:=zO
  have N:=aI (k:=k) zO
  obtain⟨W,O⟩:=BV H hc hk
  rw[List.drop_eq_getElem_cons hk,yI]at D
  generalize z.sh[k]=s at*
  generalize yI z.o z.sh t=r at*
  simp only[qB,seval,rO,h1,h2,h6,F,H.lenI,K,O,N]
  refine px (fun h=> ?_) (fun h=> ?_)
  ·rw[if_pos h]at D
   exact cS ⟨_,s.2,rfl,by simp only[qA,seval,h1],by simp only[qA,seval,h2],by simp only[qA,seval],by simp only[qA,seval],D⟩
  ·rw[if_neg h]at D
   exact cS ⟨_,o,rfl,by simp only[qA,seval,h1],by simp only[qA,seval,h2],by simp only[qA,seval,h5],by simp only[qA,seval],D⟩
 ·rintro _ ⟨fr,o,rfl,h1,h2,h5,h6,D⟩
  rw[List.drop_length,yI]at D
  simp only[qA,seval,rO,h2,h6,F,H.lenI,Int.lt_irrefl]
  exact eL ⟨rfl,by simp only[qA,seval,h5,D],rfl⟩
theorem pL(hv:iG z=0)(t:Int):ae pE 244 [.agg (mK z a),.i .i64 t] []=some (.i .i64 (z.off t),[]):=by
 have r:=fun fr lh sh h1 h2 h5 h6 D=>aGg z a hz hlen t fr lh sh h1 h2 h5 h6 D
 obtain⟨F,H,hc⟩:=hz
 rw[YW _ _ _ _ (ja hv).2.2]at r
 unfold Zo.off
 unfold mK at r ⊢
 rw[an Vi (by simp[Ul])]
 simp only[qA,seval,Ul,r]
end
section
variable(z:Zo)(a:T)(hz:ZoT z a)(hv:iG z=0)
include hz hv
theorem ZoT.froz1:froz1 a=true:=by have _:=hv;obtain⟨D,r,_⟩:=hz;exact r.froz1
theorem tJ(t:Int)(D:oq t=true):ae pE 117 [.agg (mK z a),.i .i64 t] []=some (.tup [.i .i64 (z.off t),.i .i64 0],[]):=by
 have h1:=RM z a hz (ja hv).2.1 t
 obtain⟨F,r,hc⟩:=hz
 have h2:=BW z a F r hc
 have h3:=Ou t
 rw[hv]at h2
 rw[D]at h3
 unfold mK at h1 ⊢
 rw[an agR (by simp[Tq])]
 simp only[qA,seval,Tq,h1,h2,h3,r.froz1,avF,acq,UO]
theorem RN(t:Int)(D:oq t=true):ae pE 271 [.agg (mK z a),.i .i64 t] []=some (.tup [.i .i64 (z.off t),.i .i64 0],[]):=by
 have h1:=pL z a hz (ja hv).2.1 hv t
 obtain⟨F,r,hc⟩:=hz
 have h2:=BX z a F r hc
 have h3:=Ov t
 rw[hv]at h2
 rw[D]at h3
 unfold mK at h1 ⊢
 rw[an aiH (by simp[Uv])]
 simp only[qA,seval,Uv,h1,h2,h3,r.froz1,H6,UR,U6]
theorem Mh(t:Int)(r:oq t=true):wr .i64 (t+z.off t)=t+z.off t∧yp (t+z.off t):=by
 have _:=hz
 have h1:=Zo.off_bd hv t
 unfold oq at r
 simp only[Bool.and_eq_true,decide_eq_true_eq]at r
 exact⟨bo zO,by unfold yp;omega⟩
def Zo.day(z:Zo)(t:Int):Int:=(t+z.off t)/1440
def Zo.clk(z:Zo)(t:Int):Int:=(t+z.off t)%1440
theorem JD(t:Int)(r:oq t=true):ae pE 118 [.agg (mK z a),.i .i64 t] []=some (.tup [.i .i64 (z.day t),.i .i64 (z.clk t),.i .i64 0],[]):=by
 have h1:=tJ z a hz hv t r
 obtain⟨w,n⟩:=Mh z a hz hv t r
 have h2:=xk _ n
 obtain⟨F,D,hc⟩:=hz
 have h3:ae pE 167 [.agg (mK z a),.i .i64 t] []=some (.tup [.i .i64 (t+z.off t),.i .i64 0],[]):=by
  unfold mK at h1 ⊢
  rw[an ahx (by simp[TV])]
  simp only[qA,seval,TV,h1,w,D.froz1,UM]
 unfold Zo.day Zo.clk
 generalize t+z.off t=m at*
 unfold mK at h3 ⊢
 rw[an agS (by simp[Ts])]
 simp only[qA,seval,Ts,h3,h2,D.froz1,avG,ahz]
theorem YY(t:Int)(r:oq t=true):ae pE 257 [.agg (mK z a),.i .i64 t] []=some (.tup [.i .i64 (z.day t),.i .i64 (z.clk t),.i .i64 0],[]):=by
 have h1:=RN z a hz hv t r
 obtain⟨w,n⟩:=Mh z a hz hv t r
 have h2:=xl _ n
 obtain⟨F,D,hc⟩:=hz
 have h3:ae pE 267 [.agg (mK z a),.i .i64 t] []=some (.tup [.i .i64 (t+z.off t),.i .i64 0],[]):=by
  unfold mK at h1 ⊢
  rw[an aiG (by simp[Uu])]
  simp only[qA,seval,Uu,h1,w,D.froz1,awe]
 unfold Zo.day Zo.clk
 generalize t+z.off t=m at*
 unfold mK at h3 ⊢
 rw[an aiB (by simp[Us])]
 simp only[qA,seval,Us,h3,h2,D.froz1,awd,No]
end
def kQ(f:Int→Bool)(a:Int):Nat→Int
 |0=>0
 |n+1=>kQ f a n+if f (a+n)=true then 1 else 0
theorem JE(f:Int→Bool)(a:Int)(m:Nat): ∀n,kQ f a (m+n)=kQ f a m+kQ f (a+m) n
 |0=>by simp[kQ]
 |n+1=>by
  rw[←Nat.add_assoc,kQ,kQ,JE f a m n,show a+((m+n:Nat):Int)=a+m+n by omega]
  omega
theorem Cd{f g:Int→Bool}{a:Int}: ∀{n:Nat},(∀t,a≤t→t<a+n→f t=g t)→kQ f a n=kQ g a n
 |0,_=>rfl
 |n+1,h=>by rw[kQ,kQ,Cd fun t h1 h2=>h t h1 zO,h (a+n) zO zO]
theorem zZ(f:Int→Bool)(a:Int): ∀n,0≤kQ f a n∧kQ f a n≤n
 |0=>by simp[kQ]
 |n+1=>by have:=zZ f a n;rw[kQ];split <;> omega
def q9(f:Int→Bool)(a b:Int):Int:=kQ f a (b-a).toNat
theorem YZ(f:Int→Bool){a m b:Int}(h1:a≤m)(h2:m≤b):q9 f a b=q9 f a m+q9 f m b:=by
 unfold q9
 have:=JE f a (m-a).toNat (b-m).toNat
 grind
theorem sk(f:Int→Bool){a b:Int}(h:b≤a):q9 f a b=0:=by
 unfold q9;rw[show(b-a).toNat=0 by omega];rfl
theorem tK{f g:Int→Bool}{a b:Int}(h: ∀t,a≤t→t<b→f t=g t):q9 f a b=q9 g a b:=by
 grind [q9,Cd]
def Mi(c len p q d:Int):Int:=if max (1440*d+c) p<min (1440*d+c+len) q then min (1440*d+c+len) q-max (1440*d+c) p else 0
def re(c len p q lo:Int):Nat→Int
 |0=>0
 |n+1=>re c len p q lo n+Mi c len p q (lo+n)
theorem RO{c len p q d:Int}(h1:1≤len)(r:p≤q):Mi c len p (q+1) d=Mi c len p q d+if 1440*d+c≤q∧q<1440*d+c+len then 1 else 0:=by
 grind [Mi]
theorem En{c len p q lo:Int}(h1:1≤len)(h2:len<1440)(r:p≤q): ∀n:Nat,re c len p (q+1) lo n=re c len p q lo n+if lo≤(q-c)/1440∧(q-c)/1440<lo+n∧(q-c)%1440<len then 1 else 0
 |0=>by grind [re]
 |n+1=>by
  rw[re,re,En h1 h2 r n,RO h1 r]
  grind
theorem Eo{c len p:Int}(lo:Int): ∀n:Nat,re c len p p lo n=0
 |0=>rfl
 |n+1=>by
  rw[re,Eo lo n]
  grind [Mi]
def cZ(f t:Int):Int:=(t-f+1440)%1440
theorem JF{m f t:Int}(r:0≤f∧f<1440)(D:0≤t∧t<1440):dQ (m%1440) f t=decide ((m-f)%1440<cZ f t):=by
 grind [dQ,cZ]
theorem JG{f t o p:Int}(H:0≤f∧f<1440)(I:0≤t∧t<1440)(D:cZ f t≠0)(lo:Int)(n:Nat)(r:lo≤(p+o)/1440-1):
  ∀k:Nat,(p+k-1+o)/1440<lo+n→re (f-o) (cZ f t) p (p+k) lo n=kQ (fun x=>dQ ((x+o)%1440) f t) p k
 |0,_=>by rw[show p+((0:Nat):Int)=p by omega,Eo];rfl
 |k+1,h=>by
  have F:1≤cZ f t∧cZ f t<1440:=by unfold cZ at D ⊢; omega
  have ih:=JG H I D lo n r k zO
  rw[show p+((k+1:Nat):Int)=p+k+1 by omega,En F.1 F.2 zO,ih,kQ]
  grind [JF]
def vH(a b o:Int):List (Int×Int×Int):=if a<b then [(a,b,o)]else []
def jF(S T fr o:Int):List (Int×Int)→List (Int×Int×Int)
 | []=>vH (max fr S) (min 52596000 T) o
 |s::r=>vH (max fr S) (min s.1 T) o++jF S T s.1 s.2 r
def tL(g:Int×Int→Bool)(l:List (Int×Int×Int)):Int:=(l.map fun x=>q9 (fun t=>g (t,x.2.2)) x.1 x.2.1).sum
theorem Y0(g:Int×Int→Bool)(a b o:Int):tL g (vH a b o)=q9 (fun t=>g (t,o)) a b:=by
 grind [vH,tL,sk]
theorem JH(g:Int×Int→Bool)(l r:List (Int×Int×Int)):tL g (l++r)=tL g l+tL g r:=by
 grind [tL]
theorem JI(g:Int×Int→Bool){S T:Int}(hT:T≤52596000): ∀(l:List (Int×Int)) (p:Option Int) (fr o:Int),Dk p l=0→(∀s∈l.head?,fr≤s.1)→tL g (jF S T fr o l)=q9 (fun t=>g (t,pK o l t)) (max fr S) T
 | [],p,fr,o,h,F=>by
   rw[jF,Y0,Int.min_eq_right hT];rfl
 |s::r,p,fr,o,h,F=>by
  obtain⟨_,_,_,h4⟩:=Cb h
  have hs:=F s rfl
  have hr: ∀x∈r.head?,s.1≤x.1:=by
   intro x hx
   cases r with
   |nil=>cases hx
   |cons y r=>
    cases hx
    have:=(Cb h4).2.2.1 s.1 rfl
    omega
  rw[jF,JH,Y0,JI g hT r _ s.1 s.2 h4 hr]
  have D: ∀t,s.1≤t→pK o (s::r) t=pK s.2 r t:=fun t H=>by rw[pK,if_pos H]
  have early: ∀t,t<s.1→pK o (s::r) t=o:=fun t H=>by rw[pK,if_neg zO]
  by_cases hc:max fr S≤s.1∧s.1≤T
  ·rw[YZ (m:=s.1) _ hc.1 hc.2,show min s.1 T=s.1 by omega,show max s.1 S=s.1 by omega]
   grind [tK]
  ·by_cases h2:s.1≤T
   ·rw[sk (a:=max fr S) (b:=min s.1 T) _ zO,show max s.1 S=max fr S by omega,Int.zero_add]
    exact tK fun t h1 _=>by rw[D t zO]
   ·rw[sk (a:=max s.1 S) (b:=T) _ zO,show min s.1 T=T by omega,Int.add_zero]
    exact tK fun t _ h1=>by rw[early t zO]
def Zo.bandM(z:Zo)(S T f t:Int):Int:=q9 (fun x=>dQ (z.clk x) f t) S T
theorem Mj{z:Zo}(hv:iG z=0){S T f t:Int}(r:0≤S)(hT:T≤52596000):tL (fun x=>dQ ((x.1+x.2)%1440) f t) (jF S T 0 z.o z.sh)=z.bandM S T f t:=by
 have h3:=(ja hv).2.2
 rw[JI _ hT z.sh none 0 z.o h3,show max 0 S=S by omega]
 ·rfl
 ·intro s hs
  have:=(zY h3 s (List.mem_of_mem_head? hs)).1
  grind [oq]
theorem oC{a b:Int}:(if b>a then b else a)=max a b:=by rw[Int.max_def];split <;> split <;> omega
theorem rf{a b:Int}:(if b<a then b else a)=min a b:=by rw[Int.min_def];split <;> split <;> omega
theorem fk{lh:aB ah}{sh:List ah}{v:T}{k n sz bytes:Nat}{cs:List T}(h:bt lh v k sz n cs)(r:List T)(D:r.length=sz)(hr:(n+1)*bytes≤roomy)(ex:Bool):
  appW lh sh k sz bytes v (.sl r 1 ex)=some (nxV lh sh k sz bytes v (.sl r 1 ex),Q6 lh sh k sz bytes v (.sl r 1 ex))∧bt (Q6 lh sh k sz bytes v (.sl r 1 ex)) (nxV lh sh k sz bytes v (.sl r 1 ex)) k sz (n+1) (cs++r)∧ ∀j,j≠k→ab (Q6 lh sh k sz bytes v (.sl r 1 ex)) j=ab lh j:=
 bt.appW h (m:=0) (by rw[FU,if_pos zO]) zO hr
def yq(l:List (Int×Int×Int)):List T:=l.flatMap fun x=> [.i .i64 x.1,.i .i64 x.2.1,.i .i64 x.2.2]
theorem OG(a b:List (Int×Int×Int)):yq (a++b)=yq a++yq b:=by unfold yq;rw[List.flatMap_append]
theorem OH(p q o:Int)(l:List (Int×Int×Int)):yq l++ [.i .i64 p,.i .i64 q,.i .i64 o]=yq (l++ [(p,q,o)]):=by rw[OG];rfl
section
variable(z:Zo)(a:T)(hz:ZoT z a)(hlen:z.sh.length≤16)(A B:Int)
def pM(z:Zo)(A B r D:Int)(k:Nat):List (Int×Int×Int):=if k≤z.sh.length then jF A B r D (z.sh.drop k)else []
theorem RP{r D:Int}{k:Nat}(hk:k<z.sh.length):pM z A B r D k=vH (max r A) (min z.sh[k].1 B) D++pM z A B z.sh[k].1 z.sh[k].2 (k+1):=by
 unfold pM
 rw[if_pos zO,if_pos zO,List.drop_eq_getElem_cons hk,jF]
theorem Mk{r D:Int}:pM z A B r D z.sh.length=vH (max r A) (min 52596000 B) D:=by
 unfold pM
 rw[if_pos zO,List.drop_length,jF]
theorem rh{r D:Int}:pM z A B r D (z.sh.length+1)= []:=by
 unfold pM
 rw[if_neg zO]
include hz hlen
theorem aGh(fr:Fr)(lh:aB ah)(sh:List ah)(h2:aa fr 2= .ptr .L 2 1 0)(h3:aa fr 3= .ptr .L 3 1 0)(h5:aa fr 5= .nilsl)(h6:aa fr 6= .i .i64 0)(N:aa fr 7= .i .i64 z.o)(O:aa fr 8= .i .i64 0)(F:ab lh 2=⟨1,.cells (mK z a) 0 true⟩)(H:ab lh 3=⟨1,.cells [.i .i64 A,.i .i64 B] 0 true⟩):
  mI 63 mQ fr lh sh (.ext 0)∧
  (bt (iy pE 63 mQ fr lh sh) (aa (kR pE 63 mQ fr lh sh) 5) 49 3 (jF A B 0 z.o z.sh).length (yq (jF A B 0 z.o z.sh))∧(jF A B 0 z.o z.sh).length≤17∧iF pE 63 mQ fr lh sh=sh):=by
 obtain⟨cc,V,hc⟩:=hz
 unfold mK at F
 refine dJ (fun k st=> ∃(fr:Fr) (lh:aB ah) (I J:Int) (L:List (Int×Int×Int)),st=⟨fr,lh,sh⟩∧aa fr 2= .ptr .L 2 1 0∧aa fr 3= .ptr .L 3 1 0∧aa fr 6= .i .i64 I∧aa fr 7= .i .i64 J∧aa fr 8= .i .i64 (k:Int)∧ab lh 2=⟨1,.cells [.s z.nm,.i .i64 z.o,a] 0 true⟩∧ab lh 3=⟨1,.cells [.i .i64 A,.i .i64 B] 0 true⟩∧bt lh (aa fr 5) 49 3 L.length (yq L)∧L.length≤k∧L++pM z A B I J k=jF A B 0 z.o z.sh)
  (fun bE aZ aY=>bt aZ (aa bE 5) 49 3 (jF A B 0 z.o z.sh).length (yq (jF A B 0 z.o z.sh))∧(jF A B 0 z.o z.sh).length≤17∧aY=sh) _ (z.sh.length+1) ?_ ?_ fr lh sh ⟨fr,lh,0,z.o,[],rfl,h2,h3,h6,N,O,F,H,by rw[h5];exact bt.nil,by simp,by simp[pM]⟩
 ·rintro k _ hk ⟨fr,lh,I,J,L,rfl,h2,h3,h6,N,O,F,H,K,hL,r⟩
  have W:(k:Int)≤z.sh.length:=zO
  have Z:=aI (k:=k) zO
  have D:=fun e:Int=>fk (sh:=sh) K [.i .i64 (max I A),.i .i64 (min e B),.i .i64 J] rfl (bytes:=24) (by unfold roomy;omega) true
  generalize h5:aa fr 5=v5 at K D
  by_cases CW:k<z.sh.length
  ·have X:(k:Int)<z.sh.length:=zO
   obtain⟨rr,aQ⟩:=BV V hc CW
   rw[RP z A B CW]at r
   generalize z.sh[k]=s at*
   have D:=D s.1
   have U:=(D.2.2 2 yv).trans F
   have Y:=(D.2.2 3 yv).trans H
   simp only[qB,seval,repl,mQ,h2,h3,h5,h6,N,O,F,H,V.lenI,W,X,aQ,Z,oC,rf,K.notS,D.1,U]
   refine px (fun h=> ?_) (fun h=> ?_)
   ·rw[vH,if_pos h]at r
    exact cS ⟨_,_,s.1,s.2,L++ [(max I A,min s.1 B,J)],rfl,by simp only[qA,seval,h2],by simp only[qA,seval,h3],by simp only[qA,seval],by simp only[qA,seval],by simp only[qA,seval],U,Y,by simp only[qA,seval];rw[←OH,List.length_append];exact D.2.1,by simp;omega,by rw[List.append_assoc];exact r⟩
   ·rw[vH,if_neg h,List.nil_append]at r
    exact cS ⟨_,_,s.1,s.2,L,rfl,by simp only[qA,seval,h2],by simp only[qA,seval,h3],by simp only[qA,seval],by simp only[qA,seval],by simp only[qA,seval],F,H,by simp only[qA,seval,h5];exact K,by omega,r⟩
  ·obtain rfl:k=z.sh.length:=zO
   rw[Mk]at r
   have D:=D 52596000
   have U:=(D.2.2 2 yv).trans F
   have Y:=(D.2.2 3 yv).trans H
   simp only[qB,seval,repl,mQ,h2,h3,h5,h6,N,O,F,H,V.lenI,Int.lt_irrefl,Int.le_refl,Z,oC,rf,K.notS,D.1,U]
   refine px (fun h=> ?_) (fun h=> ?_)
   ·rw[vH,if_pos h]at r
    exact cS ⟨_,_,I,J,L++ [(max I A,min 52596000 B,J)],rfl,by simp only[qA,seval,h2],by simp only[qA,seval,h3],by simp only[qA,seval,h6],by simp only[qA,seval,N],by simp only[qA,seval],U,Y,by simp only[qA,seval];rw[←OH,List.length_append];exact D.2.1,by simp;omega,by rw[rh,List.append_nil];exact r⟩
   ·rw[vH,if_neg h,List.append_nil]at r
    exact cS ⟨_,_,I,J,L,rfl,by simp only[qA,seval,h2],by simp only[qA,seval,h3],by simp only[qA,seval,h6],by simp only[qA,seval,N],by simp only[qA,seval],F,H,by simp only[qA,seval,h5];exact K,by omega,by rw[rh,List.append_nil];exact r⟩
 ·rintro _ ⟨fr,lh,I,J,L,rfl,h2,h3,h6,N,O,F,H,K,hL,r⟩
  rw[rh,List.append_nil]at r
  subst r
  have W: ¬((z.sh.length+1:Nat):Int)≤z.sh.length:=zO
  simp only[qA,seval,mQ,h2,O,F,V.lenI,W]
  exact eL ⟨rfl,(by simp only[qA,seval];exact K),by omega,rfl⟩
theorem Y1(sp:T)(J:sp= .agg [.i .i64 A,.i .i64 B]):ae pE 203 [.agg (mK z a),sp] []=some (cE (jF A B 0 z.o z.sh).length (yq (jF A B 0 z.o z.sh)),[]):=by
 subst J
 have I:=fun fr lh sh h2 h3 h5 h6 r D F H=>aGh z a hz hlen A B fr lh sh h2 h3 h5 h6 r D F H
 have K:=fun m keep fr lh sh h2 h3 h5 h6 r D F H=>bt.fzW (m:=m) (keep:=keep) (sh:=sh) (I fr lh sh h2 h3 h5 h6 r D F H).2.1
 have S2:=fun keep fr lh sh h2 h3 h5 h6 r D F H=>bt.fzV (keep:=keep) (sh:=sh) (I fr lh sh h2 h3 h5 h6 r D F H).2.1
 obtain⟨N,O,hc⟩:=hz
 unfold mK at I K S2 ⊢
 rw[an ahX (by simp[Uc])]
 simp only[qA,seval,Uc,I,S2,yG]
end
theorem afq(c f t:Int):ae pE 256 [.i .i64 c,.i .i64 f,.i .i64 t] []=some (.b (dQ c f t),[]):=by
 rw[an Vp (by simp[Fi])]
 unfold dQ
 by_cases h1:f≤t
 ·by_cases h2:f≤c <;> by_cases h3:c<t <;> simp only[qA,seval,Fi,h1,h2,h3]
 ·by_cases h2:f≤c <;> by_cases h3:c<t <;> simp only[qA,seval,Fi,h1,h2,h3,or_true,or_false,or_self]
def SpB(A B f t:Int):Prop:=0≤A∧A≤B∧B≤52596000∧0≤f∧f<1440∧0≤t∧t<1440
section
variable(z:Zo)(a:T)(hz:ZoT z a)(hv:iG z=0)(A B f t:Int)(hs:SpB A B f t)
include hz hv hs
theorem afr:ae pE 164 [.agg (mK z a),.agg [.i .i64 A,.i .i64 B],.i .i64 f,.i .i64 t] []=some (.i .i64 0,[]):=by
 obtain⟨D,s2,s3,F,H,I,J⟩:=hs
 obtain⟨K,r,hc⟩:=hz
 have h1:=BW z a K r hc
 rw[hv]at h1
 have h2:ae pE 201 [.agg [.i .i64 A,.i .i64 B]] []=some (.b true,[]):=by
  rw[an ahV (by simp[Ua])]
  simp only[qA,seval,Ua,D,s2,s3]
 have h3: ∀x:Int,0≤x→x<1440→ae pE 202 [.i .i64 x] []=some (.b true,[]):=by
  intro x x1 x2
  rw[an ahW (by simp[Ub])]
  simp only[qA,seval,Ub,x1,x2]
 have h4:=h3 f F H
 have h5:=h3 t I J
 unfold mK
 rw[an ahu (by simp[TT])]
 simp only[qA,seval,TT,h1,h2,h4,h5,r.froz1,acq,avM,avN]
theorem Y2:ae pE 255 [.agg (mK z a),.agg [.i .i64 A,.i .i64 B],.i .i64 f,.i .i64 t] []=some (.i .i64 0,[]):=by
 obtain⟨D,s2,s3,K,N,O,U⟩:=hs
 obtain⟨F,r,hc⟩:=hz
 have h1:=BX z a F r hc
 rw[hv]at h1
 have h2:ae pE 266 [.agg [.i .i64 A,.i .i64 B]] []=some (.b true,[]):=by
  rw[an aiF (by simp[Ut])]
  simp only[qA,seval,Ut,D,s2,s3]
 have H: ¬f<0:=zO
 have I: ¬(1439:Int)<f:=zO
 have g3: ¬t<0:=zO
 have J: ¬(1439:Int)<t:=zO
 unfold mK
 rw[an aiA (by simp[Ur])]
 simp only[qA,seval,Ur,h1,h2,H,I,g3,J,r.froz1,UR,awc]
theorem aGi(fr:Fr)(lh:aB ah)(sh:List ah)(h2:aa fr 2= .i .i64 f)(h3:aa fr 3= .i .i64 t)(h4:aa fr 4= .ptr .L 4 1 0)(h5:aa fr 5= .ptr .L 5 1 0)(r:aa fr 11= .i .i64 0)(D:aa fr 12= .i .i64 A)(H:ab lh 4=⟨1,.cells (mK z a) 0 true⟩)(I:ab lh 5=⟨1,.cells [.i .i64 A,.i .i64 B] 0 true⟩):
  mI 47 oV fr lh sh (.ext 0)∧
  (aa (kR pE 47 oV fr lh sh) 11= .i .i64 (z.bandM A B f t)∧iF pE 47 oV fr lh sh=sh):=by
 obtain⟨s1,s2,s3,f1,f2,t1,t2⟩:=hs
 have J:=fun x=>pL z a hz (ja hv).2.1 hv x
 have K:froz1 a=true:=by obtain⟨cc,W,_⟩:=hz;exact W.froz1
 unfold mK at H J
 refine dJ (fun k st=> ∃(fr:Fr) (lh:aB ah),st=⟨fr,lh,sh⟩∧aa fr 2= .i .i64 f∧aa fr 3= .i .i64 t∧aa fr 4= .ptr .L 4 1 0∧aa fr 5= .ptr .L 5 1 0∧aa fr 11= .i .i64 (kQ (fun x=>dQ (z.clk x) f t) A k)∧aa fr 12= .i .i64 (A+k)∧ab lh 4=⟨1,.cells [.s z.nm,.i .i64 z.o,a] 0 true⟩∧ab lh 5=⟨1,.cells [.i .i64 A,.i .i64 B] 0 true⟩)
  (fun X aZ Y=>aa X 11= .i .i64 (z.bandM A B f t)∧Y=sh) _ (B-A).toNat ?_ ?_ fr lh sh ⟨fr,lh,rfl,h2,h3,h4,h5,r,by rw[D];simp,H,I⟩
 ·rintro k _ hk ⟨fr,lh,rfl,h2,h3,h4,h5,r,D,H,I⟩
  have N:A+k<B:=zO
  have hi:oq (A+k)=true:=by unfold oq;simp only[Bool.and_eq_true,decide_eq_true_eq];omega
  obtain⟨w,nr⟩:=Mh z a hz hv (A+k) hi
  have F:=xl _ nr
  have O:=afq (z.clk (A+k)) f t
  have rY:=zZ (fun x=>dQ (z.clk x) f t) A k
  have Dl:wr .i64 (A+k+1)=A+((k+1:Nat):Int):=by rw[bo zO];omega
  have Gw:wr .i64 (kQ (fun x=>dQ (z.clk x) f t) A k+1)=kQ (fun x=>dQ (z.clk x) f t) A k+1:=bo zO
  have Z:kQ (fun x=>dQ (z.clk x) f t) A (k+1)=kQ (fun x=>dQ (z.clk x) f t) A k+if dQ (z.clk (A+k)) f t=true then 1 else 0:=rfl
  have U:=J (A+k)
  rw[show(A+k+z.off (A+k))%1440=z.clk (A+k)from rfl]at F
  generalize kQ (fun x=>dQ (z.clk x) f t) A k=q at*
  generalize z.clk (A+k)=cl at*
  generalize (A+k+z.off (A+k))/1440=dy at*
  generalize V:A+k+z.off (A+k)=m at*
  generalize A+(k:Int)=x at*
  have aK1:=F
  rw[Z]
  cases hb:dQ cl f t <;> rw[hb]at O
  ·simp only[qA,seval,oV,h2,h3,h4,h5,r,D,H,I,N,U,V,w,F,O,Dl,K,H6,No,Vq]
   exact cS ⟨_,_,rfl,by simp only[qA,seval,h2],by simp only[qA,seval,h3],by simp only[qA,seval,h4],by simp only[qA,seval,h5],by simp only[qA,seval,r,Int.add_zero],by simp only[qA,seval],by simp only[H],by simp only[I]⟩
  ·simp only[qA,seval,oV,h2,h3,h4,h5,r,D,H,I,N,U,V,w,F,O,Dl,Gw,K,H6,No,Vq]
   exact cS ⟨_,_,rfl,by simp only[qA,seval,h2],by simp only[qA,seval,h3],by simp only[qA,seval,h4],by simp only[qA,seval,h5],by simp only[qA,seval],by simp only[qA,seval],by simp only[H],by simp only[I]⟩
 ·rintro _ ⟨fr,lh,rfl,h2,h3,h4,h5,r,D,H,I⟩
  have N: ¬A+(((B-A).toNat:Nat):Int)<B:=zO
  simp only[qA,seval,oV,h5,D,I,N]
  exact eL ⟨rfl,by simp only[qA,seval,r];rfl,rfl⟩
theorem amT:ae pE 243 [.agg (mK z a),.agg [.i .i64 A,.i .i64 B],.i .i64 f,.i .i64 t] []=some (.tup [.i .i64 (z.bandM A B f t),.i .i64 0],[]):=by
 have F:=fun fr lh sh h2 h3 h4 h5 r D H I=>aGi z a hz hv A B f t hs fr lh sh h2 h3 h4 h5 r D H I
 have h1:=Y2 z a hz hv A B f t hs
 obtain⟨K,J,hc⟩:=hz
 unfold mK at h1 F ⊢
 rw[an ais (by simp[Uk])]
 simp only[qA,seval,Uk,h1,F,J.froz1,av9]
end
end Go.Proofs.YtcpceiclnbmgiaaGreat
