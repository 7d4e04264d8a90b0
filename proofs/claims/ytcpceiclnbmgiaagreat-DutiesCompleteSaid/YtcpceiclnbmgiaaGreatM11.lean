/- Walks of functions of the program and of the reference, and their plain laws, part 11. Conditions: the theorems' own. -/
import Derived.Test.YtcpceiclnbmgiaaGreatM10
import Derived.KernelRfl
set_option maxRecDepth 100000
set_option linter.unusedSimpArgs false
set_option linter.unusedVariables false
set_option maxHeartbeats 16000000
namespace Go.Proofs.YtcpceiclnbmgiaaGreat
open Go Go.Ev
theorem Xx(zT aT fT:T)(D I:List T)(n:Nat)(H:IsSl fT n I)(i:Int):be pE 54 [.vp (zT::aT::fT::D),.i .i64 i] []=some (.b (decide (0≤i∧i<(n:Int))),[]):=by
 rw[il apV (by simp[c54])]
 by_cases r:0≤i
 ·by_cases F:i<(n:Int)
  ·simp only[qA,seval,c54,H.lenI,r,F]
   try simp[r,F]
  ·simp only[qA,seval,c54,H.lenI,r,F]
   try simp[r,F]
 ·simp only[qA,seval,c54,r]
  try simp[r]
theorem Nt(zT aT fT:T)(D F:List T)(l:List Fl)(H:IsSl fT l.length F)(hr:iA Si l F)(k:Nat)(hk:k<l.length): ∃r,be pE 73 [.vp (zT::aT::fT::D),.i .i64 (k:Int)] []=some (.vp (.s l[k].nu:: .s l[k].fr:: .s l[k].to:: .i .i64 l[k].dp:: .i .i64 l[k].ar:: .s l[k].ty:: .i .i64 l[k].n0:: .i .i64 l[k].n1:: .i .i64 l[k].n2::r),[]):=by
 obtain⟨r,I⟩:=K6 H hr k hk
 refine⟨r, ?_⟩
 rw[il aho (by simp[c73])]
 simp only[qA,seval,c73,I]
def K7(c:Ct)(f g:Fl):Bool:=decide (f.to=g.fr)&&(decide (c.cn≤wr .i64 (g.dp-f.ar))&&decide (wr .i64 (g.dp-f.ar)≤c.st))
theorem Xy(zT aT fT a7 a8 a9 iv iy iw:T)(c:Ct)(vs H:List T)(l:List Fl)(J:IsSl fT l.length H)(hr:iA Si l H)(i j:Nat)(hi:i<l.length)(K:j<l.length):be pE 97 [.vp (zT::aT::fT::(jB c a7 a8 a9 iv iy iw++vs)),.i .i64 (i:Int),.i .i64 (j:Int)] []=some (.b (K7 c l[i] l[j]),[]):=by
 obtain⟨r,D⟩:=Nt zT aT fT (jB c a7 a8 a9 iv iy iw++vs) H l J hr i hi
 obtain⟨N,F⟩:=Nt zT aT fT (jB c a7 a8 a9 iv iy iw++vs) H l J hr j K
 rw[il aar (by simp[c97])]
 generalize l[i]=f at*
 generalize l[j]=g at*
 unfold jB at D F ⊢
 simp only[List.cons_append,List.nil_append]at D F ⊢
 unfold K7
 by_cases e:f.to=g.fr
 ·by_cases I:c.cn≤wr .i64 (g.dp-f.ar)
  ·simp only[qA,seval,c97,D,F,Fu,e,I]
   try simp[e,I]
  ·simp only[qA,seval,c97,D,F,Fu,e,I]
   try simp[e,I]
 ·simp only[qA,seval,c97,D,F,Fu,e]
  try simp[e]
structure Sta where
 ff:Int
 fh:Bool
 lf:Int
 lh:Bool
 lg:Int
 hd:Int
 bl:Int
 lo:Int
 so:Int
 ty:List (List Nat)
def rS(n:Nat)(i:Int):Bool:=decide (0≤i∧i<(n:Int))
theorem Pr{n a b:Int}:rk n a b=true↔a≤n∧n≤b:=by
 grind [rk]
def A2(f:Fl):Prop:=ot f.ty=true∧2880≤f.dp∧f.ar≤52593120∧f.dp<f.ar∧f.ar-f.dp≤1440
theorem ajj{i:List (List Nat)}{f:Fl}(h:K3 i f=0):A2 f:=by
 unfold K3 at h
 split at h
 ·cases h
 split at h
 ·cases h
 split at h
 ·cases h
 split at h
 ·cases h
 split at h
 ·cases h
 split at h
 ·cases h
 rename_i a b c d e g
 have g:Sj f=true:=by simpa using g
 unfold Sj at g
 simp only[Bool.and_eq_true,decide_eq_true_eq]at g
 exact⟨by simpa using b,g⟩
theorem Xz(i:List (List Nat)): ∀(l:List Fl) (p:Option Fl),I3 i p l=0→ ∀f∈l,A2 f
 | [],_,_,f,hf=>by cases hf
 |g::r,p,h,f,hf=>by
  unfold I3 at h
  by_cases a:K3 i g=0
  ·rw[if_neg (by simp[a])]at h
   rcases List.mem_cons.1 hf with rfl|hf
   ·exact ajj a
   ·have:I3 i (some g) r=0:=by
     grind
    exact Xz i r _ this f hf
  ·grind
theorem sj(t:Tt)(h:uD t=0):(∀f∈t.fl,A2 f)∧t.fl.length≤200:=by
 unfold uD at h
 split at h
 ·cases h
 split at h
 ·cases h
 split at h
 ·cases h
 split at h
 ·grind
 split at h
 ·rename_i q;exact absurd h q
 rename_i a b c d e
 exact⟨Xz _ _ _ h,by omega⟩
theorem XA(c:Ct)(h:mK c=0):0≤c.cn∧c.cn≤1440∧c.st≤1440∧(0≤c.rp∧c.rp≤1440)∧(0≤c.rl∧c.rl≤1440):=by
 unfold mK at h
 split at h
 ·grind
 rename_i g
 have g:m5 c=0:=by omega
 unfold m5 at g
 split at g
 ·cases g
 simp_all[qe,Bool.and_eq_true,Pr]
theorem itI{p:Prop}[Decidable p]{α:Type}{k:IntKind}{a b:Int}{s:α}:(if p then some (T.i k a,s)else some (T.i k b,s))=some (T.i k (if p then a else b),s):=by split <;> rfl
def TkR(k:Int×Bool)(c:List T):Prop:=c= [.i .i64 k.1,.b k.2]
theorem TkR.len(k:Int×Bool)(c:List T)(h:TkR k c):c.length=2:=by rw[h];rfl
def H4(d:List (Int×Bool))(v:T):Prop:= ∃i,IsSl v d.length i∧iA TkR d i
theorem wU{d:List (Int×Bool)}{v:T}(h:H4 d v)(i:Nat)(hi:i<d.length): ∃r,∀kk,lY v (.i kk (i:Int)) 2=some (.vp (.i .i64 d[i].1:: .b d[i].2::r)):=by
 obtain⟨H,D,F⟩:=h
 obtain⟨c,r,e,h⟩:=py (k:=2) TkR.len D F i hi
 simp_all[TkR]
def BQ(c:Ct)(r:List Fl)(i j:Int):Bool:=match r[i.toNat]?,r[j.toNat]? with
 |some f,some g=>K7 c f g
 |_,_=>false
theorem zx(c:Ct)(r:List Fl){i j:Nat}(hi:i<r.length)(D:j<r.length):BQ c r i j=K7 c r[i] r[j]:=by
 grind [BQ]
theorem sk{n:Nat}{i:Int}(h:rS n i=true): ∃k:Nat,k<n∧i=k:=by
 unfold rS at h
 rw[decide_eq_true_eq]at h
 exact⟨i.toNat,by omega,by omega⟩
def Mj(c:Ct)(i:List Fl):List (Int×Bool)→Bool
 |k::l::r=>BQ c i k.1 l.1&&Mj c i (l::r)
 |_=>true
def uE(c:Ct)(i:List Fl)(d:List (Int×Bool)):Int:=
 if(d.length:Int)<1 then 5 else if(6:Int)<d.length then 5 else if d.all (fun k=>rS i.length k.1)=true then(if Mj c i d=true then 0 else 14)else 6
theorem ajk(c:Ct)(i:List Fl){d:List (Int×Bool)}{k:Nat}(hk:k+1<d.length):Mj c i (d.drop k)=(BQ c i d[k].1 d[k+1].1&&Mj c i (d.drop (k+1))):=by
 grind [List.drop_eq_getElem_cons,Mj]
theorem acK(c:Ct)(i:List Fl){d:List (Int×Bool)}{k:Nat}(hk:k+1=d.length):Mj c i (d.drop k)=true:=by
 rw[List.drop_eq_getElem_cons (by omega:k<d.length),List.drop_eq_nil_of_le (by omega),Mj]
 simp
theorem ajl{α:Type}{p:α→Bool}{d:List α}{k:Nat}(hk:k<d.length):(d.drop k).all p=(p d[k]&&(d.drop (k+1)).all p):=by
 rw[List.drop_eq_getElem_cons hk,List.all_cons]
def stV(c:Ct)(zT aT fT a7 a8 a9 iv iy iw:T)(vs:List T):T:= .vp (zT::aT::fT::(jB c a7 a8 a9 iv iy iw++vs))
section
variable(t:Tt)(c:Ct)(zT aT fT a7 a8 a9 iv iy iw:T)(vs:List T)(hT:sZ t zT aT fT)
theorem XB(hT:sZ t zT aT fT){i j:Int}(hi:rS t.fl.length i=true)(F:rS t.fl.length j=true):be pE 97 [stV c zT aT fT a7 a8 a9 iv iy iw vs,.i .i64 i,.i .i64 j] []=some (.b (BQ c t.fl i j),[]):=by
 obtain⟨i,r,rfl⟩:=sk hi
 obtain⟨j,D,rfl⟩:=sk F
 obtain⟨H,I,J⟩:=hT.f
 rw[zx c t.fl r D]
 exact Xy zT aT fT a7 a8 a9 iv iy iw c vs H t.fl I J i j r D
end
section
variable(t:Tt)(c:Ct)(zT aT fT a7 a8 a9 iv iy iw:T)(hT:sZ t zT aT fT)(hC:tp c a7 a8 a9 iv iy iw)
theorem XD(hT:sZ t zT aT fT)(hC:tp c a7 a8 a9 iv iy iw){i j:Int}(hi:rS t.fl.length i=true)(J:rS t.fl.length j=true):be pE 12 [.agg [zT,aT,fT],.agg (jB c a7 a8 a9 iv iy iw),.i .i64 i,.i .i64 j] []=some (.b (BQ c t.fl i j),[]):=by
 obtain⟨i,D,rfl⟩:=sk hi
 obtain⟨j,F,rfl⟩:=sk J
 obtain⟨⟨zc,z1,z2⟩,⟨ac,b1,b2⟩,⟨fc,H,I⟩⟩:=hT
 obtain⟨⟨y7,i7,j7⟩,⟨y8,i8,j8⟩,⟨y9,i9,j9⟩,⟨K,N,Nn⟩,⟨O,U,Po⟩,⟨V,W,Tv⟩⟩:=hC
 rw[zx c t.fl D F]
 obtain⟨r,X⟩:=K6 H I i D
 obtain⟨r',Y⟩:=K6 H I j F
 rw[il ag6 (by simp[Mf])]
 generalize t.fl[i]=f at*
 generalize t.fl[j]=g at*
 unfold jB K7
 simp only[qB,seval,Mf,X,Y]
 by_cases Z:f.to=g.fr <;> by_cases e2:c.cn≤wr .i64 (g.dp-f.ar) <;> by_cases e3:wr .i64 (g.dp-f.ar)≤c.st <;> simp[Z,e2,e3]
end
section
variable(c:Ct)(a7 a8 a9 iv iy iw:T)(hT:tp c a7 a8 a9 iv iy iw)(Nu:qe c=false∨qo c=false)
include hT Nu
theorem ajm:be pE 88 [.agg (jB c a7 a8 a9 iv iy iw)] []=some (.i .i64 (m5 c),[]):=by
 obtain⟨⟨c7,H,K⟩,⟨c8,I,N⟩,⟨O,J,U⟩,⟨F3,r,Nn⟩,⟨Tu,D,Po⟩,⟨Mf,F,Tv⟩⟩:=hT
 unfold jB
 rw[il aht (by simp[c88])]
 unfold m5
 unfold qe qo at Nu ⊢
 have w:=fun n lo hi=>kq (zy n lo hi)
 simp(maxDischargeDepth:=6) only[qB,seval,c88,H.lenI,I.lenI,J.lenI,r.lenI,D.lenI,F.lenI,w,JY]
 clear w
 grind (splits:=40)
theorem Eo:m5 c≠0:=by
 have _:=hT
 unfold m5
 by_cases h:qe c=false
 ·rw[if_pos h];decide
 ·rw[if_neg h,if_pos (Nu.resolve_left h)];decide
theorem K8:mK c=m5 c:=by
 unfold mK;rw[if_pos (Eo c a7 a8 a9 iv iy iw hT Nu)]
theorem af3: ∃s,be pE 50 [.agg (jB c a7 a8 a9 iv iy iw)] []=some (.i .i64 (mK c),s):=by
 have r:=ajm c a7 a8 a9 iv iy iw hT Nu
 have I:=Eo c a7 a8 a9 iv iy iw hT Nu
 rw[K8 c a7 a8 a9 iv iy iw hT Nu]
 obtain⟨⟨c7,J,O⟩,⟨c8,K,U⟩,⟨V,N,W⟩,⟨F3,D,Nn⟩,⟨Tu,F,Po⟩,⟨Mf,H,Tv⟩⟩:=hT
 unfold jB at r ⊢
 rw[il ahi (by simp[TQ])]
 generalize m5 c=e at*
 simp only[qA,seval,TQ,J.froz1,K.froz1,N.froz1,D.froz1,F.froz1,H.froz1,r,aqm,I]
 exact⟨_,rfl⟩
end
structure Nv (c:Ct):Prop where
 n7:smC c.cs
 n8: ∀u∈c.ru,XE u.x
 n9: ∀u∈c.co,XE u.x
 n10: ∀x∈c.cr,XE x
theorem Nv.sm{c:Ct}(h:Nv c)(hs:qo c=true):A1 c:=by
 unfold qo at hs
 simp only[Bool.and_eq_true,decide_eq_true_eq]at hs
 obtain⟨i,r,D,F,H,I⟩:=hs
 exact⟨⟨h.n7,oy (by omega)⟩,⟨h.n8,oy (by omega)⟩,⟨h.n9,oy (by omega)⟩,⟨h.n10,oy (by omega)⟩,oy (by omega),oy (by omega)⟩
def uF(t:Tt)(c:Ct):Int:=if uD t≠0 then uD t else mK c
def flG(l:List Fl)(i:Int):Fl:=(l[i.toNat]?).getD ⟨[],[],[],0,0,[],0,0,0⟩
theorem ajn{l:List Fl}{i:Nat}(h:i<l.length):flG l i=l[i]:=by
 unfold flG;rw[Int.toNat_natCast,List.getElem?_eq_getElem h];rfl
theorem u9(c:Ct)(zT aT fT a7 a8 a9 iv iy iw:T)(vs:List T):froz (stV c zT aT fT a7 a8 a9 iv iy iw vs)=true:=nr rfl
section
variable(t:Tt)(c:Ct)(zT aT fT a7 a8 a9 iv iy iw:T)(hT:sZ t zT aT fT)(hC:tp c a7 a8 a9 iv iy iw)(hN:Nv c)
theorem fzA(hT:sZ t zT aT fT)(hC:tp c a7 a8 a9 iv iy iw):(froz1 zT=true∧froz1 aT=true∧froz1 fT=true∧froz1 a7=true∧froz1 a8=true∧froz1 a9=true∧froz1 iv=true∧froz1 iy=true∧froz1 iw=true)∧cellsOf zT= [zT]∧cellsOf aT= [aT]∧cellsOf fT= [fT]∧cellsOf a7= [a7]∧cellsOf a8= [a8]∧cellsOf a9= [a9]∧cellsOf iv= [iv]∧cellsOf iy= [iy]∧cellsOf iw= [iw]:=by
 obtain⟨⟨_,F,_⟩,⟨_,H,_⟩,⟨_,I,_⟩⟩:=hT
 obtain⟨⟨_,J,_⟩,⟨_,K,_⟩,⟨_,N,_⟩,⟨_,i,_⟩,⟨_,r,_⟩,⟨_,D,_⟩⟩:=hC
 exact⟨⟨F.froz1,H.froz1,I.froz1,J.froz1,K.froz1,N.froz1,i.froz1,r.froz1,D.froz1⟩,F.cells,H.cells,I.cells,J.cells,K.cells,N.cells,i.cells,r.cells,D.cells⟩
include hC hN
theorem atp: ∃s,be pE 50 [.agg (jB c a7 a8 a9 iv iy iw)] []=some (.i .i64 (mK c),s):=by
 by_cases hr:qe c=false
 ·exact af3 c a7 a8 a9 iv iy iw hC (.inl hr)
 ·by_cases hs:qo c=false
  ·exact af3 c a7 a8 a9 iv iy iw hC (.inr hs)
  ·exact Pn c a7 a8 a9 iv iy iw hC (hN.sm (by simpa using hs))
omit hN in
theorem Sk(h:mK c=0):qo c=true:=by
 cases hs:qo c with
 |true=>rfl
 |false=>
  exfalso
  rw[K8 c a7 a8 a9 iv iy iw hC (.inr hs)]at h
  exact Eo c a7 a8 a9 iv iy iw hC (.inr hs) h
include hT
theorem af4(h:uF t c=0): ∃s vs,be pE 23 [.agg [zT,aT,fT],.agg (jB c a7 a8 a9 iv iy iw)] []=some (.tup [stV c zT aT fT a7 a8 a9 iv iy iw vs,.i .i64 0],s)∧H2 t c vs:=by
 unfold uF at h
 by_cases r:uD t=0
 ·rw[if_neg (by simp[r])]at h
  obtain⟨s,vs,D,_,_,F⟩:=aji t c zT aT fT a7 a8 a9 iv iy iw hT hC (hN.sm (Sk c a7 a8 a9 iv iy iw hC h)) r h
  exact⟨s,vs,D,F⟩
 ·rw[if_pos r]at h;exact absurd h r
theorem atq(h:uF t c≠0): ∃s,be pE 23 [.agg [zT,aT,fT],.agg (jB c a7 a8 a9 iv iy iw)] []=some (.tup [.nilptr,.i .i64 (uF t c)],s):=by
 unfold uF at h ⊢
 by_cases D:uD t=0
 ·rw[if_neg (by simp[D])]at h ⊢
  have ZP:=Nr t zT aT fT hT
  obtain⟨W,r⟩:=atp c a7 a8 a9 iv iy iw hC hN
  rw[D]at ZP
  obtain⟨⟨X,J,Y⟩,⟨ac,K,Z⟩,⟨fc,N,f2⟩⟩:=hT
  obtain⟨⟨_,O,_⟩,⟨_,U,_⟩,⟨_,V,_⟩,⟨_,F,_⟩,⟨_,H,_⟩,⟨_,I,_⟩⟩:=hC
  rw[il aaj (by simp[c23])]
  unfold jB at r ⊢
  simp only[qA,seval,c23,ZP,r,h,ahh,apP,J.froz1,K.froz1,N.froz1,O.froz1,U.froz1,V.froz1,F.froz1,H.froz1,I.froz1]
  exact⟨_,rfl⟩
 ·rw[if_pos D]
  exact acJ t c zT aT fT a7 a8 a9 iv iy iw hT hC D
theorem XF(h:uF t c=0):uD t=0∧mK c=0:=by
 have _:=hC;have _:=hN;have _:=hT
 unfold uF at h
 by_cases i:uD t=0
 ·rw[if_neg (by simp[i])]at h;exact⟨i,h⟩
 ·rw[if_pos i]at h;exact absurd h i
end
theorem ajo(a:Int):a.tdiv 1440=if a.tmod 1440<0 then a/1440+1 else a/1440:=by
 grind
theorem ajp(a:Int):a.tmod 1440=if a.tmod 1440<0 then a%1440-1440 else a%1440:=by
 grind
def K9(a:Int):Prop:= -100000000≤a∧a≤100000000
theorem A3(a:Int)(H:K9 a):be pE 168 [.i .i64 a] []=some (.tup [.i .i64 (a/1440),.i .i64 (a%1440)],[]):=by
 obtain⟨K,N⟩:=H
 have D:=ajo a
 have r:=ajp a
 rw[il aeU (by simp[QX])]
 by_cases h:a.tmod 1440<0
 ·rw[if_pos h]at D r
  rw[r]at h
  have F:wr .i64 (a/1440+1)=a/1440+1:=js (by omega)
  have I:wr .i64 (a/1440+1-1)=a/1440:=by rw[js (by omega)];omega
  have J:wr .i64 (a%1440-1440+1440)=a%1440:=by rw[js (by omega)];omega
  simp only[qA,seval,QX,D,r,F,h,I,J]
 ·rw[if_neg h]at D r
  rw[r]at h
  have F:wr .i64 (a/1440)=a/1440:=js (by omega)
  simp only[qA,seval,QX,D,r,F,h]
def vb(o:Int):List (Int×Int)→Int→Int
 | [],_=>o
 |s::r,t=>if s.1≤t then vb s.2 r t else o
theorem Nw{p:Option Int}{s:Int×Int}{r:List (Int×Int)}(h:Nx p (s::r)=0):A4 s.1=true∧xF s.2=true∧(∀q,p=some q→q<s.1)∧Nx (some s.1) r=0:=by
 unfold Nx at h
 grind
theorem CG: ∀{l:List (Int×Int)} {p:Option Int},Nx p l=0→ ∀s∈l,A4 s.1=true∧xF s.2=true
 |a::r,p,h,s,hs=>by
  obtain⟨D,F,_,i⟩:=Nw h
  rcases List.mem_cons.1 hs with rfl|hs
  ·grind
  ·exact CG i s hs
theorem XG: ∀{l:List (Int×Int)} {o t:Int},xF o=true→(∀s∈l,xF s.2=true)→xF (vb o l t)=true
 | [],o,t,h,_=>h
 |s::r,o,t,h,i=>by
  rw[vb]
  split
  ·exact XG (i s (by simp)) fun x hx=>i x (by simp[hx])
  ·exact h
def Zo.off(z:Zo)(t:Int):Int:=vb z.o z.sh t
theorem ua{z:Zo}(h:oK z=0):xF z.o=true∧z.sh.length≤16∧Nx none z.sh=0:=by
 grind [oK]
theorem Zo.off_bd{z:Zo}(h:oK z=0)(t:Int): -840≤z.off t∧z.off t≤840:=by
 obtain⟨i,_,r⟩:=ua h
 have:=XG (t:=t) i fun s hs=>(CG r s hs).2
 grind [xF,Zo.off]
def Fg(z:Zo)(a:T):List T:= [.s z.nm,.i .i64 z.o,a]
def ZoT(z:Zo)(a:T):Prop:= ∃i,IsSl a z.sh.length i∧iA ZZ z.sh i
section
variable(z:Zo)(a:T)(hz:ZoT z a)(hlen:z.sh.length≤16)
include hz hlen
theorem azN(t:Int)(fr:Fr)(lh:iq b8)(sh:List b8)(I:an fr 1= .i .i64 t)(J:an fr 5= .i .i64 z.o)(F:an fr 11=a)(D:an fr 12= .i .i64 (z.sh.length:Int))(K:an fr 13= .i .i64 0):
  wS 25 vN fr lh sh (.ext 0)∧
  (an (tO pE 25 vN fr lh sh) 5= .i .i64 (vb z.o z.sh t)∧oH pE 25 vN fr lh sh=sh):=by
 obtain⟨Y,N,hc⟩:=hz
 refine nH (fun k st=> ∃(fr:Fr) (lh:iq b8) (o:Int),st=⟨fr,lh,sh⟩∧an fr 1= .i .i64 t∧an fr 5= .i .i64 o∧an fr 11=a∧an fr 12= .i .i64 (z.sh.length:Int)∧an fr 13= .i .i64 (k:Int)∧vb o (z.sh.drop k) t=vb z.o z.sh t)
  (fun O Z U=>an O 5= .i .i64 (vb z.o z.sh t)∧U=sh) _ z.sh.length ?_ ?_ fr lh sh ⟨fr,lh,z.o,rfl,I,J,F,D,K,rfl⟩
 ·rintro k _ hk ⟨fr,lh,o,rfl,I,J,F,D,K,H⟩
  have V:(k:Int)<z.sh.length:=by omega
  have W:=iN (k:=k) (by omega)
  obtain⟨rr,X⟩:=Ps N hc hk
  rw[List.drop_eq_getElem_cons hk,vb]at H
  generalize z.sh[k]=s at*
  generalize vb z.o z.sh t=r at*
  simp only[qB,seval,vN,I,F,D,K,V,X,W]
  refine Ed (fun h=> ?_) (fun h=> ?_)
  ·rw[if_neg (by omega)]at H
   exact oZ ⟨rfl,by simp only[qA,seval,J,H],rfl⟩
  ·rw[if_pos (by omega)]at H
   exact mW ⟨_,_,s.2,rfl,by simp only[qA,seval,I],by simp only[qA,seval],by simp only[qA,seval,F],by simp only[qA,seval,D],by simp only[qA,seval],H⟩
 ·rintro _ ⟨fr,lh,o,rfl,I,J,F,D,K,H⟩
  rw[List.drop_length,vb]at H
  simp only[qA,seval,vN,D,K,Int.lt_irrefl]
  exact oZ ⟨rfl,by simp only[qA,seval,J,H],rfl⟩
theorem Sl(t:Int):be pE 166 [.agg (Fg z a),.i .i64 t] []=some (.i .i64 (z.off t),[]):=by
 have F:=fun fr lh sh H I r D J=>azN z a hz hlen t fr lh sh H I r D J
 obtain⟨N,K,hc⟩:=hz
 unfold Zo.off Fg
 rw[il aeS (by simp[Uo])]
 simp only[qA,seval,Uo,K.lenI,F]
end
section
variable(z:Zo)(a:T)(hz:ZoT z a)(hv:oK z=0)
include hz hv
theorem xG(t:Int)(I:A4 t=true):be pE 117 [.agg (Fg z a),.i .i64 t] []=some (.tup [.i .i64 (z.off t),.i .i64 0],[]):=by
 have r:=Sl z a hz (ua hv).2.1 t
 obtain⟨J,D,hc⟩:=hz
 have F:=Ep z a J D hc
 have H:=Pt t
 rw[hv]at F
 rw[I]at H
 unfold Fg at r ⊢
 rw[il aeo (by simp[T6])]
 simp only[qA,seval,T6,r,F,H,D.froz1,aqT,aao,US]
theorem ajr(t:Int)(i:A4 t=true):wr .i64 (t+z.off t)=t+z.off t∧K9 (t+z.off t):=by
 have _:=hz
 have r:=Zo.off_bd hv t
 unfold A4 at i
 simp only[Bool.and_eq_true,decide_eq_true_eq]at i
 exact⟨js (by omega),by unfold K9;omega⟩
def Zo.day(z:Zo)(t:Int):Int:=(t+z.off t)/1440
def Zo.clk(z:Zo)(t:Int):Int:=(t+z.off t)%1440
theorem La(t:Int)(r:A4 t=true):be pE 118 [.agg (Fg z a),.i .i64 t] []=some (.tup [.i .i64 (z.day t),.i .i64 (z.clk t),.i .i64 0],[]):=by
 have D:=xG z a hz hv t r
 obtain⟨w,n⟩:=ajr z a hz hv t r
 have I:=A3 _ n
 obtain⟨J,F,hc⟩:=hz
 have H:be pE 167 [.agg (Fg z a),.i .i64 t] []=some (.tup [.i .i64 (t+z.off t),.i .i64 0],[]):=by
  unfold Fg at D ⊢
  rw[il aeT (by simp[Uq])]
  simp only[qA,seval,Uq,D,w,F.froz1,UQ]
 unfold Zo.day Zo.clk
 generalize t+z.off t=m at*
 unfold Fg at H ⊢
 rw[il aep (by simp[T7])]
 simp only[qA,seval,T7,H,I,F.froz1,aqU,aeV]
end
def tb(f:Int→Bool)(a:Int):Nat→Int
 |0=>0
 |n+1=>tb f a n+if f (a+n)=true then 1 else 0
theorem Lb(f:Int→Bool)(a:Int)(m:Nat): ∀n,tb f a (m+n)=tb f a m+tb f (a+m) n
 |0=>by simp[tb]
 |n+1=>by
  rw[←Nat.add_assoc,tb,tb,Lb f a m n,show a+((m+n:Nat):Int)=a+m+n by omega]
  omega
theorem Er{f g:Int→Bool}{a:Int}: ∀{n:Nat},(∀t,a≤t→t<a+n→f t=g t)→tb f a n=tb g a n
 |0,_=>rfl
 |n+1,h=>by rw[tb,tb,Er fun t i r=>h t i (by omega),h (a+n) (by omega) (by omega)]
theorem H5(f:Int→Bool)(a:Int): ∀n,0≤tb f a n∧tb f a n≤n
 |0=>by simp[tb]
 |n+1=>by have:=H5 f a n;rw[tb];split <;> omega
def vd(f:Int→Bool)(a b:Int):Int:=tb f a (b-a).toNat
theorem XH(f:Int→Bool){a m b:Int}(i:a≤m)(r:m≤b):vd f a b=vd f a m+vd f m b:=by
 unfold vd
 have:=Lb f a (m-a).toNat (b-m).toNat
 grind
theorem A5(f:Int→Bool){a b:Int}(h:b≤a):vd f a b=0:=by
 unfold vd;rw[show(b-a).toNat=0 by omega];rfl
theorem xH{f g:Int→Bool}{a b:Int}(h: ∀t,a≤t→t<b→f t=g t):vd f a b=vd g a b:=by
 grind [vd,Er]
def Ny(c len p q d:Int):Int:=if max (1440*d+c) p<min (1440*d+c+len) q then min (1440*d+c+len) q-max (1440*d+c) p else 0
def ve(c len p q lo:Int):Nat→Int
 |0=>0
 |n+1=>ve c len p q lo n+Ny c len p q (lo+n)
theorem Sn{c len p q d:Int}(i:1≤len)(r:p≤q):Ny c len p (q+1) d=Ny c len p q d+if 1440*d+c≤q∧q<1440*d+c+len then 1 else 0:=by
 grind [Ny]
theorem GN{c len p q lo:Int}(i:1≤len)(D:len<1440)(r:p≤q): ∀n:Nat,ve c len p (q+1) lo n=ve c len p q lo n+if lo≤(q-c)/1440∧(q-c)/1440<lo+n∧(q-c)%1440<len then 1 else 0
 |0=>by grind [ve]
 |n+1=>by
  rw[ve,ve,GN i D r n,Sn i r]
  grind
theorem GO{c len p:Int}(lo:Int): ∀n:Nat,ve c len p p lo n=0
 |0=>rfl
 |n+1=>by
  rw[ve,GO lo n]
  grind [Ny]
def kf(f t:Int):Int:=(t-f+1440)%1440
theorem Lc{m f t:Int}(i:0≤f∧f<1440)(r:0≤t∧t<1440):nD (m%1440) f t=decide ((m-f)%1440<kf f t):=by
 grind [nD,kf]
theorem Ld{f t o p:Int}(D:0≤f∧f<1440)(F:0≤t∧t<1440)(i:kf f t≠0)(lo:Int)(n:Nat)(Pu:lo≤(p+o)/1440-1):
  ∀k:Nat,(p+k-1+o)/1440<lo+n→ve (f-o) (kf f t) p (p+k) lo n=tb (fun x=>nD ((x+o)%1440) f t) p k
 |0,_=>by rw[show p+((0:Nat):Int)=p by omega,GO];rfl
 |k+1,h=>by
  have r:1≤kf f t∧kf f t<1440:=by unfold kf at i ⊢; omega
  have ih:=Ld D F i lo n Pu k (by omega)
  rw[show p+((k+1:Nat):Int)=p+k+1 by omega,GN r.1 r.2 (by omega),ih,tb]
  grind [Lc]
def zD(a b o:Int):List (Int×Int×Int):=if a<b then [(a,b,o)]else []
def oC(S T fr o:Int):List (Int×Int)→List (Int×Int×Int)
 | []=>zD (max fr S) (min 52596000 T) o
 |s::r=>zD (max fr S) (min s.1 T) o++oC S T s.1 s.2 r
def xI(g:Int×Int→Bool)(l:List (Int×Int×Int)):Int:=(l.map fun x=>vd (fun t=>g (t,x.2.2)) x.1 x.2.1).sum
theorem XI(g:Int×Int→Bool)(a b o:Int):xI g (zD a b o)=vd (fun t=>g (t,o)) a b:=by
 grind [zD,xI,A5]
theorem Le(g:Int×Int→Bool)(l r:List (Int×Int×Int)):xI g (l++r)=xI g l+xI g r:=by
 grind [xI]
theorem Lf(g:Int×Int→Bool){S T:Int}(hT:T≤52596000): ∀(l:List (Int×Int)) (p:Option Int) (fr o:Int),Nx p l=0→(∀s∈l.head?,fr≤s.1)→xI g (oC S T fr o l)=vd (fun t=>g (t,vb o l t)) (max fr S) T
 | [],p,fr,o,h,D=>by
   rw[oC,XI,Int.min_eq_right hT];rfl
 |s::r,p,fr,o,h,D=>by
  obtain⟨_,_,_,F⟩:=Nw h
  have hs:=D s rfl
  have hr: ∀x∈r.head?,s.1≤x.1:=by
   intro x hx
   cases r with
   |nil=>cases hx
   |cons y r=>
    cases hx
    have:=(Nw F).2.2.1 s.1 rfl
    omega
  rw[oC,Le,XI,Lf g hT r _ s.1 s.2 F hr]
  have i: ∀t,s.1≤t→vb o (s::r) t=vb s.2 r t:=fun t H=>by rw[vb,if_pos H]
  have early: ∀t,t<s.1→vb o (s::r) t=o:=fun t H=>by rw[vb,if_neg (by omega)]
  by_cases hc:max fr S≤s.1∧s.1≤T
  ·rw[XH (m:=s.1) _ hc.1 hc.2,show min s.1 T=s.1 by omega,show max s.1 S=s.1 by omega]
   grind [xH]
  ·by_cases J:s.1≤T
   ·rw[A5 (a:=max fr S) (b:=min s.1 T) _ (by omega),show max s.1 S=max fr S by omega,Int.zero_add]
    exact xH fun t I _=>by rw[i t (by omega)]
   ·rw[A5 (a:=max s.1 S) (b:=T) _ (by omega),show min s.1 T=T by omega,Int.add_zero]
    exact xH fun t _ I=>by rw[early t (by omega)]
def Zo.bandM(z:Zo)(S T f t:Int):Int:=vd (fun x=>nD (z.clk x) f t) S T
theorem Nz{z:Zo}(hv:oK z=0){S T f t:Int}(r:0≤S)(hT:T≤52596000):xI (fun x=>nD ((x.1+x.2)%1440) f t) (oC S T 0 z.o z.sh)=z.bandM S T f t:=by
 have i:=(ua hv).2.2
 rw[Lf _ hT z.sh none 0 z.o i,show max 0 S=S by omega]
 ·rfl
 ·intro s hs
  have:=(CG i s (List.mem_of_mem_head? hs)).1
  grind [A4]
end Go.Proofs.YtcpceiclnbmgiaaGreat
