/- Walks of functions of the program and of the reference, and their plain laws, part 11. Conditions: the theorems' own. -/
import Derived.Test.YtcpceiclnbmgiaaGreatM10
import Derived.KernelRfl
set_option maxRecDepth 100000
set_option linter.unusedSimpArgs false
set_option linter.unusedVariables false
set_option maxHeartbeats 16000000
namespace Go.Proofs.YtcpceiclnbmgiaaGreat
open Go Go.Ev
theorem W9(zT aT fT:T)(D I:List T)(n:Nat)(H:IsSl fT n I)(i:Int):be pE 54 [.vp (zT::aT::fT::D),.i .i64 i] []=some (.b (decide (0≤i∧i<(n:Int))),[]):=by
 rw[il apy (by simp[c54])]
 by_cases r:0≤i
 ·by_cases F:i<(n:Int)
  ·simp only[qA,seval,c54,H.lenI,r,F]
   try simp[r,F]
  ·simp only[qA,seval,c54,H.lenI,r,F]
   try simp[r,F]
 ·simp only[qA,seval,c54,r]
  try simp[r]
theorem MY(zT aT fT:T)(D F:List T)(l:List Fl)(H:IsSl fT l.length F)(hr:iA RX l F)(k:Nat)(hk:k<l.length): ∃r,be pE 73 [.vp (zT::aT::fT::D),.i .i64 (k:Int)] []=some (.vp (.s l[k].nu:: .s l[k].fr:: .s l[k].to:: .i .i64 l[k].dp:: .i .i64 l[k].ar:: .s l[k].ty:: .i .i64 l[k].n0:: .i .i64 l[k].n1:: .i .i64 l[k].n2::r),[]):=by
 obtain⟨r,I⟩:=Xa H hr k hk
 refine⟨r, ?_⟩
 rw[il agW (by simp[c73])]
 simp only[qA,seval,c73,I]
def MZ(c:Ct)(f g:Fl):Bool:=decide (f.to=g.fr)&&(decide (c.cn≤wr .i64 (g.dp-f.ar))&&decide (wr .i64 (g.dp-f.ar)≤c.st))
theorem Xb(zT aT fT a7 a8 a9 iq iy iv:T)(c:Ct)(vs H:List T)(l:List Fl)(J:IsSl fT l.length H)(hr:iA RX l H)(i j:Nat)(hi:i<l.length)(K:j<l.length):be pE 97 [.vp (zT::aT::fT::(jz c a7 a8 a9 iq iy iv++vs)),.i .i64 (i:Int),.i .i64 (j:Int)] []=some (.b (MZ c l[i] l[j]),[]):=by
 obtain⟨r,D⟩:=MY zT aT fT (jz c a7 a8 a9 iq iy iv++vs) H l J hr i hi
 obtain⟨N,F⟩:=MY zT aT fT (jz c a7 a8 a9 iq iy iv++vs) H l J hr j K
 rw[il aaf (by simp[c97])]
 generalize l[i]=f at*
 generalize l[j]=g at*
 unfold jz at D F ⊢
 simp only[List.cons_append,List.nil_append]at D F ⊢
 unfold MZ
 by_cases e:f.to=g.fr
 ·by_cases I:c.cn≤wr .i64 (g.dp-f.ar)
  ·simp only[qA,seval,c97,D,F,Fb,e,I]
   try simp[e,I]
  ·simp only[qA,seval,c97,D,F,Fb,e,I]
   try simp[e,I]
 ·simp only[qA,seval,c97,D,F,Fb,e]
  try simp[e]
structure Sta where
 ff:Int
 fh:Bool
 lf:Int
 lh:Bool
 lg:Int
 hd:Int
 bl:Int
 lo:Int
 so:Int
 ty:List (List Nat)
def xq(n:Nat)(i:Int):Bool:=decide (0≤i∧i<(n:Int))
theorem O6{n a b:Int}:re n a b=true↔a≤n∧n≤b:=by
 grind [re]
def AQ(f:Fl):Prop:=oe f.ty=true∧2880≤f.dp∧f.ar≤52593120∧f.dp<f.ar∧f.ar-f.dp≤1440
theorem aiR{i:List (List Nat)}{f:Fl}(h:KP i f=0):AQ f:=by
 unfold KP at h
 split at h
 ·cases h
 split at h
 ·cases h
 split at h
 ·cases h
 split at h
 ·cases h
 split at h
 ·cases h
 split at h
 ·cases h
 rename_i a b c d e g
 have g:RY f=true:=by simpa using g
 unfold RY at g
 simp only[Bool.and_eq_true,decide_eq_true_eq]at g
 exact⟨by simpa using b,g⟩
theorem Xc(i:List (List Nat)): ∀(l:List Fl) (p:Option Fl),IN i p l=0→ ∀f∈l,AQ f
 | [],_,_,f,hf=>by cases hf
 |g::r,p,h,f,hf=>by
  unfold IN at h
  by_cases a:KP i g=0
  ·rw[if_neg (by simp[a])]at h
   rcases List.mem_cons.1 hf with rfl|hf
   ·exact aiR a
   ·have:IN i (some g) r=0:=by
     grind
    exact Xc i r _ this f hf
  ·grind
theorem rZ(t:Tt)(h:uo t=0):(∀f∈t.fl,AQ f)∧t.fl.length≤200:=by
 unfold uo at h
 split at h
 ·cases h
 split at h
 ·cases h
 split at h
 ·cases h
 split at h
 ·grind
 split at h
 ·rename_i q;exact absurd h q
 rename_i a b c d e
 exact⟨Xc _ _ _ h,by omega⟩
theorem Xd(c:Ct)(h:mI c=0):0≤c.cn∧c.cn≤1440∧c.st≤1440∧(0≤c.rp∧c.rp≤1440)∧(0≤c.rl∧c.rl≤1440):=by
 unfold mI at h
 split at h
 ·grind
 rename_i g
 have g:mW c=0:=by omega
 unfold mW at g
 split at g
 ·cases g
 simp_all[pY,Bool.and_eq_true,O6]
theorem itI{p:Prop}[Decidable p]{α:Type}{k:IntKind}{a b:Int}{s:α}:(if p then some (T.i k a,s)else some (T.i k b,s))=some (T.i k (if p then a else b),s):=by split <;> rfl
def TkR(k:Int×Bool)(c:List T):Prop:=c= [.i .i64 k.1,.b k.2]
theorem TkR.len(k:Int×Bool)(c:List T)(h:TkR k c):c.length=2:=by rw[h];rfl
def GG(d:List (Int×Bool))(v:T):Prop:= ∃i,IsSl v d.length i∧iA TkR d i
theorem wL{d:List (Int×Bool)}{v:T}(h:GG d v)(i:Nat)(hi:i<d.length): ∃r,∀kk,lR v (.i kk (i:Int)) 2=some (.vp (.i .i64 d[i].1:: .b d[i].2::r)):=by
 obtain⟨H,D,F⟩:=h
 obtain⟨c,r,e,h⟩:=pt (k:=2) TkR.len D F i hi
 simp_all[TkR]
def GH(c:Ct)(r:List Fl)(i j:Int):Bool:=match r[i.toNat]?,r[j.toNat]? with
 |some f,some g=>MZ c f g
 |_,_=>false
theorem D5(c:Ct)(r:List Fl){i j:Nat}(hi:i<r.length)(D:j<r.length):GH c r i j=MZ c r[i] r[j]:=by
 grind [GH]
theorem xt{n:Nat}{i:Int}(h:xq n i=true): ∃k:Nat,k<n∧i=k:=by
 unfold xq at h
 rw[decide_eq_true_eq]at h
 exact⟨i.toNat,by omega,by omega⟩
def LV(c:Ct)(i:List Fl):List (Int×Bool)→Bool
 |k::l::r=>GH c i k.1 l.1&&LV c i (l::r)
 |_=>true
def tN(c:Ct)(i:List Fl)(d:List (Int×Bool)):Int:=
 if(d.length:Int)<1 then 5 else if(6:Int)<d.length then 5 else if d.all (fun k=>xq i.length k.1)=true then(if LV c i d=true then 0 else 14)else 6
theorem aiS(c:Ct)(i:List Fl){d:List (Int×Bool)}{k:Nat}(hk:k+1<d.length):LV c i (d.drop k)=(GH c i d[k].1 d[k+1].1&&LV c i (d.drop (k+1))):=by
 grind [List.drop_eq_getElem_cons,LV]
theorem acu(c:Ct)(i:List Fl){d:List (Int×Bool)}{k:Nat}(hk:k+1=d.length):LV c i (d.drop k)=true:=by
 rw[List.drop_eq_getElem_cons (by omega:k<d.length),List.drop_eq_nil_of_le (by omega),LV]
 simp
theorem aiT{α:Type}{p:α→Bool}{d:List α}{k:Nat}(hk:k<d.length):(d.drop k).all p=(p d[k]&&(d.drop (k+1)).all p):=by
 rw[List.drop_eq_getElem_cons hk,List.all_cons]
def stV(c:Ct)(zT aT fT a7 a8 a9 iq iy iv:T)(vs:List T):T:= .vp (zT::aT::fT::(jz c a7 a8 a9 iq iy iv++vs))
section
variable(t:Tt)(c:Ct)(zT aT fT a7 a8 a9 iq iy iv:T)(vs:List T)(hT:uf t zT aT fT)
theorem Xe(hT:uf t zT aT fT){i j:Int}(hi:xq t.fl.length i=true)(F:xq t.fl.length j=true):be pE 97 [stV c zT aT fT a7 a8 a9 iq iy iv vs,.i .i64 i,.i .i64 j] []=some (.b (GH c t.fl i j),[]):=by
 obtain⟨i,r,rfl⟩:=xt hi
 obtain⟨j,D,rfl⟩:=xt F
 obtain⟨H,I,J⟩:=hT.f
 rw[D5 c t.fl r D]
 exact Xb zT aT fT a7 a8 a9 iq iy iv c vs H t.fl I J i j r D
end
section
variable(t:Tt)(c:Ct)(zT aT fT a7 a8 a9 iq iy iv:T)(hT:uf t zT aT fT)(hC:um c a7 a8 a9 iq iy iv)
end
section
variable(c:Ct)(a7 a8 a9 iq iy iv:T)(hT:um c a7 a8 a9 iq iy iv)(M0:pY c=false∨qc c=false)
include hT M0
theorem aiU:be pE 88 [.agg (jz c a7 a8 a9 iq iy iv)] []=some (.i .i64 (mW c),[]):=by
 obtain⟨⟨c7,H,K⟩,⟨c8,I,N⟩,⟨O,J,U⟩,⟨FV,r,O2⟩,⟨S4,D,RU⟩,⟨ZK,F,WY⟩⟩:=hT
 unfold jz
 rw[il ag1 (by simp[c88])]
 unfold mW
 unfold pY qc at M0 ⊢
 have w:=fun n lo hi=>kq (zi n lo hi)
 simp(maxDischargeDepth:=6) only[qB,seval,c88,H.lenI,I.lenI,J.lenI,r.lenI,D.lenI,F.lenI,w,JK]
 clear w
 grind (splits:=40)
theorem D6:mW c≠0:=by
 have _:=hT
 unfold mW
 by_cases h:pY c=false
 ·rw[if_pos h];decide
 ·rw[if_neg h,if_pos (M0.resolve_left h)];decide
theorem KS:mI c=mW c:=by
 unfold mI;rw[if_pos (D6 c a7 a8 a9 iq iy iv hT M0)]
theorem afG: ∃s,be pE 50 [.agg (jz c a7 a8 a9 iq iy iv)] []=some (.i .i64 (mI c),s):=by
 have r:=aiU c a7 a8 a9 iq iy iv hT M0
 have I:=D6 c a7 a8 a9 iq iy iv hT M0
 rw[KS c a7 a8 a9 iq iy iv hT M0]
 obtain⟨⟨c7,J,O⟩,⟨c8,K,U⟩,⟨V,N,W⟩,⟨FV,D,O2⟩,⟨S4,F,RU⟩,⟨ZK,H,WY⟩⟩:=hT
 unfold jz at r ⊢
 rw[il agQ (by simp[To])]
 generalize mW c=e at*
 simp only[qA,seval,To,J.froz1,K.froz1,N.froz1,D.froz1,F.froz1,H.froz1,r,ap2,I]
 exact⟨_,rfl⟩
end
structure M4 (c:Ct):Prop where
 n7:smC c.cs
 n8: ∀u∈c.ru,Xf u.x
 n9: ∀u∈c.co,Xf u.x
 n10: ∀x∈c.cr,Xf x
theorem M4.sm{c:Ct}(h:M4 c)(hs:qc c=true):AP c:=by
 unfold qc at hs
 simp only[Bool.and_eq_true,decide_eq_true_eq]at hs
 obtain⟨i,r,D,F,H,I⟩:=hs
 exact⟨⟨h.n7,oi (by omega)⟩,⟨h.n8,oi (by omega)⟩,⟨h.n9,oi (by omega)⟩,⟨h.n10,oi (by omega)⟩,oi (by omega),oi (by omega)⟩
def uq(t:Tt)(c:Ct):Int:=if uo t≠0 then uo t else mI c
def flG(l:List Fl)(i:Int):Fl:=(l[i.toNat]?).getD ⟨[],[],[],0,0,[],0,0,0⟩
theorem aiV{l:List Fl}{i:Nat}(h:i<l.length):flG l i=l[i]:=by
 unfold flG;rw[Int.toNat_natCast,List.getElem?_eq_getElem h];rfl
theorem qS(c:Ct)(zT aT fT a7 a8 a9 iq iy iv:T)(vs:List T):froz (stV c zT aT fT a7 a8 a9 iq iy iv vs)=true:=nr rfl
section
variable(t:Tt)(c:Ct)(zT aT fT a7 a8 a9 iq iy iv:T)(hT:uf t zT aT fT)(hC:um c a7 a8 a9 iq iy iv)(hN:M4 c)
theorem fzA(hT:uf t zT aT fT)(hC:um c a7 a8 a9 iq iy iv):(froz1 zT=true∧froz1 aT=true∧froz1 fT=true∧froz1 a7=true∧froz1 a8=true∧froz1 a9=true∧froz1 iq=true∧froz1 iy=true∧froz1 iv=true)∧cellsOf zT= [zT]∧cellsOf aT= [aT]∧cellsOf fT= [fT]∧cellsOf a7= [a7]∧cellsOf a8= [a8]∧cellsOf a9= [a9]∧cellsOf iq= [iq]∧cellsOf iy= [iy]∧cellsOf iv= [iv]:=by
 obtain⟨⟨_,F,_⟩,⟨_,H,_⟩,⟨_,I,_⟩⟩:=hT
 obtain⟨⟨_,J,_⟩,⟨_,K,_⟩,⟨_,N,_⟩,⟨_,i,_⟩,⟨_,r,_⟩,⟨_,D,_⟩⟩:=hC
 exact⟨⟨F.froz1,H.froz1,I.froz1,J.froz1,K.froz1,N.froz1,i.froz1,r.froz1,D.froz1⟩,F.cells,H.cells,I.cells,J.cells,K.cells,N.cells,i.cells,r.cells,D.cells⟩
include hC hN
theorem as4: ∃s,be pE 50 [.agg (jz c a7 a8 a9 iq iy iv)] []=some (.i .i64 (mI c),s):=by
 by_cases hr:pY c=false
 ·exact afG c a7 a8 a9 iq iy iv hC (.inl hr)
 ·by_cases hs:qc c=false
  ·exact afG c a7 a8 a9 iq iy iv hC (.inr hs)
  ·exact O3 c a7 a8 a9 iq iy iv hC (hN.sm (by simpa using hs))
omit hN in
theorem RZ(h:mI c=0):qc c=true:=by
 cases hs:qc c with
 |true=>rfl
 |false=>
  exfalso
  rw[KS c a7 a8 a9 iq iy iv hC (.inr hs)]at h
  exact D6 c a7 a8 a9 iq iy iv hC (.inr hs) h
include hT
theorem Xg(h:uq t c=0): ∃s vs,be pE 23 [.agg [zT,aT,fT],.agg (jz c a7 a8 a9 iq iy iv)] []=some (.tup [stV c zT aT fT a7 a8 a9 iq iy iv vs,.i .i64 0],s)∧FB t c vs:=by
 unfold uq at h
 by_cases r:uo t=0
 ·rw[if_neg (by simp[r])]at h
  obtain⟨s,vs,D,_,_,F⟩:=aiQ t c zT aT fT a7 a8 a9 iq iy iv hT hC (hN.sm (RZ c a7 a8 a9 iq iy iv hC h)) r h
  exact⟨s,vs,D,F⟩
 ·rw[if_pos r]at h;exact absurd h r
theorem as5(h:uq t c≠0): ∃s,be pE 23 [.agg [zT,aT,fT],.agg (jz c a7 a8 a9 iq iy iv)] []=some (.tup [.nilptr,.i .i64 (uq t c)],s):=by
 unfold uq at h ⊢
 by_cases D:uo t=0
 ·rw[if_neg (by simp[D])]at h ⊢
  have Zz:=MW t zT aT fT hT
  obtain⟨W,r⟩:=as4 c a7 a8 a9 iq iy iv hC hN
  rw[D]at Zz
  obtain⟨⟨X,J,Y⟩,⟨ac,K,Z⟩,⟨fc,N,f2⟩⟩:=hT
  obtain⟨⟨_,O,_⟩,⟨_,U,_⟩,⟨_,V,_⟩,⟨_,F,_⟩,⟨_,H,_⟩,⟨_,I,_⟩⟩:=hC
  rw[il Z7 (by simp[ZY])]
  unfold jz at r ⊢
  simp only[qA,seval,ZY,Zz,r,h,agP,apu,J.froz1,K.froz1,N.froz1,O.froz1,U.froz1,V.froz1,F.froz1,H.froz1,I.froz1]
  exact⟨_,rfl⟩
 ·rw[if_pos D]
  exact acs t c zT aT fT a7 a8 a9 iq iy iv hT hC D
theorem M5(h:uq t c=0):uo t=0∧mI c=0:=by
 have _:=hC;have _:=hN;have _:=hT
 unfold uq at h
 by_cases i:uo t=0
 ·rw[if_neg (by simp[i])]at h;exact⟨i,h⟩
 ·rw[if_pos i]at h;exact absurd h i
end
theorem aiW(a:Int):a.tdiv 1440=if a.tmod 1440<0 then a/1440+1 else a/1440:=by
 grind
theorem aiX(a:Int):a.tmod 1440=if a.tmod 1440<0 then a%1440-1440 else a%1440:=by
 grind
def KT(a:Int):Prop:= -100000000≤a∧a≤100000000
theorem AR(a:Int)(H:KT a):be pE 168 [.i .i64 a] []=some (.tup [.i .i64 (a/1440),.i .i64 (a%1440)],[]):=by
 obtain⟨K,N⟩:=H
 have D:=aiW a
 have r:=aiX a
 rw[il aey (by simp[QD])]
 by_cases h:a.tmod 1440<0
 ·rw[if_pos h]at D r
  rw[r]at h
  have F:wr .i64 (a/1440+1)=a/1440+1:=jw (by omega)
  have I:wr .i64 (a/1440+1-1)=a/1440:=by rw[jw (by omega)];omega
  have J:wr .i64 (a%1440-1440+1440)=a%1440:=by rw[jw (by omega)];omega
  simp only[qA,seval,QD,D,r,F,h,I,J]
 ·rw[if_neg h]at D r
  rw[r]at h
  have F:wr .i64 (a/1440)=a/1440:=jw (by omega)
  simp only[qA,seval,QD,D,r,F,h]
def uN(o:Int):List (Int×Int)→Int→Int
 | [],_=>o
 |s::r,t=>if s.1≤t then uN s.2 r t else o
theorem M6{p:Option Int}{s:Int×Int}{r:List (Int×Int)}(h:M7 p (s::r)=0):AS s.1=true∧xu s.2=true∧(∀q,p=some q→q<s.1)∧M7 (some s.1) r=0:=by
 unfold M7 at h
 grind
theorem Cl: ∀{l:List (Int×Int)} {p:Option Int},M7 p l=0→ ∀s∈l,AS s.1=true∧xu s.2=true
 |a::r,p,h,s,hs=>by
  obtain⟨D,F,_,i⟩:=M6 h
  rcases List.mem_cons.1 hs with rfl|hs
  ·grind
  ·exact Cl i s hs
theorem Xh: ∀{l:List (Int×Int)} {o t:Int},xu o=true→(∀s∈l,xu s.2=true)→xu (uN o l t)=true
 | [],o,t,h,_=>h
 |s::r,o,t,h,i=>by
  rw[uN]
  split
  ·exact Xh (i s (by simp)) fun x hx=>i x (by simp[hx])
  ·exact h
def Zo.off(z:Zo)(t:Int):Int:=uN z.o z.sh t
theorem tO{z:Zo}(h:oD z=0):xu z.o=true∧z.sh.length≤16∧M7 none z.sh=0:=by
 grind [oD]
theorem Zo.off_bd{z:Zo}(h:oD z=0)(t:Int): -840≤z.off t∧z.off t≤840:=by
 obtain⟨i,_,r⟩:=tO h
 have:=Xh (t:=t) i fun s hs=>(Cl r s hs).2
 grind [xu,Zo.off]
def E2(z:Zo)(a:T):List T:= [.s z.nm,.i .i64 z.o,a]
def ZoT(z:Zo)(a:T):Prop:= ∃i,IsSl a z.sh.length i∧iA ZL z.sh i
section
variable(z:Zo)(a:T)(hz:ZoT z a)(hlen:z.sh.length≤16)
include hz hlen
theorem azo(t:Int)(fr:Fr)(lh:iw b8)(sh:List b8)(I:an fr 1= .i .i64 t)(J:an fr 5= .i .i64 z.o)(F:an fr 11=a)(D:an fr 12= .i .i64 (z.sh.length:Int))(K:an fr 13= .i .i64 0):
  wJ 25 vw fr lh sh (.ext 0)∧
  (an (tD pE 25 vw fr lh sh) 5= .i .i64 (uN z.o z.sh t)∧ow pE 25 vw fr lh sh=sh):=by
 obtain⟨Y,N,hc⟩:=hz
 refine ny (fun k st=> ∃(fr:Fr) (lh:iw b8) (o:Int),st=⟨fr,lh,sh⟩∧an fr 1= .i .i64 t∧an fr 5= .i .i64 o∧an fr 11=a∧an fr 12= .i .i64 (z.sh.length:Int)∧an fr 13= .i .i64 (k:Int)∧uN o (z.sh.drop k) t=uN z.o z.sh t)
  (fun O Z U=>an O 5= .i .i64 (uN z.o z.sh t)∧U=sh) _ z.sh.length ?_ ?_ fr lh sh ⟨fr,lh,z.o,rfl,I,J,F,D,K,rfl⟩
 ·rintro k _ hk ⟨fr,lh,o,rfl,I,J,F,D,K,H⟩
  have V:(k:Int)<z.sh.length:=by omega
  have W:=iO (k:=k) (by omega)
  obtain⟨rr,X⟩:=O7 N hc hk
  rw[List.drop_eq_getElem_cons hk,uN]at H
  generalize z.sh[k]=s at*
  generalize uN z.o z.sh t=r at*
  simp only[qB,seval,vw,I,F,D,K,V,X,W]
  refine DV (fun h=> ?_) (fun h=> ?_)
  ·rw[if_neg (by omega)]at H
   exact oS ⟨rfl,by simp only[qA,seval,J,H],rfl⟩
  ·rw[if_pos (by omega)]at H
   exact mR ⟨_,_,s.2,rfl,by simp only[qA,seval,I],by simp only[qA,seval],by simp only[qA,seval,F],by simp only[qA,seval,D],by simp only[qA,seval],H⟩
 ·rintro _ ⟨fr,lh,o,rfl,I,J,F,D,K,H⟩
  rw[List.drop_length,uN]at H
  simp only[qA,seval,vw,D,K,Int.lt_irrefl]
  exact oS ⟨rfl,by simp only[qA,seval,J,H],rfl⟩
theorem R5(t:Int):be pE 166 [.agg (E2 z a),.i .i64 t] []=some (.i .i64 (z.off t),[]):=by
 have F:=fun fr lh sh H I r D J=>azo z a hz hlen t fr lh sh H I r D J
 obtain⟨N,K,hc⟩:=hz
 unfold Zo.off E2
 rw[il aew (by simp[TY])]
 simp only[qA,seval,TY,K.lenI,F]
end
section
variable(z:Zo)(a:T)(hz:ZoT z a)(hv:oD z=0)
include hz hv
theorem xw(t:Int)(I:AS t=true):be pE 117 [.agg (E2 z a),.i .i64 t] []=some (.tup [.i .i64 (z.off t),.i .i64 0],[]):=by
 have r:=R5 z a hz (tO hv).2.1 t
 obtain⟨J,D,hc⟩:=hz
 have F:=D7 z a J D hc
 have H:=O8 t
 rw[hv]at F
 rw[I]at H
 unfold E2 at r ⊢
 rw[il ad2 (by simp[TG])]
 simp only[qA,seval,TG,r,F,H,D.froz1,aqz,aac,Us]
theorem aiZ(t:Int)(i:AS t=true):wr .i64 (t+z.off t)=t+z.off t∧KT (t+z.off t):=by
 have _:=hz
 have r:=Zo.off_bd hv t
 unfold AS at i
 simp only[Bool.and_eq_true,decide_eq_true_eq]at i
 exact⟨jw (by omega),by unfold KT;omega⟩
def Zo.day(z:Zo)(t:Int):Int:=(t+z.off t)/1440
def Zo.clk(z:Zo)(t:Int):Int:=(t+z.off t)%1440
theorem KU(t:Int)(r:AS t=true):be pE 118 [.agg (E2 z a),.i .i64 t] []=some (.tup [.i .i64 (z.day t),.i .i64 (z.clk t),.i .i64 0],[]):=by
 have D:=xw z a hz hv t r
 obtain⟨w,n⟩:=aiZ z a hz hv t r
 have I:=AR _ n
 obtain⟨J,F,hc⟩:=hz
 have H:be pE 167 [.agg (E2 z a),.i .i64 t] []=some (.tup [.i .i64 (t+z.off t),.i .i64 0],[]):=by
  unfold E2 at D ⊢
  rw[il aex (by simp[TZ])]
  simp only[qA,seval,TZ,D,w,F.froz1,Uq]
 unfold Zo.day Zo.clk
 generalize t+z.off t=m at*
 unfold E2 at H ⊢
 rw[il ad3 (by simp[TH])]
 simp only[qA,seval,TH,H,I,F.froz1,aqA,aez]
end
def sS(f:Int→Bool)(a:Int):Nat→Int
 |0=>0
 |n+1=>sS f a n+if f (a+n)=true then 1 else 0
theorem KV(f:Int→Bool)(a:Int)(m:Nat): ∀n,sS f a (m+n)=sS f a m+sS f (a+m) n
 |0=>by simp[sS]
 |n+1=>by
  rw[←Nat.add_assoc,sS,sS,KV f a m n,show a+((m+n:Nat):Int)=a+m+n by omega]
  omega
theorem D8{f g:Int→Bool}{a:Int}: ∀{n:Nat},(∀t,a≤t→t<a+n→f t=g t)→sS f a n=sS g a n
 |0,_=>rfl
 |n+1,h=>by rw[sS,sS,D8 fun t i r=>h t i (by omega),h (a+n) (by omega) (by omega)]
theorem HS(f:Int→Bool)(a:Int): ∀n,0≤sS f a n∧sS f a n≤n
 |0=>by simp[sS]
 |n+1=>by have:=HS f a n;rw[sS];split <;> omega
def uO(f:Int→Bool)(a b:Int):Int:=sS f a (b-a).toNat
theorem Xi(f:Int→Bool){a m b:Int}(i:a≤m)(r:m≤b):uO f a b=uO f a m+uO f m b:=by
 unfold uO
 have:=KV f a (m-a).toNat (b-m).toNat
 grind
theorem AU(f:Int→Bool){a b:Int}(h:b≤a):uO f a b=0:=by
 unfold uO;rw[show(b-a).toNat=0 by omega];rfl
theorem xx{f g:Int→Bool}{a b:Int}(h: ∀t,a≤t→t<b→f t=g t):uO f a b=uO g a b:=by
 grind [uO,D8]
def M8(c len p q d:Int):Int:=if max (1440*d+c) p<min (1440*d+c+len) q then min (1440*d+c+len) q-max (1440*d+c) p else 0
def uP(c len p q lo:Int):Nat→Int
 |0=>0
 |n+1=>uP c len p q lo n+M8 c len p q (lo+n)
theorem R6{c len p q d:Int}(i:1≤len)(r:p≤q):M8 c len p (q+1) d=M8 c len p q d+if 1440*d+c≤q∧q<1440*d+c+len then 1 else 0:=by
 grind [M8]
theorem GI{c len p q lo:Int}(i:1≤len)(D:len<1440)(r:p≤q): ∀n:Nat,uP c len p (q+1) lo n=uP c len p q lo n+if lo≤(q-c)/1440∧(q-c)/1440<lo+n∧(q-c)%1440<len then 1 else 0
 |0=>by grind [uP]
 |n+1=>by
  rw[uP,uP,GI i D r n,R6 i r]
  grind
theorem GJ{c len p:Int}(lo:Int): ∀n:Nat,uP c len p p lo n=0
 |0=>rfl
 |n+1=>by
  rw[uP,GJ lo n]
  grind [M8]
def kf(f t:Int):Int:=(t-f+1440)%1440
theorem KW{m f t:Int}(i:0≤f∧f<1440)(r:0≤t∧t<1440):nn (m%1440) f t=decide ((m-f)%1440<kf f t):=by
 grind [nn,kf]
theorem KX{f t o p:Int}(D:0≤f∧f<1440)(F:0≤t∧t<1440)(i:kf f t≠0)(lo:Int)(n:Nat)(Xj:lo≤(p+o)/1440-1):
  ∀k:Nat,(p+k-1+o)/1440<lo+n→uP (f-o) (kf f t) p (p+k) lo n=sS (fun x=>nn ((x+o)%1440) f t) p k
 |0,_=>by rw[show p+((0:Nat):Int)=p by omega,GJ];rfl
 |k+1,h=>by
  have r:1≤kf f t∧kf f t<1440:=by unfold kf at i ⊢; omega
  have ih:=KX D F i lo n Xj k (by omega)
  rw[show p+((k+1:Nat):Int)=p+k+1 by omega,GI r.1 r.2 (by omega),ih,sS]
  grind [KW]
def zj(a b o:Int):List (Int×Int×Int):=if a<b then [(a,b,o)]else []
def oq(S T fr o:Int):List (Int×Int)→List (Int×Int×Int)
 | []=>zj (max fr S) (min 52596000 T) o
 |s::r=>zj (max fr S) (min s.1 T) o++oq S T s.1 s.2 r
def xy(g:Int×Int→Bool)(l:List (Int×Int×Int)):Int:=(l.map fun x=>uO (fun t=>g (t,x.2.2)) x.1 x.2.1).sum
theorem Xk(g:Int×Int→Bool)(a b o:Int):xy g (zj a b o)=uO (fun t=>g (t,o)) a b:=by
 grind [zj,xy,AU]
theorem KY(g:Int×Int→Bool)(l r:List (Int×Int×Int)):xy g (l++r)=xy g l+xy g r:=by
 grind [xy]
theorem KZ(g:Int×Int→Bool){S T:Int}(hT:T≤52596000): ∀(l:List (Int×Int)) (p:Option Int) (fr o:Int),M7 p l=0→(∀s∈l.head?,fr≤s.1)→xy g (oq S T fr o l)=uO (fun t=>g (t,uN o l t)) (max fr S) T
 | [],p,fr,o,h,D=>by
   rw[oq,Xk,Int.min_eq_right hT];rfl
 |s::r,p,fr,o,h,D=>by
  obtain⟨_,_,_,F⟩:=M6 h
  have hs:=D s rfl
  have hr: ∀x∈r.head?,s.1≤x.1:=by
   intro x hx
   cases r with
   |nil=>cases hx
   |cons y r=>
    cases hx
    have:=(M6 F).2.2.1 s.1 rfl
    omega
  rw[oq,KY,Xk,KZ g hT r _ s.1 s.2 F hr]
  have i: ∀t,s.1≤t→uN o (s::r) t=uN s.2 r t:=fun t H=>by rw[uN,if_pos H]
  have early: ∀t,t<s.1→uN o (s::r) t=o:=fun t H=>by rw[uN,if_neg (by omega)]
  by_cases hc:max fr S≤s.1∧s.1≤T
  ·rw[Xi (m:=s.1) _ hc.1 hc.2,show min s.1 T=s.1 by omega,show max s.1 S=s.1 by omega]
   grind [xx]
  ·by_cases J:s.1≤T
   ·rw[AU (a:=max fr S) (b:=min s.1 T) _ (by omega),show max s.1 S=max fr S by omega,Int.zero_add]
    exact xx fun t I _=>by rw[i t (by omega)]
   ·rw[AU (a:=max s.1 S) (b:=T) _ (by omega),show min s.1 T=T by omega,Int.add_zero]
    exact xx fun t _ I=>by rw[early t (by omega)]
def Zo.bandM(z:Zo)(S T f t:Int):Int:=uO (fun x=>nn (z.clk x) f t) S T
theorem M9{z:Zo}(hv:oD z=0){S T f t:Int}(r:0≤S)(hT:T≤52596000):xy (fun x=>nn ((x.1+x.2)%1440) f t) (oq S T 0 z.o z.sh)=z.bandM S T f t:=by
 have i:=(tO hv).2.2
 rw[KZ _ hT z.sh none 0 z.o i,show max 0 S=S by omega]
 ·rfl
 ·intro s hs
  have:=(Cl i s (List.mem_of_mem_head? hs)).1
  grind [AS]
end Go.Proofs.YtcpceiclnbmgiaaGreat
