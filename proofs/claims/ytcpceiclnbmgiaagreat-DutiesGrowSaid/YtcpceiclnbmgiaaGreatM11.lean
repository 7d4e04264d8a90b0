/- Walks of functions of the program and of the reference, and their plain laws, part 11. Conditions: the theorems' own. -/
import Derived.Test.YtcpceiclnbmgiaaGreatM10
import Derived.KernelRfl
set_option maxRecDepth 100000
set_option linter.unusedSimpArgs false
set_option linter.unusedVariables false
set_option maxHeartbeats 16000000
namespace Go.Proofs.YtcpceiclnbmgiaaGreat
open Go Go.Ev
theorem ail(zT aT fT:T)(D I:List T)(n:Nat)(H:IsSl fT n I)(i:Int):be pE 54 [.vp (zT::aT::fT::D),.i .i64 i] []=some (.b (decide (0≤i∧i<(n:Int))),[]):=by
 rw[gQ aoX (by simp[c54])]
 by_cases r:0≤i
 ·by_cases F:i<(n:Int)
  ·simp only[qA,seval,c54,H.lenI,r,F]
   try simp[r,F]
  ·simp only[qA,seval,c54,H.lenI,r,F]
   try simp[r,F]
 ·simp only[qA,seval,c54,r]
  try simp[r]
theorem Mw(zT aT fT:T)(D F:List T)(l:List Fl)(H:IsSl fT l.length F)(hr:hZ Rq l F)(k:Nat)(hk:k<l.length): ∃r,be pE 73 [.vp (zT::aT::fT::D),.i .i64 (k:Int)] []=some (.vp (.s l[k].nu:: .s l[k].fr:: .s l[k].to:: .i .i64 l[k].dp:: .i .i64 l[k].ar:: .s l[k].ty:: .i .i64 l[k].n0:: .i .i64 l[k].n1:: .i .i64 l[k].n2::r),[]):=by
 obtain⟨r,I⟩:=WL H hr k hk
 refine⟨r, ?_⟩
 rw[gQ agn (by simp[c73])]
 simp only[qA,seval,c73,I]
def WM(c:Ct)(f g:Fl):Bool:=decide (f.to=g.fr)&&(decide (c.cn≤wr .i64 (g.dp-f.ar))&&decide (wr .i64 (g.dp-f.ar)≤c.st))
theorem aim(zT aT fT a7 a8 a9 gX hU gZ:T)(c:Ct)(vs H:List T)(l:List Fl)(J:IsSl fT l.length H)(hr:hZ Rq l H)(i j:Nat)(hi:i<l.length)(K:j<l.length):be pE 97 [.vp (zT::aT::fT::(jE c a7 a8 a9 gX hU gZ++vs)),.i .i64 (i:Int),.i .i64 (j:Int)] []=some (.b (WM c l[i] l[j]),[]):=by
 obtain⟨r,D⟩:=Mw zT aT fT (jE c a7 a8 a9 gX hU gZ++vs) H l J hr i hi
 obtain⟨N,F⟩:=Mw zT aT fT (jE c a7 a8 a9 gX hU gZ++vs) H l J hr j K
 rw[gQ apy (by simp[c97])]
 generalize l[i]=f at*
 generalize l[j]=g at*
 unfold jE at D F ⊢
 simp only[List.cons_append,List.nil_append]at D F ⊢
 unfold WM
 by_cases e:f.to=g.fr
 ·by_cases I:c.cn≤wr .i64 (g.dp-f.ar)
  ·simp only[qA,seval,c97,D,F,EF,e,I]
   try simp[e,I]
  ·simp only[qA,seval,c97,D,F,EF,e,I]
   try simp[e,I]
 ·simp only[qA,seval,c97,D,F,EF,e]
  try simp[e]
structure Sta where
 ff:Int
 fh:Bool
 lf:Int
 lh:Bool
 lg:Int
 hd:Int
 bl:Int
 lo:Int
 so:Int
 ty:List (List Nat)
def Lq(n:Nat)(i:Int):Bool:=decide (0≤i∧i<(n:Int))
theorem OC{n a b:Int}:qL n a b=true↔a≤n∧n≤b:=by
 grind [qL]
def Ao(f:Fl):Prop:=nV f.ty=true∧2880≤f.dp∧f.ar≤52593120∧f.dp<f.ar∧f.ar-f.dp≤1440
theorem ain{i:List (List Nat)}{f:Fl}(h:Km i f=0):Ao f:=by
 unfold Km at h
 split at h
 ·cases h
 split at h
 ·cases h
 split at h
 ·cases h
 split at h
 ·cases h
 split at h
 ·cases h
 split at h
 ·cases h
 rename_i a b c d e g
 have g:Rr f=true:=by simpa using g
 unfold Rr at g
 simp only[Bool.and_eq_true,decide_eq_true_eq]at g
 exact⟨by simpa using b,g⟩
theorem WN(i:List (List Nat)): ∀(l:List Fl) (p:Option Fl),Ig i p l=0→ ∀f∈l,Ao f
 | [],_,_,f,hf=>by cases hf
 |g::r,p,h,f,hf=>by
  unfold Ig at h
  by_cases a:Km i g=0
  ·rw[if_neg (by simp[a])]at h
   rcases List.mem_cons.1 hf with rfl|hf
   ·exact ain a
   ·have:Ig i (some g) r=0:=by
     grind
    exact WN i r _ this f hf
  ·grind
theorem rG(t:Tt)(h:tW t=0):(∀f∈t.fl,Ao f)∧t.fl.length≤200:=by
 unfold tW at h
 split at h
 ·cases h
 split at h
 ·cases h
 split at h
 ·cases h
 split at h
 ·grind
 split at h
 ·rename_i q;exact absurd h q
 rename_i a b c d e
 exact⟨WN _ _ _ h,by omega⟩
theorem WO(c:Ct)(h:mi c=0):0≤c.cn∧c.cn≤1440∧c.st≤1440∧(0≤c.rp∧c.rp≤1440)∧(0≤c.rl∧c.rl≤1440):=by
 unfold mi at h
 split at h
 ·grind
 rename_i g
 have g:mE c=0:=by omega
 unfold mE at g
 split at g
 ·cases g
 simp_all[pK,Bool.and_eq_true,OC]
def TkR(k:Int×Bool)(c:List T):Prop:=c= [.i .i64 k.1,.b k.2]
theorem TkR.len(k:Int×Bool)(c:List T)(h:TkR k c):c.length=2:=by rw[h];rfl
def OD(d:List (Int×Bool))(v:T):Prop:= ∃i,IsSl v d.length i∧hZ TkR d i
theorem DK{d:List (Int×Bool)}{v:T}(h:OD d v)(i:Nat)(hi:i<d.length): ∃r,∀kk,lH v (.i kk (i:Int)) 2=some (.vp (.i .i64 d[i].1:: .b d[i].2::r)):=by
 obtain⟨H,D,F⟩:=h
 obtain⟨c,r,e,h⟩:=oY (k:=2) TkR.len D F i hi
 simp_all[TkR]
theorem aio{n:Nat}{i:Int}(h:Lq n i=true): ∃k:Nat,k<n∧i=k:=by
 unfold Lq at h
 rw[decide_eq_true_eq]at h
 exact⟨i.toNat,by omega,by omega⟩
def stV(c:Ct)(zT aT fT a7 a8 a9 gX hU gZ:T)(vs:List T):T:= .vp (zT::aT::fT::(jE c a7 a8 a9 gX hU gZ++vs))
section
variable(t:Tt)(c:Ct)(zT aT fT a7 a8 a9 gX hU gZ:T)(vs:List T)(hT:wM t zT aT fT)
end
section
variable(t:Tt)(c:Ct)(zT aT fT a7 a8 a9 gX hU gZ:T)(hT:wM t zT aT fT)(hC:uc c a7 a8 a9 gX hU gZ)
end
section
variable(c:Ct)(a7 a8 a9 gX hU gZ:T)(hT:uc c a7 a8 a9 gX hU gZ)(Mx:pK c=false∨pT c=false)
include hT Mx
theorem aip:be pE 88 [.agg (jE c a7 a8 a9 gX hU gZ)] []=some (.i .i64 (mE c),[]):=by
 obtain⟨⟨c7,H,K⟩,⟨c8,I,N⟩,⟨c9,J,O⟩,⟨Fg,r,Oy⟩,⟨Sx,D,Rn⟩,⟨Ze,F,Wz⟩⟩:=hT
 unfold jE
 rw[gQ ags (by simp[c88])]
 unfold mE
 unfold pK pT at Mx ⊢
 have w:=fun n lo hi=>j2 (yz n lo hi)
 simp(maxDischargeDepth:=6) only[qB,seval,c88,H.lenI,I.lenI,J.lenI,r.lenI,D.lenI,F.lenI,w,Jf]
 clear w
 grind (splits:=40)
theorem DL:mE c≠0:=by
 have _:=hT
 unfold mE
 by_cases h:pK c=false
 ·rw[if_pos h];decide
 ·rw[if_neg h,if_pos (Mx.resolve_left h)];decide
theorem Kp:mi c=mE c:=by
 unfold mi;rw[if_pos (DL c a7 a8 a9 gX hU gZ hT Mx)]
theorem ae9: ∃s,be pE 50 [.agg (jE c a7 a8 a9 gX hU gZ)] []=some (.i .i64 (mi c),s):=by
 have r:=aip c a7 a8 a9 gX hU gZ hT Mx
 have I:=DL c a7 a8 a9 gX hU gZ hT Mx
 rw[Kp c a7 a8 a9 gX hU gZ hT Mx]
 obtain⟨⟨c7,J,O⟩,⟨c8,K,U⟩,⟨c9,N,V⟩,⟨Fg,D,Oy⟩,⟨Sx,F,Rn⟩,⟨Ze,H,Wz⟩⟩:=hT
 unfold jE at r ⊢
 rw[gQ agj (by simp[SR])]
 generalize mE c=e at*
 simp only[qA,seval,SR,J.froz1,K.froz1,N.froz1,D.froz1,F.froz1,H.froz1,r,apn,I]
 exact⟨_,rfl⟩
end
structure Rs (c:Ct):Prop where
 n7:smC c.cs
 n8: ∀u∈c.ru,WQ u.x
 n9: ∀u∈c.co,WQ u.x
 n10: ∀x∈c.cr,WQ x
theorem Rs.sm{c:Ct}(h:Rs c)(hs:pT c=true):An c:=by
 unfold pT at hs
 simp only[Bool.and_eq_true,decide_eq_true_eq]at hs
 obtain⟨i,r,D,F,H,I⟩:=hs
 exact⟨⟨h.n7,nY (by omega)⟩,⟨h.n8,nY (by omega)⟩,⟨h.n9,nY (by omega)⟩,⟨h.n10,nY (by omega)⟩,nY (by omega),nY (by omega)⟩
def yA(t:Tt)(c:Ct):Int:=if tW t≠0 then tW t else mi c
def flG(l:List Fl)(i:Int):Fl:=(l[i.toNat]?).getD ⟨[],[],[],0,0,[],0,0,0⟩
theorem aiq{l:List Fl}{i:Nat}(h:i<l.length):flG l i=l[i]:=by
 unfold flG;rw[Int.toNat_natCast,List.getElem?_eq_getElem h];rfl
theorem Aq(c:Ct)(zT aT fT a7 a8 a9 gX hU gZ:T)(vs:List T):froz (stV c zT aT fT a7 a8 a9 gX hU gZ vs)=true:=nr rfl
section
variable(t:Tt)(c:Ct)(zT aT fT a7 a8 a9 gX hU gZ:T)(hT:wM t zT aT fT)(hC:uc c a7 a8 a9 gX hU gZ)(hN:Rs c)
theorem fzA(hT:wM t zT aT fT)(hC:uc c a7 a8 a9 gX hU gZ):(froz1 zT=true∧froz1 aT=true∧froz1 fT=true∧froz1 a7=true∧froz1 a8=true∧froz1 a9=true∧froz1 gX=true∧froz1 hU=true∧froz1 gZ=true)∧cellsOf zT= [zT]∧cellsOf aT= [aT]∧cellsOf fT= [fT]∧cellsOf a7= [a7]∧cellsOf a8= [a8]∧cellsOf a9= [a9]∧cellsOf gX= [gX]∧cellsOf hU= [hU]∧cellsOf gZ= [gZ]:=by
 obtain⟨⟨_,F,_⟩,⟨_,H,_⟩,⟨_,I,_⟩⟩:=hT
 obtain⟨⟨_,J,_⟩,⟨_,K,_⟩,⟨_,N,_⟩,⟨_,i,_⟩,⟨_,r,_⟩,⟨_,D,_⟩⟩:=hC
 exact⟨⟨F.froz1,H.froz1,I.froz1,J.froz1,K.froz1,N.froz1,i.froz1,r.froz1,D.froz1⟩,F.cells,H.cells,I.cells,J.cells,K.cells,N.cells,i.cells,r.cells,D.cells⟩
include hC hN
theorem ast: ∃s,be pE 50 [.agg (jE c a7 a8 a9 gX hU gZ)] []=some (.i .i64 (mi c),s):=by
 by_cases hr:pK c=false
 ·exact ae9 c a7 a8 a9 gX hU gZ hC (.inl hr)
 ·by_cases hs:pT c=false
  ·exact ae9 c a7 a8 a9 gX hU gZ hC (.inr hs)
  ·exact Oz c a7 a8 a9 gX hU gZ hC (hN.sm (by simpa using hs))
omit hN in
theorem Rt(h:mi c=0):pT c=true:=by
 cases hs:pT c with
 |true=>rfl
 |false=>
  exfalso
  rw[Kp c a7 a8 a9 gX hU gZ hC (.inr hs)]at h
  exact DL c a7 a8 a9 gX hU gZ hC (.inr hs) h
include hT
theorem asu(h:yA t c=0): ∃s vs,be pE 23 [.agg [zT,aT,fT],.agg (jE c a7 a8 a9 gX hU gZ)] []=some (.tup [stV c zT aT fT a7 a8 a9 gX hU gZ vs,.i .i64 0],s)∧Kk t c vs:=by
 unfold yA at h
 by_cases r:tW t=0
 ·rw[if_neg (by simp[r])]at h
  obtain⟨s,vs,D,_,_,F⟩:=aik t c zT aT fT a7 a8 a9 gX hU gZ hT hC (hN.sm (Rt c a7 a8 a9 gX hU gZ hC h)) r h
  exact⟨s,vs,D,F⟩
 ·rw[if_pos r]at h;exact absurd h r
theorem asv(h:yA t c≠0): ∃s,be pE 23 [.agg [zT,aT,fT],.agg (jE c a7 a8 a9 gX hU gZ)] []=some (.tup [.nilptr,.i .i64 (yA t c)],s):=by
 unfold yA at h ⊢
 by_cases D:tW t=0
 ·rw[if_neg (by simp[D])]at h ⊢
  have Y4:=Mu t zT aT fT hT
  obtain⟨W,r⟩:=ast c a7 a8 a9 gX hU gZ hC hN
  rw[D]at Y4
  obtain⟨⟨X,J,Y⟩,⟨ac,K,Z⟩,⟨fc,N,f2⟩⟩:=hT
  obtain⟨⟨_,O,_⟩,⟨_,U,_⟩,⟨_,V,_⟩,⟨_,F,_⟩,⟨_,H,_⟩,⟨_,I,_⟩⟩:=hC
  rw[gQ Zy (by simp[Zp])]
  unfold jE at r ⊢
  simp only[qA,seval,Zp,Y4,r,h,agi,aoT,J.froz1,K.froz1,N.froz1,O.froz1,U.froz1,V.froz1,F.froz1,H.froz1,I.froz1]
  exact⟨_,rfl⟩
 ·rw[if_pos D]
  exact abQ t c zT aT fT a7 a8 a9 gX hU gZ hT hC D
theorem air(h:yA t c=0):tW t=0∧mi c=0:=by
 have _:=hC;have _:=hN;have _:=hT
 unfold yA at h
 by_cases i:tW t=0
 ·rw[if_neg (by simp[i])]at h;exact⟨i,h⟩
 ·rw[if_pos i]at h;exact absurd h i
end
theorem ais(a:Int):a.tdiv 1440=if a.tmod 1440<0 then a/1440+1 else a/1440:=by
 grind
theorem ait(a:Int):a.tmod 1440=if a.tmod 1440<0 then a%1440-1440 else a%1440:=by
 grind
def Kq(a:Int):Prop:= -100000000≤a∧a≤100000000
theorem Ar(a:Int)(H:Kq a):be pE 168 [.i .i64 a] []=some (.tup [.i .i64 (a/1440),.i .i64 (a%1440)],[]):=by
 obtain⟨K,N⟩:=H
 have D:=ais a
 have r:=ait a
 rw[gQ adY (by simp[Qa])]
 by_cases h:a.tmod 1440<0
 ·rw[if_pos h]at D r
  rw[r]at h
  have F:wr .i64 (a/1440+1)=a/1440+1:=jj (by omega)
  have I:wr .i64 (a/1440+1-1)=a/1440:=by rw[jj (by omega)];omega
  have J:wr .i64 (a%1440-1440+1440)=a%1440:=by rw[jj (by omega)];omega
  simp only[qA,seval,Qa,D,r,F,h,I,J]
 ·rw[if_neg h]at D r
  rw[r]at h
  have F:wr .i64 (a/1440)=a/1440:=jj (by omega)
  simp only[qA,seval,Qa,D,r,F,h]
def uz(o:Int):List (Int×Int)→Int→Int
 | [],_=>o
 |s::r,t=>if s.1≤t then uz s.2 r t else o
theorem My{p:Option Int}{s:Int×Int}{r:List (Int×Int)}(h:Mz p (s::r)=0):As s.1=true∧wN s.2=true∧(∀q,p=some q→q<s.1)∧Mz (some s.1) r=0:=by
 unfold Mz at h
 grind
theorem B0: ∀{l:List (Int×Int)} {p:Option Int},Mz p l=0→ ∀s∈l,As s.1=true∧wN s.2=true
 |a::r,p,h,s,hs=>by
  obtain⟨D,F,_,i⟩:=My h
  rcases List.mem_cons.1 hs with rfl|hs
  ·grind
  ·exact B0 i s hs
theorem WR: ∀{l:List (Int×Int)} {o t:Int},wN o=true→(∀s∈l,wN s.2=true)→wN (uz o l t)=true
 | [],o,t,h,_=>h
 |s::r,o,t,h,i=>by
  rw[uz]
  split
  ·exact WR (i s (by simp)) fun x hx=>i x (by simp[hx])
  ·exact h
def Zo.off(z:Zo)(t:Int):Int:=uz z.o z.sh t
theorem tw{z:Zo}(h:oj z=0):wN z.o=true∧z.sh.length≤16∧Mz none z.sh=0:=by
 grind [oj]
theorem Zo.off_bd{z:Zo}(h:oj z=0)(t:Int): -840≤z.off t∧z.off t≤840:=by
 obtain⟨i,_,r⟩:=tw h
 have:=WR (t:=t) i fun s hs=>(B0 r s hs).2
 grind [wN,Zo.off]
def Ez(z:Zo)(a:T):List T:= [.s z.nm,.i .i64 z.o,a]
def ZoT(z:Zo)(a:T):Prop:= ∃i,IsSl a z.sh.length i∧hZ Zf z.sh i
section
variable(z:Zo)(a:T)(hz:ZoT z a)(hlen:z.sh.length≤16)
include hz hlen
theorem ayq(t:Int)(fr:Fr)(lh:gW b8)(sh:List b8)(I:an fr 1= .i .i64 t)(J:an fr 5= .i .i64 z.o)(F:an fr 11=a)(D:an fr 12= .i .i64 (z.sh.length:Int))(K:an fr 13= .i .i64 0):
  wJ 25 uX fr lh sh (.ext 0)∧
  (an (tT pE 25 uX fr lh sh) 5= .i .i64 (uz z.o z.sh t)∧oi pE 25 uX fr lh sh=sh):=by
 obtain⟨Y,N,hc⟩:=hz
 refine nU (fun k st=> ∃(fr:Fr) (lh:gW b8) (o:Int),st=⟨fr,lh,sh⟩∧an fr 1= .i .i64 t∧an fr 5= .i .i64 o∧an fr 11=a∧an fr 12= .i .i64 (z.sh.length:Int)∧an fr 13= .i .i64 (k:Int)∧uz o (z.sh.drop k) t=uz z.o z.sh t)
  (fun O Z U=>an O 5= .i .i64 (uz z.o z.sh t)∧U=sh) _ z.sh.length ?_ ?_ fr lh sh ⟨fr,lh,z.o,rfl,I,J,F,D,K,rfl⟩
 ·rintro k _ hk ⟨fr,lh,o,rfl,I,J,F,D,K,H⟩
  have V:(k:Int)<z.sh.length:=by omega
  have W:=iJ (k:=k) (by omega)
  obtain⟨rr,X⟩:=OE N hc hk
  rw[List.drop_eq_getElem_cons hk,uz]at H
  generalize z.sh[k]=s at*
  generalize uz z.o z.sh t=r at*
  simp only[qB,seval,uX,I,F,D,K,V,X,W]
  refine Dz (fun h=> ?_) (fun h=> ?_)
  ·rw[if_neg (by omega)]at H
   exact pI ⟨rfl,by simp only[qA,seval,J,H],rfl⟩
  ·rw[if_pos (by omega)]at H
   exact mR ⟨_,_,s.2,rfl,by simp only[qA,seval,I],by simp only[qA,seval],by simp only[qA,seval,F],by simp only[qA,seval,D],by simp only[qA,seval],H⟩
 ·rintro _ ⟨fr,lh,o,rfl,I,J,F,D,K,H⟩
  rw[List.drop_length,uz]at H
  simp only[qA,seval,uX,D,K,Int.lt_irrefl]
  exact pI ⟨rfl,by simp only[qA,seval,J,H],rfl⟩
theorem Rv(t:Int):be pE 166 [.agg (Ez z a),.i .i64 t] []=some (.i .i64 (z.off t),[]):=by
 have F:=fun fr lh sh H I r D J=>ayq z a hz hlen t fr lh sh H I r D J
 obtain⟨N,K,hc⟩:=hz
 unfold Zo.off Ez
 rw[gQ adW (by simp[Ts])]
 simp only[qA,seval,Ts,K.lenI,F]
end
section
variable(z:Zo)(a:T)(hz:ZoT z a)(hv:oj z=0)
include hz hv
theorem wO(t:Int)(I:As t=true):be pE 117 [.agg (Ez z a),.i .i64 t] []=some (.tup [.i .i64 (z.off t),.i .i64 0],[]):=by
 have r:=Rv z a hz (tw hv).2.1 t
 obtain⟨J,D,hc⟩:=hz
 have F:=DM z a J D hc
 have H:=OG t
 rw[hv]at F
 rw[I]at H
 unfold Ez at r ⊢
 rw[gQ adq (by simp[S6])]
 simp only[qA,seval,S6,r,F,H,D.froz1,apY,ZF,TX]
theorem aiv(t:Int)(i:As t=true):wr .i64 (t+z.off t)=t+z.off t∧Kq (t+z.off t):=by
 have _:=hz
 have r:=Zo.off_bd hv t
 unfold As at i
 simp only[Bool.and_eq_true,decide_eq_true_eq]at i
 exact⟨jj (by omega),by unfold Kq;omega⟩
def Zo.day(z:Zo)(t:Int):Int:=(t+z.off t)/1440
def Zo.clk(z:Zo)(t:Int):Int:=(t+z.off t)%1440
theorem Kr(t:Int)(r:As t=true):be pE 118 [.agg (Ez z a),.i .i64 t] []=some (.tup [.i .i64 (z.day t),.i .i64 (z.clk t),.i .i64 0],[]):=by
 have D:=wO z a hz hv t r
 obtain⟨w,n⟩:=aiv z a hz hv t r
 have I:=Ar _ n
 obtain⟨J,F,hc⟩:=hz
 have H:be pE 167 [.agg (Ez z a),.i .i64 t] []=some (.tup [.i .i64 (t+z.off t),.i .i64 0],[]):=by
  unfold Ez at D ⊢
  rw[gQ adX (by simp[Tu])]
  simp only[qA,seval,Tu,D,w,F.froz1,TV]
 unfold Zo.day Zo.clk
 generalize t+z.off t=m at*
 unfold Ez at H ⊢
 rw[gQ adr (by simp[S7])]
 simp only[qA,seval,S7,H,I,F.froz1,apZ,adZ]
end
def sA(f:Int→Bool)(a:Int):Nat→Int
 |0=>0
 |n+1=>sA f a n+if f (a+n)=true then 1 else 0
theorem Ks(f:Int→Bool)(a:Int)(m:Nat): ∀n,sA f a (m+n)=sA f a m+sA f (a+m) n
 |0=>by simp[sA]
 |n+1=>by
  rw[←Nat.add_assoc,sA,sA,Ks f a m n,show a+((m+n:Nat):Int)=a+m+n by omega]
  omega
theorem DN{f g:Int→Bool}{a:Int}: ∀{n:Nat},(∀t,a≤t→t<a+n→f t=g t)→sA f a n=sA g a n
 |0,_=>rfl
 |n+1,h=>by rw[sA,sA,DN fun t i r=>h t i (by omega),h (a+n) (by omega) (by omega)]
theorem Hp(f:Int→Bool)(a:Int): ∀n,0≤sA f a n∧sA f a n≤n
 |0=>by simp[sA]
 |n+1=>by have:=Hp f a n;rw[sA];split <;> omega
def uA(f:Int→Bool)(a b:Int):Int:=sA f a (b-a).toNat
theorem WS(f:Int→Bool){a m b:Int}(i:a≤m)(r:m≤b):uA f a b=uA f a m+uA f m b:=by
 unfold uA
 have:=Ks f a (m-a).toNat (b-m).toNat
 grind
theorem At(f:Int→Bool){a b:Int}(h:b≤a):uA f a b=0:=by
 unfold uA;rw[show(b-a).toNat=0 by omega];rfl
theorem wP{f g:Int→Bool}{a b:Int}(h: ∀t,a≤t→t<b→f t=g t):uA f a b=uA g a b:=by
 grind [uA,DN]
def MA(c len p q d:Int):Int:=if max (1440*d+c) p<min (1440*d+c+len) q then min (1440*d+c+len) q-max (1440*d+c) p else 0
def uB(c len p q lo:Int):Nat→Int
 |0=>0
 |n+1=>uB c len p q lo n+MA c len p q (lo+n)
theorem Rw{c len p q d:Int}(i:1≤len)(r:p≤q):MA c len p (q+1) d=MA c len p q d+if 1440*d+c≤q∧q<1440*d+c+len then 1 else 0:=by
 grind [MA]
theorem F4{c len p q lo:Int}(i:1≤len)(D:len<1440)(r:p≤q): ∀n:Nat,uB c len p (q+1) lo n=uB c len p q lo n+if lo≤(q-c)/1440∧(q-c)/1440<lo+n∧(q-c)%1440<len then 1 else 0
 |0=>by grind [uB]
 |n+1=>by
  rw[uB,uB,F4 i D r n,Rw i r]
  grind
theorem F5{c len p:Int}(lo:Int): ∀n:Nat,uB c len p p lo n=0
 |0=>rfl
 |n+1=>by
  rw[uB,F5 lo n]
  grind [MA]
def jT(f t:Int):Int:=(t-f+1440)%1440
theorem Kt{m f t:Int}(i:0≤f∧f<1440)(r:0≤t∧t<1440):m5 (m%1440) f t=decide ((m-f)%1440<jT f t):=by
 grind [m5,jT]
theorem Ku{f t o p:Int}(F:0≤f∧f<1440)(H:0≤t∧t<1440)(r:jT f t≠0)(lo:Int)(n:Nat)(i:lo≤(p+o)/1440-1):
  ∀k:Nat,(p+k-1+o)/1440<lo+n→uB (f-o) (jT f t) p (p+k) lo n=sA (fun x=>m5 ((x+o)%1440) f t) p k
 |0,_=>by rw[show p+((0:Nat):Int)=p by omega,F5];rfl
 |k+1,h=>by
  have D:1≤jT f t∧jT f t<1440:=by unfold jT at r ⊢; omega
  have ih:=Ku F H r lo n i k (by omega)
  rw[show p+((k+1:Nat):Int)=p+k+1 by omega,F4 D.1 D.2 (by omega),ih,sA]
  grind [Kt]
def yB(a b o:Int):List (Int×Int×Int):=if a<b then [(a,b,o)]else []
def n5(S T fr o:Int):List (Int×Int)→List (Int×Int×Int)
 | []=>yB (max fr S) (min 52596000 T) o
 |s::r=>yB (max fr S) (min s.1 T) o++n5 S T s.1 s.2 r
def wQ(g:Int×Int→Bool)(l:List (Int×Int×Int)):Int:=(l.map fun x=>uA (fun t=>g (t,x.2.2)) x.1 x.2.1).sum
theorem WT(g:Int×Int→Bool)(a b o:Int):wQ g (yB a b o)=uA (fun t=>g (t,o)) a b:=by
 grind [yB,wQ,At]
theorem Kv(g:Int×Int→Bool)(l r:List (Int×Int×Int)):wQ g (l++r)=wQ g l+wQ g r:=by
 grind [wQ]
theorem Kw(g:Int×Int→Bool){S T:Int}(hT:T≤52596000): ∀(l:List (Int×Int)) (p:Option Int) (fr o:Int),Mz p l=0→(∀s∈l.head?,fr≤s.1)→wQ g (n5 S T fr o l)=uA (fun t=>g (t,uz o l t)) (max fr S) T
 | [],p,fr,o,h,D=>by
   rw[n5,WT,Int.min_eq_right hT];rfl
 |s::r,p,fr,o,h,D=>by
  obtain⟨_,_,_,F⟩:=My h
  have hs:=D s rfl
  have hr: ∀x∈r.head?,s.1≤x.1:=by
   intro x hx
   cases r with
   |nil=>cases hx
   |cons y r=>
    cases hx
    have:=(My F).2.2.1 s.1 rfl
    omega
  rw[n5,Kv,WT,Kw g hT r _ s.1 s.2 F hr]
  have i: ∀t,s.1≤t→uz o (s::r) t=uz s.2 r t:=fun t H=>by rw[uz,if_pos H]
  have early: ∀t,t<s.1→uz o (s::r) t=o:=fun t H=>by rw[uz,if_neg (by omega)]
  by_cases hc:max fr S≤s.1∧s.1≤T
  ·rw[WS (m:=s.1) _ hc.1 hc.2,show min s.1 T=s.1 by omega,show max s.1 S=s.1 by omega]
   grind [wP]
  ·by_cases J:s.1≤T
   ·rw[At (a:=max fr S) (b:=min s.1 T) _ (by omega),show max s.1 S=max fr S by omega,Int.zero_add]
    exact wP fun t I _=>by rw[i t (by omega)]
   ·rw[At (a:=max s.1 S) (b:=T) _ (by omega),show min s.1 T=T by omega,Int.add_zero]
    exact wP fun t _ I=>by rw[early t (by omega)]
def Zo.bandM(z:Zo)(S T f t:Int):Int:=uA (fun x=>m5 (z.clk x) f t) S T
theorem MB{z:Zo}(hv:oj z=0){S T f t:Int}(r:0≤S)(hT:T≤52596000):wQ (fun x=>m5 ((x.1+x.2)%1440) f t) (n5 S T 0 z.o z.sh)=z.bandM S T f t:=by
 have i:=(tw hv).2.2
 rw[Kw _ hT z.sh none 0 z.o i,show max 0 S=S by omega]
 ·rfl
 ·intro s hs
  have:=(B0 i s (List.mem_of_mem_head? hs)).1
  grind [As]
end Go.Proofs.YtcpceiclnbmgiaaGreat
