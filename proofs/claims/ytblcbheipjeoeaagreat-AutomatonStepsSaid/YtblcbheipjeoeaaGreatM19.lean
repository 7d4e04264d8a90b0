/- setting.New's conditions out of the check of a contract: plain. Flights of a setting. States of duties: plain. The program's check of a state. The program's check of a state, whole. The reference's check of a state. The structure of a duty. Conditions: the theorems' own. -/
import Derived.Test.YtblcbheipjeoeaaGreatM18
import Derived.KernelRfl
set_option linter.unusedSimpArgs false
set_option linter.unusedVariables false
set_option maxRecDepth 100000
set_option maxHeartbeats 16000000
namespace Go.Proofs.YtblcbheipjeoeaaGreat
open Go Go.Ev
theorem RA{n:Int}(h:kj n 1 3=true):n=1∨n=2∨n=3:=by
 unfold kj at h
 simp only[Bool.and_eq_true,decide_eq_true_eq]at h
 omega
theorem I8{l:Cs}{sc:Int}{x:Ex}{w:Int}(hv:fP x=0)(h:Cb l sc x w=0): ∃k,x.ty (xh l (jw l l.length)) sc=(k,0):=by
 have h2:(qX l sc x).2=0:=by
  unfold Cb at h
  split at h
  ·cases h
  ·exact h
 unfold qX at h2
 rw[if_neg (by simp[hv])]at h2
 exact⟨(x.ty (xh l (jw l l.length)) sc).1,Prod.ext rfl h2⟩
theorem RB(cs:Cs): ∀(l:List Ru),IS cs l=0→ ∀u∈l,Cb cs u.sc u.x 4=0
 | [],_,u,hu=>by cases hu
 |v::l,h,u,hu=>by
  rw[IS]at h
  split at h
  ·rename_i q;exact absurd h q
  rename_i c
  rcases List.mem_cons.1 hu with rfl|hu
  ·omega
  ·exact RB cs l h u hu
theorem RC(cs:Cs): ∀(l:List Co),IT cs l=0→ ∀u∈l,Cb cs u.sc u.x 1=0
 | [],_,u,hu=>by cases hu
 |v::l,h,u,hu=>by
  rw[IT]at h
  split at h
  ·rename_i q;exact absurd h q
  rename_i c
  rcases List.mem_cons.1 hu with rfl|hu
  ·omega
  ·exact RC cs l h u hu
theorem RD(cs:Cs): ∀(l:List Ex),KB cs l=0→ ∀u∈l,Cb cs 1 u 2=0
 | [],_,u,hu=>by cases hu
 |v::l,h,u,hu=>by
  rw[KB]at h
  split at h
  ·rename_i q;exact absurd h q
  rename_i c
  rcases List.mem_cons.1 hu with rfl|hu
  ·omega
  ·exact RD cs l h u hu
theorem VJ(c:Ct)(h:sO c=0):(∀u∈c.ru,ND c.cs u.sc u.x)∧c.ru.length≤40∧(∀u∈c.co,ND c.cs u.sc u.x)∧c.co.length≤40∧(∀u∈c.cr,ND c.cs 1 u)∧c.cr.length≤40∧c.cs.length≤32:=by
 unfold sO at h
 split at h
 ·rename_i q;exact absurd h q
 split at h
 ·rename_i q;exact absurd h q
 split at h
 ·rename_i q;exact absurd h q
 split at h
 ·rename_i q;exact absurd h q
 rename_i g _ r o
 have g:lA c=0:=by omega
 unfold lA at g
 split at g
 ·cases g
 split at g
 ·cases g
 split at g
 ·rename_i q;exact absurd g q
 split at g
 ·rename_i q;exact absurd g q
 split at g
 ·rename_i q;exact absurd g q
 split at g
 ·rename_i q;exact absurd g q
 rename_i _ sz _ vr vo vc
 have sz:qW c=true:=by simpa using sz
 unfold qW at sz
 simp only[Bool.and_eq_true,decide_eq_true_eq]at sz
 refine⟨fun u hu=> ?_,sz.2.1,fun u hu=> ?_,by omega,fun u hu=> ?_,by omega,sz.1⟩
 ·obtain⟨w,v⟩:=Rx c.ru [] (by omega) u hu
  exact⟨RA w,v,I8 v (RB c.cs c.ru (by omega) u hu)⟩
 ·obtain⟨w,v⟩:=Ry c.co (by omega) u hu
  exact⟨RA w,v,I8 v (RC c.cs c.co (by omega) u hu)⟩
 ·have v:=Rz c.cr (by omega) u hu
  exact⟨.inl rfl,v,I8 v (RD c.cs c.cr h u hu)⟩
theorem abj(t:Tt)(c:Ct)(zT aT fT a7 a8 a9 a10 fB fA:T)(hT:uC t zT aT fT)(hC:xu c a7 a8 a9 a10 fB fA)(hS:A8 c)(ht:Em t=0)(hc:sO c=0):
  ∃s vs,fj pE 42 [.agg [zT,aT,fT],.agg (fX c a7 a8 a9 a10 fB fA)] []=some (.tup [.vp (zT::aT::fT::(fX c a7 a8 a9 a10 fB fA++vs)),.i .i64 0],s)∧vs.all froz1=true∧vs.length=11:=by
 obtain⟨p1,p2,p3,p4⟩:=abi t ht
 obtain⟨q1,q2,q3,q4,q5,q6,q7⟩:=VJ c hc
 exact aiz t c zT aT fT a7 a8 a9 a10 fB fA hT hC hS ht hc p1 p2 p3 p4 q1 q2 q3 q4 q5 q6 q7
end Go.Proofs.YtblcbheipjeoeaaGreat
namespace Go.Proofs.YtblcbheipjeoeaaGreat
open Go Go.Ev
theorem I9(zT aT fT:T)(rest fc:List T)(n:Nat)(hf:fD fT n fc)(i:Int):fj pE 43 [.vp (zT::aT::fT::rest),.i .i64 i] []=some (.b (decide (0≤i∧i<(n:Int))),[]):=by
 rw[fx afw (by simp[Y4])]
 by_cases h0:0≤i
 ·by_cases h1:i<(n:Int)
  ·simp(maxDischargeDepth:=6) only[qA,seval,Y4,hf.lenI,h0,h1]
   try simp[h0,h1]
  ·simp(maxDischargeDepth:=6) only[qA,seval,Y4,hf.lenI,h0,h1]
   try simp[h0,h1]
 ·simp(maxDischargeDepth:=6) only[qA,seval,Y4,h0]
  try simp[h0]
theorem Ey(zT aT fT:T)(rest fc:List T)(l:List Fl)(hf:fD fT l.length fc)(hr:fy SX l fc)(k:Nat)(hk:k<l.length): ∃r,fj pE 95 [.vp (zT::aT::fT::rest),.i .i64 (k:Int)] []=some (.vp (.s l[k].nu:: .s l[k].fr:: .s l[k].to:: .i .i64 l[k].dp:: .i .i64 l[k].ar:: .s l[k].ty:: .i .i64 l[k].n0:: .i .i64 l[k].n1:: .i .i64 l[k].n2::r),[]):=by
 obtain⟨r,fF⟩:=tX hf hr k hk
 refine⟨r, ?_⟩
 rw[fx Zp (by simp[c95])]
 simp(maxDischargeDepth:=6) only[qA,seval,c95,fF]
def Ez(c:Ct)(f g:Fl):Bool:=decide (f.to=g.fr)&&(decide (c.cn≤wr .i64 (g.dp-f.ar))&&decide (wr .i64 (g.dp-f.ar)≤c.st))
theorem abk(zT aT fT a7 a8 a9 a10 fB fA:T)(c:Ct)(vs fc:List T)(l:List Fl)(hf:fD fT l.length fc)(hr:fy SX l fc)(i j:Nat)(hi:i<l.length)(hj:j<l.length):fj pE 49 [.vp (zT::aT::fT::(fX c a7 a8 a9 a10 fB fA++vs)),.i .i64 (i:Int),.i .i64 (j:Int)] []=some (.b (Ez c l[i] l[j]),[]):=by
 obtain⟨r,h1⟩:=Ey zT aT fT (fX c a7 a8 a9 a10 fB fA++vs) fc l hf hr i hi
 obtain⟨r',h2⟩:=Ey zT aT fT (fX c a7 a8 a9 a10 fB fA++vs) fc l hf hr j hj
 rw[fx Zg (by simp[Y5])]
 generalize l[i]=f at*
 generalize l[j]=g at*
 unfold fX at h1 h2 ⊢
 simp only[List.cons_append,List.nil_append]at h1 h2 ⊢
 unfold Ez
 by_cases e:f.to=g.fr
 ·by_cases e2:c.cn≤wr .i64 (g.dp-f.ar)
  ·simp(maxDischargeDepth:=6) only[qA,seval,Y5,h1,h2,Tj,e,e2]
   try simp[e,e2]
  ·simp(maxDischargeDepth:=6) only[qA,seval,Y5,h1,h2,Tj,e,e2]
   try simp[e,e2]
 ·simp(maxDischargeDepth:=6) only[qA,seval,Y5,h1,h2,Tj,e]
  try simp[e]
end Go.Proofs.YtblcbheipjeoeaaGreat
namespace Go.Proofs.YtblcbheipjeoeaaGreat
open Go Go.Ev
structure se where
 ff:Int
 fh:Bool
 lf:Int
 lh:Bool
 lg:Int
 hd:Int
 bl:Int
 lo:Int
 so:Int
 ty:List (List Nat)
def gv(s:se)(a:T):List T:= [.i .i64 s.ff,.b s.fh,.i .i64 s.lf,.b s.lh,.i .i64 s.lg,.i .i64 s.hd,.i .i64 s.bl,.i .i64 s.lo,.i .i64 s.so,a]
def mi(s:se)(a:T):Prop:=fD a s.ty.length (s.ty.map T.s)
def ry(n:Nat)(i:Int):Bool:=decide (0≤i∧i<(n:Int))
def M5:Int:=1099511627776
def G9(p:Option (List Nat))(x:List Nat):Bool:=match p with|some q=>gS q x|none=>true
def pQ:Option (List Nat)→List (List Nat)→Bool
 |_,[]=>true
 |p,x::r=>iX x&&(G9 p x&&pQ (some x) r)
def xi(n:Nat)(s:se):Bool:=ry n s.ff&&(ry n s.lf&&(kj s.lg 0 6&&(kj s.hd 0 6&&(kj (s.lg+s.hd) 1 6&&(kj s.bl 0 M5&&(kj s.lo 0 M5&&(kj s.so 0 M5&&pQ none s.ty)))))))
def kF(f:Fl)(k:Int×Bool)(s:se):se:=
 if k.2 then{s with lf:=k.1,lh:=true,hd:=s.hd+1}else{s with lf:=k.1,lh:=false,lg:=s.lg+1,bl:=s.bl+(f.ar-f.dp),ty:=te f.ty s.ty}
def pt(k:Int×Bool):se:=⟨k.1,k.2,0,false,0,0,0,0,1440,[]⟩
def sU(f g:Fl)(k:Int×Bool)(s:se):se:=kF g k {s with lo:=max s.lo (g.dp-f.ar),so:=min s.so (g.dp-f.ar)}
theorem Ha: ∀(l:List (List Nat)) (p:Option (List Nat)),pQ p l=true→Dz l=true
 | [],_,_=>rfl
 | [x],_,_=>rfl
 |x::y::r,p,h=>by
  rw[pQ]at h
  simp only[Bool.and_eq_true]at h
  have h2:=h.2.2
  have ih:=Ha (y::r) (some x) h2
  rw[pQ]at h2
  simp only[Bool.and_eq_true]at h2
  have h3:gS x y=true:=h2.2.1
  unfold Dz
  simp only[ih,h3,Bool.and_self]
theorem Bp(s:List Nat)(hs:iX s=true): ∀(l:List (List Nat)) (p:Option (List Nat)),G9 p s=true→pQ p l=true→pQ p (te s l)=true
 | [],p,hp,_=>by
   rw[te,pQ,hs,hp];rfl
 |x::r,p,hp,h=>by
  have h':=h
  rw[pQ]at h
  simp only[Bool.and_eq_true]at h
  rw[te]
  by_cases h1:gS x s=true
  ·rw[if_pos h1,pQ,h.1,Bp s hs r (some x) h1 h.2.2]
   rw[h.2.1];rfl
  ·rw[if_neg h1]
   by_cases h2:x=s
   ·rw[if_pos h2];exact h'
   ·rw[if_neg h2]
    have h3:gS s x=true:=by
     cases hc:gS s x with
     |true=>rfl
     |false=>exact absurd (Bh x s (by simpa using h1) hc) h2
    rw[pQ,hs,pQ,h.1,h.2.2,hp,G9,h3];rfl
theorem Hb(s:List Nat): ∀l,(te s l).length≤l.length+1
 | []=>by simp[te]
 |x::r=>by
  rw[te]
  have:=Hb s r
  split
  ·simp only[List.length_cons];omega
  ·split <;> simp only[List.length_cons] <;> omega
theorem KM{n a b:Int}:kj n a b=true↔a≤n∧n≤b:=by
 unfold kj
 simp only[Bool.and_eq_true,decide_eq_true_eq]
theorem nD{n:Nat}{s:se}:xi n s=true↔ry n s.ff=true∧ry n s.lf=true∧(0≤s.lg∧s.lg≤6)∧(0≤s.hd∧s.hd≤6)∧(1≤s.lg+s.hd∧s.lg+s.hd≤6)∧(0≤s.bl∧s.bl≤M5)∧(0≤s.lo∧s.lo≤M5)∧(0≤s.so∧s.so≤M5)∧pQ none s.ty=true:=by
 unfold xi
 simp only[Bool.and_eq_true,KM]
def xV(f:Fl):Prop:=iX f.ty=true∧2880≤f.dp∧f.ar≤52593120∧f.dp<f.ar∧f.ar-f.dp≤1440
theorem abl{asX:List (List Nat)}{f:Fl}(h:IZ asX f=0):xV f:=by
 unfold IZ at h
 split at h
 ·cases h
 split at h
 ·cases h
 split at h
 ·cases h
 split at h
 ·cases h
 split at h
 ·cases h
 split at h
 ·cases h
 rename_i a b c d e g
 have g:qv f=true:=by simpa using g
 unfold qv at g
 simp only[Bool.and_eq_true,decide_eq_true_eq]at g
 exact⟨by simpa using b,g⟩
theorem RE(asX:List (List Nat)): ∀(l:List Fl) (p:Option Fl),E0 asX p l=0→ ∀f∈l,xV f
 | [],_,_,f,hf=>by cases hf
 |g::r,p,h,f,hf=>by
  unfold E0 at h
  by_cases a:IZ asX g=0
  ·rw[if_neg (by simp[a])]at h
   rcases List.mem_cons.1 hf with rfl|hf
   ·exact abl a
   ·have:E0 asX (some g) r=0:=by
     revert h
     cases p <;> simp only <;> split <;> first|exact id|(intro h;cases h)
    exact RE asX r _ this f hf
  ·rw[if_pos a]at h;exact absurd h a
theorem rq(t:Tt)(h:Em t=0):(∀f∈t.fl,xV f)∧t.fl.length≤200:=by
 unfold Em at h
 split at h
 ·cases h
 split at h
 ·cases h
 split at h
 ·cases h
 split at h
 ·rename_i q;exact absurd h q
 split at h
 ·rename_i q;exact absurd h q
 rename_i a b c d e
 exact⟨RE _ _ _ h,by omega⟩
theorem Hc(c:Ct)(h:sO c=0):0≤c.cn∧c.cn≤1440∧c.st≤1440∧(0≤c.rp∧c.rp≤1440)∧(0≤c.rl∧c.rl≤1440):=by
 unfold sO at h
 split at h
 ·rename_i q;exact absurd h q
 rename_i g
 have g:lA c=0:=by omega
 unfold lA at g
 split at g
 ·cases g
 rename_i r
 have r:qu c=true:=by simpa using r
 unfold qu at r
 simp only[Bool.and_eq_true,KM]at r
 omega
theorem RF{c:Ct}{f g:Fl}(hf:xV f)(hg:xV g)(h:Ez c f g=true):f.to=g.fr∧c.cn≤g.dp-f.ar∧g.dp-f.ar≤c.st:=by
 obtain⟨_,f1,f2,f3,f4⟩:=hf
 obtain⟨_,g1,g2,g3,g4⟩:=hg
 unfold Ez at h
 rw[kM (by omega)]at h
 simp only[Bool.and_eq_true,decide_eq_true_eq]at h
 exact h
theorem VK(fl:List Fl)(y8: ∀f∈fl,xV f)(k:Int×Bool)(i:Nat)(hi:i<fl.length)(hk:k.1=i):xi fl.length (kF fl[i] k (pt k))=true∧(kF fl[i] k (pt k)).lg+(kF fl[i] k (pt k)).hd=1∧(kF fl[i] k (pt k)).bl≤1440∧(kF fl[i] k (pt k)).lf=i:=by
 have hf:=y8 _ (List.getElem_mem hi)
 generalize fl[i]=f at*
 obtain⟨f0,f1,f2,f3,f4⟩:=hf
 have Lh:ry fl.length k.1=true:=by unfold ry;exact decide_eq_true (by omega)
 have hn:=Bp f.ty f0 [] none rfl rfl
 rw[nD]
 obtain⟨kf,kh⟩:=k
 unfold kF pt M5
 have z: ∀a b n:Int,a≤n→n≤b→a≤n∧n≤b:=fun _ _ _=>And.intro
 cases kh with
 |true=>exact⟨⟨Lh,Lh,z 0 6 0 (by decide) (by decide),z 0 6 1 (by decide) (by decide),z 1 6 1 (by decide) (by decide),z 0 _ 0 (by decide) (by decide),z 0 _ 0 (by decide) (by decide),z 0 _ 1440 (by decide) (by decide),rfl⟩,rfl,(by show(0:Int)≤1440;decide),hk⟩
 |false=>exact⟨⟨Lh,Lh,z 0 6 1 (by decide) (by decide),z 0 6 0 (by decide) (by decide),z 1 6 1 (by decide) (by decide),(by show 0≤0+(f.ar-f.dp)∧0+(f.ar-f.dp)≤1099511627776;omega),z 0 _ 0 (by decide) (by decide),z 0 _ 1440 (by decide) (by decide),hn⟩,rfl,(by show 0+(f.ar-f.dp)≤1440;omega),hk⟩
theorem VL(c:Ct)(hc:0≤c.cn∧c.st≤1440)(fl:List Fl)(y8: ∀f∈fl,xV f)(k:Int×Bool)(s:se)(i j:Nat)(hi:i<fl.length)(hj:j<fl.length)(hk:k.1=j)(hs:xi fl.length s=true)(tm:Ez c fl[i] fl[j]=true)(h6:s.lg+s.hd<6)(hbl:s.bl≤M5-1440):
  xi fl.length (sU fl[i] fl[j] k s)=true∧(sU fl[i] fl[j] k s).lg+(sU fl[i] fl[j] k s).hd=s.lg+s.hd+1∧(sU fl[i] fl[j] k s).bl≤s.bl+1440∧(sU fl[i] fl[j] k s).lf=j:=by
 have hf:=y8 _ (List.getElem_mem hi)
 have hg:=y8 _ (List.getElem_mem hj)
 have hr:=RF hf hg tm
 generalize fl[i]=f at*
 generalize fl[j]=g at*
 obtain⟨f0,f1,f2,f3,f4⟩:=hf
 obtain⟨g0,g1,g2,g3,g4⟩:=hg
 have Lh:ry fl.length k.1=true:=by unfold ry;exact decide_eq_true (by omega)
 rw[nD]at hs
 obtain⟨a1,a2,a3,a4,a5,a6,a7,a8,a9⟩:=hs
 have hn:=Bp g.ty g0 s.ty none rfl a9
 rw[nD]
 obtain⟨kf,kh⟩:=k
 unfold sU kF
 unfold M5 at*
 have b7:0≤max s.lo (g.dp-f.ar)∧max s.lo (g.dp-f.ar)≤1099511627776:=by omega
 have b8:0≤min s.so (g.dp-f.ar)∧min s.so (g.dp-f.ar)≤1099511627776:=by omega
 cases kh with
 |true=>exact⟨⟨a1,Lh,a3,(by show 0≤s.hd+1∧s.hd+1≤6;omega),(by show 1≤s.lg+(s.hd+1)∧s.lg+(s.hd+1)≤6;omega),a6,b7,b8,a9⟩,(by show s.lg+(s.hd+1)=_;omega),(by show s.bl≤_;omega),hk⟩
 |false=>exact⟨⟨a1,Lh,(by show 0≤s.lg+1∧s.lg+1≤6;omega),a4,(by show 1≤s.lg+1+s.hd∧s.lg+1+s.hd≤6;omega),(by show 0≤s.bl+(g.ar-g.dp)∧s.bl+(g.ar-g.dp)≤1099511627776;omega),b7,b8,hn⟩,(by show s.lg+1+s.hd=_;omega),(by show s.bl+(g.ar-g.dp)≤_;omega),hk⟩
end Go.Proofs.YtblcbheipjeoeaaGreat
namespace Go.Proofs.YtblcbheipjeoeaaGreat
open Go Go.Ev
def sf(l:List (List Nat))(k:Nat):Option (List Nat):=if k=0 then none else l[k-1]?
theorem Dd{l:List (List Nat)}{k:Nat}(h0:0<k)(hk:k-1<l.length):sf l k=some l[k-1]:=by
 unfold sf;rw[if_neg (by omega),List.getElem?_eq_getElem hk]
theorem KN{l:List (List Nat)}{k:Nat}(hk:k<l.length):pQ (sf l k) (l.drop k)=(iX l[k]&&(G9 (sf l k) l[k]&&pQ (sf l (k+1)) (l.drop (k+1)))):=by
 have e:sf l (k+1)=some l[k]:=by unfold sf;rw[if_neg (by omega),Nat.add_sub_cancel,List.getElem?_eq_getElem hk]
 rw[List.drop_eq_getElem_cons hk,e]
 rw[pQ]
theorem u7{L:List (List Nat)}{v:T}(h:fD v L.length (L.map T.s))(k:Nat)(hk:k<L.length): ∃r,∀kk,tf v (.i kk (k:Int)) 1=some (.vp (.s L[k]::r)):=by
 refine⟨(L.map T.s).drop (k+1),fun kk=> ?_⟩
 rw[h.ia (sz:=1) (by simp) hk,Nat.mul_one,List.drop_eq_getElem_cons (by simpa using hk),List.getElem_map]
theorem EA{p:Prop}[Decidable p]{α:Type}{s:α}:(some (T.b (decide p),s):Option (T×α))=if p then some (.b true,s)else some (.b false,s):=by by_cases h:p <;> simp[h]
theorem VM(zT aT fT:T)(rest fc:List T)(n:Nat)(hf:fD fT n fc)(i:Int):fj pE 43 [.vp (zT::aT::fT::rest),.i .i64 i] []=if 0≤i∧i<(n:Int)then some (.b true,[])else some (.b false,[]):=by
 rw[I9 zT aT fT rest fc n hf i,EA]
theorem aiI(l:List (List Nat))(a:T)(ha:fD a l.length (l.map T.s))(hlen:l.length≤1000)(c0:List T)(hc:c0[9]? =some a)(r:Bool)(hr:r=pQ none l)(o:Out)(ho:o=if r=true then .ext 2 else .ret)(fr:Fr)(lh:fC fg)(sh:List fg)
  (h3:an fr 3= .ptr .L 3 1 0) (xe:an fr 73=a) (vI:an fr 74= .i .i64 (l.length:Int)) (Bm:an fr 75= .i .i64 0) (o3:be lh 3=⟨1,.cells c0 0 true⟩):
  DC pE 98 (.loop nW) ⟨fr,lh,sh⟩=some (o,⟨gr pE 98 nW fr lh sh,gp pE 98 nW fr lh sh,gn pE 98 nW fr lh sh⟩)∧((r=false→an (gr pE 98 nW fr lh sh) 4= .b false)∧gn pE 98 nW fr lh sh=sh):=by
 refine fq (P:=fun fR fH fL=>(r=false→an fR 4= .b false)∧fL=sh)
  (fw (fun k st=> ∃(fr:Fr),st=⟨fr,lh,sh⟩∧r=pQ (sf l k) (l.drop k)∧an fr 3= .ptr .L 3 1 0∧an fr 73=a∧an fr 74= .i .i64 (l.length:Int)∧an fr 75= .i .i64 (k:Int)) _ l.length ?_ ?_ 0 _ (Nat.zero_le _) ⟨fr,rfl,hr,h3,xe,vI,Bm⟩)
 ·rintro k _ hk ⟨fr,rfl,hr,h3,xe,vI,Bm⟩
  have fK:(k:Int)<l.length:=by omega
  have hw:=gl (k:=k) (by omega)
  obtain⟨rr,fF⟩:=u7 ha k hk
  rw[KN hk]at hr
  have hn:=tQ l[k]
  have hp:k≠0→ ∃x rr',sf l k=some x∧ ∀kk,tf a (.i kk (((k-1:Nat):Int))) 1=some (.vp (.s x::rr')):=fun h0=>by
   obtain⟨r2,rv⟩:=u7 ha (k-1) (by omega)
   exact⟨_,r2,Dd (by omega) (by omega),rv⟩
  generalize l[k]=y at*
  have bad:r=false→o= .ret:=fun h=>by rw[ho,h];rfl
  cases hv:iX y with
  |false=>
   right
   rw[hv]at hn
   rw[hv,Bool.false_and]at hr
   simp(maxDischargeDepth:=6) only[qA,seval,nW,xe,vI,Bm,fK,fF,hn,qG]
   refine⟨_,_,(by simp:Out.ret≠ .nrm),rfl,(bad hr).symm,fun _=> ?_,rfl⟩
   simp(maxDischargeDepth:=6) only[qA,seval]
  |true=>
   rw[hv]at hn
   rw[hv,Bool.true_and]at hr
   by_cases h0:k=0
   ·left
    have hz: ¬(0:Int)<k:=by omega
    rw[show sf l k=none by rw[h0];rfl]at hr
    rw[show G9 none y=true from rfl,Bool.true_and]at hr
    simp(maxDischargeDepth:=6) only[qA,seval,nW,xe,vI,Bm,fK,hw,fF,hn,qG,hz]
    refine⟨_,rfl,_,rfl,hr, ?_, ?_, ?_, ?_⟩ <;> simp(maxDischargeDepth:=6) only[qA,seval,h3,xe,vI]
   ·have hz:(0:Int)<k:=by omega
    have oR:=uB (k:=k) (by omega) (by omega)
    obtain⟨x,r2,hpx,rv⟩:=hp h0
    rw[hpx,show G9 (some x) y=gS x y from rfl]at hr
    cases hl:gS x y with
    |false=>
     right
     rw[hl,Bool.false_and]at hr
     simp(maxDischargeDepth:=6) only[qA,seval,nW,h3,xe,vI,Bm,o3,hc,fK,oR,fF,rv,hn,qG,hz,xc,hl]
     refine⟨_,_,(by simp:Out.ret≠ .nrm),rfl,(bad hr).symm,fun _=> ?_,rfl⟩
     simp(maxDischargeDepth:=6) only[qA,seval]
    |true=>
     left
     rw[hl,Bool.true_and]at hr
     simp(maxDischargeDepth:=6) only[qA,seval,nW,h3,xe,vI,Bm,o3,hc,fK,hw,oR,fF,rv,hn,qG,hz,xc,hl]
     refine⟨_,rfl,_,rfl,hr, ?_, ?_, ?_, ?_⟩ <;> simp(maxDischargeDepth:=6) only[qA,seval,h3,xe,vI]
 ·rintro _ ⟨fr,rfl,hr,h3,xe,vI,Bm⟩
  rw[List.drop_length,pQ]at hr
  simp(maxDischargeDepth:=6) only[qA,seval,nW,vI,Bm,Int.lt_irrefl]
  exact⟨_,_,(by simp:Out.ext 2≠ .nrm),rfl,by rw[ho,hr];rfl,fun h=>(by rw[hr]at h;cases h),rfl⟩
end Go.Proofs.YtblcbheipjeoeaaGreat
namespace Go.Proofs.YtblcbheipjeoeaaGreat
open Go Go.Ev
theorem VN(zT aT fT:T)(rest fc:List T)(n:Nat)(hf:fD fT n fc)(s:se)(a:T)(ha:mi s a)(hlen:s.ty.length≤1000):fj pE 48 [.vp (zT::aT::fT::rest),.agg (gv s a)] []=some (.b (xi n s),[]):=by
 have hI:=VM zT aT fT rest fc n hf
 have hU: ∀st,DC pE 98 vq st=DC pE 98 vq st:=fun _=>rfl
 conv at hU=>enter [st,2];unfold vq
 have hL:=fun fr lh sh h3 xe vI Bm o3=>aiI s.ty a ha hlen (gv s a) rfl _ rfl _ rfl fr lh sh h3 xe vI Bm o3
 have AA:froz a=true:=ha.froz
 rw[fx afD (by simp[c48])]
 unfold xi kj ry M5
 unfold gv at hL ⊢
 have hw:0≤s.lg∧s.lg≤6∧0≤s.hd∧s.hd≤6→wr .i64 (s.lg+s.hd)=s.lg+s.hd:=fun h=>kM (by omega)
 cases hb:pQ none s.ty <;> rw[hb]at hL
 ·simp(maxDischargeDepth:=6) only[qB,seval,iZ,repl,c48,hI,DE,AT vq,hU,hL,ha.lenI]
 ·simp(maxDischargeDepth:=6) only[qB,seval,iZ,repl,c48,hI,DE,AT vq,hU,hL,ha.lenI]
  clear hI hU hL
  generalize wr .i64 (s.lg+s.hd)=w at hw ⊢
  repeat' (refine ifl (fun _=> ?_) (fun _=> ?_))
  all_goals refine congrArg (fun b=>some (T.b b,[])) ?_
  all_goals symm
  all_goals simp only[Bool.and_eq_true,Bool.and_eq_false_iff,decide_eq_true_eq,decide_eq_false_iff_not]
  all_goals omega
end Go.Proofs.YtblcbheipjeoeaaGreat
namespace Go.Proofs.YtblcbheipjeoeaaGreat
open Go Go.Ev
theorem VO(i:Int):fj pE 96 [.i .i64 i] []=if 0≤i∧i≤1099511627776 then some (.b true,[])else some (.b false,[]):=by
 rw[fx afT (by simp[c96])]
 simp(maxDischargeDepth:=6) only[qB,seval,c96]
 repeat' (refine ifl (fun _=> ?_) (fun _=> ?_))
 ·rw[if_pos (by omega)]
 ·rw[if_neg (by omega)]
 ·rw[if_neg (by omega)]
theorem EB(zT aT fT:T)(fc:List T)(n:Nat)(hf:fD fT n fc)(i:Int):fj pE 46 [.agg [zT,aT,fT],.i .i64 i] []=if 0≤i∧i<(n:Int)then some (.b true,[])else some (.b false,[]):=by
 rw[fx afA (by simp[c46])]
 simp(maxDischargeDepth:=6) only[qB,seval,c46,hf.lenI]
 repeat' (refine ifl (fun _=> ?_) (fun _=> ?_))
 ·rw[if_pos (by omega)]
 ·rw[if_neg (by omega)]
 ·rw[if_neg (by omega)]
theorem aiJ(l:List (List Nat))(a:T)(ha:fD a l.length (l.map T.s))(hlen:l.length≤1000)(c0:List T)(hc:c0[9]? =some a)(r:Bool)(hr:r=pQ none l)(o:Out)(ho:o=if r=true then .ext 0 else .ret)(fr:Fr)(lh:fC fg)(sh:List fg)
  (h3:an fr 3= .ptr .L 3 1 0) (h5:an fr 5= .i .i64 0) (o3:be lh 3=⟨1,.cells c0 0 true⟩):
  DC pE 106 (.loop pY) ⟨fr,lh,sh⟩=some (o,⟨gr pE 106 pY fr lh sh,gp pE 106 pY fr lh sh,gn pE 106 pY fr lh sh⟩)∧((r=false→an (gr pE 106 pY fr lh sh) 4= .b false)∧gn pE 106 pY fr lh sh=sh):=by
 refine oD (fun k st=> ∃(fr:Fr),st=⟨fr,lh,sh⟩∧r=pQ (sf l k) (l.drop k)∧an fr 3= .ptr .L 3 1 0∧an fr 5= .i .i64 (k:Int)) (fun fR fH fL=>(r=false→an fR 4= .b false)∧fL=sh) o l.length ?_ ?_ fr lh sh ⟨fr,rfl,hr,h3,h5⟩
 ·rintro k _ hk ⟨fr,rfl,hr,h3,h5⟩
  have fK:(k:Int)<l.length:=by omega
  have hw:=gl (k:=k) (by omega)
  obtain⟨rr,fF⟩:=u7 ha k hk
  rw[KN hk]at hr
  have hn:=tP l[k]
  have hp:(0:Int)<k→ ∃x rr',sf l k=some x∧ ∀kk,tf a (.i kk (((k-1:Nat):Int))) 1=some (.vp (.s x::rr')):=fun h0=>by
   obtain⟨r2,rv⟩:=u7 ha (k-1) (by omega)
   exact⟨_,r2,Dd (by omega) (by omega),rv⟩
  generalize l[k]=y at*
  by_cases h0:(0:Int)<k
  ·have oR:=uB (k:=k) (by omega) (by omega)
   obtain⟨x,r2,hpx,rv⟩:=hp h0
   rw[hpx,show G9 (some x) y=gS x y from rfl]at hr
   cases hv:iX y <;> cases hl:gS x y <;> rw[hv]at hn <;> rw[hv,hl]at hr <;> simp only[Bool.true_and,Bool.false_and]at hr
   all_goals simp(maxDischargeDepth:=6) only[qA,seval,gW,fU,pY,h3,h5,o3,hc,ha.lenI,fK,hw,oR,fF,rv,hn,qc,afV,h0,xc,hl]
   all_goals first
    |exact xR ⟨by rw[ho,hr];rfl,fun _=>(by simp(maxDischargeDepth:=6) only[qA,seval]),rfl⟩
    |exact qq ⟨_,rfl,hr,by simp(maxDischargeDepth:=6) only[qA,seval,h3],by simp(maxDischargeDepth:=6) only[qA,seval]⟩
  ·rw[show sf l k=none by rw[show k=0 by omega];rfl,show G9 none y=true from rfl]at hr
   cases hv:iX y <;> rw[hv]at hn <;> rw[hv]at hr <;> simp only[Bool.true_and,Bool.false_and]at hr
   all_goals simp(maxDischargeDepth:=6) only[qA,seval,gW,pY,h3,h5,o3,hc,ha.lenI,fK,hw,fF,hn,qc,afV,h0]
   all_goals first
    |exact xR ⟨by rw[ho,hr];rfl,fun _=>(by simp(maxDischargeDepth:=6) only[qA,seval]),rfl⟩
    |exact qq ⟨_,rfl,hr,by simp(maxDischargeDepth:=6) only[qA,seval,h3],by simp(maxDischargeDepth:=6) only[qA,seval]⟩
 ·rintro _ ⟨fr,rfl,hr,h3,h5⟩
  rw[List.drop_length,pQ]at hr
  simp(maxDischargeDepth:=6) only[qA,seval,pY,h3,h5,o3,hc,ha.lenI,Int.lt_irrefl]
  exact po ⟨by rw[ho,hr];rfl,fun h=>(by rw[hr]at h;cases h),rfl⟩
theorem VP(zT aT fT:T)(fc:List T)(n:Nat)(hz:froz1 zT=true)(S0:froz1 aT=true)(hf:fD fT n fc)(s:se)(a:T)(ha:mi s a)(hlen:s.ty.length≤1000):fj pE 51 [.agg [zT,aT,fT],.agg (gv s a)] []=some (.b (xi n s),[]):=by
 have hI:=EB zT aT fT fc n hf
 have hS:=VO
 have hL:=fun fr lh sh h3 h5 o3=>aiJ s.ty a ha hlen (gv s a) rfl _ rfl _ rfl fr lh sh h3 h5 o3
 have AA:froz a=true:=ha.froz
 have AX:=hf.froz1
 rw[fx afG (by simp[c51])]
 unfold xi kj ry M5
 unfold gv at hL ⊢
 have hw:0≤s.lg∧s.lg≤6∧0≤s.hd∧s.hd≤6→wr .i64 (s.lg+s.hd)=s.lg+s.hd:=fun h=>kM (by omega)
 cases hb:pQ none s.ty <;> rw[hb]at hL
 ·simp(maxDischargeDepth:=6) only[qB,seval,c51,hI,hS,Fq,afU,hL,hz,S0,AX]
 ·simp(maxDischargeDepth:=6) only[qB,seval,c51,hI,hS,Fq,afU,hL,hz,S0,AX]
  clear hI hL hS
  generalize wr .i64 (s.lg+s.hd)=w at hw ⊢
  repeat' (refine ifl (fun _=> ?_) (fun _=> ?_))
  all_goals refine congrArg (fun b=>some (T.b b,[])) ?_
  all_goals symm
  all_goals simp only[Bool.and_eq_true,Bool.and_eq_false_iff,decide_eq_true_eq,decide_eq_false_iff_not]
  all_goals omega
end Go.Proofs.YtblcbheipjeoeaaGreat
namespace Go.Proofs.YtblcbheipjeoeaaGreat
open Go Go.Ev
theorem itI{p:Prop}[Decidable p]{α:Type}{k:IntKind}{a b:Int}{s:α}:(if p then some (T.i k a,s)else some (T.i k b,s))=some (T.i k (if p then a else b),s):=by split <;> rfl
def VQ(k:Int×Bool)(c:List T):Prop:=c= [.i .i64 k.1,.b k.2]
theorem VQ.len(k:Int×Bool)(c:List T)(h:VQ k c):c.length=2:=by rw[h];rfl
def Hd(d:List (Int×Bool))(v:T):Prop:= ∃cc,fD v d.length cc∧fy VQ d cc
theorem u9{d:List (Int×Bool)}{v:T}(h:Hd d v)(i:Nat)(hi:i<d.length): ∃r,∀kk,tf v (.i kk (i:Int)) 2=some (.vp (.i .i64 d[i].1:: .b d[i].2::r)):=by
 obtain⟨cc,h1,h2⟩:=h
 obtain⟨c,r,e,h⟩:=pN (k:=2) VQ.len h1 h2 i hi
 rw[VQ]at h
 subst h
 exact⟨r,e⟩
def tY(c:Ct)(fl:List Fl)(i j:Int):Bool:=match fl[i.toNat]?,fl[j.toNat]? with
 |some f,some g=>Ez c f g
 |_,_=>false
theorem Bq(c:Ct)(fl:List Fl){i j:Nat}(hi:i<fl.length)(hj:j<fl.length):tY c fl i j=Ez c fl[i] fl[j]:=by
 unfold tY
 rw[Int.toNat_natCast,Int.toNat_natCast,List.getElem?_eq_getElem hi,List.getElem?_eq_getElem hj]
theorem lV{n:Nat}{i:Int}(h:ry n i=true): ∃k:Nat,k<n∧i=k:=by
 unfold ry at h
 rw[decide_eq_true_eq]at h
 exact⟨i.toNat,by omega,by omega⟩
def EC(c:Ct)(fl:List Fl):List (Int×Bool)→Bool
 |k::l::r=>tY c fl k.1 l.1&&EC c fl (l::r)
 |_=>true
def xW(c:Ct)(fl:List Fl)(d:List (Int×Bool)):Int:=
 if(d.length:Int)<1 then 5 else if(6:Int)<d.length then 5 else if d.all (fun k=>ry fl.length k.1)=true then(if EC c fl d=true then 0 else 14)else 6
theorem xX(c:Ct)(fl:List Fl){d:List (Int×Bool)}{k:Nat}(hk:k+1<d.length):EC c fl (d.drop k)=(tY c fl d[k].1 d[k+1].1&&EC c fl (d.drop (k+1))):=by
 rw[List.drop_eq_getElem_cons (by omega:k<d.length),List.drop_eq_getElem_cons hk,EC]
theorem KO(c:Ct)(fl:List Fl){d:List (Int×Bool)}{k:Nat}(hk:k+1=d.length):EC c fl (d.drop k)=true:=by
 rw[List.drop_eq_getElem_cons (by omega:k<d.length),List.drop_eq_nil_of_le (by omega),EC]
 simp
theorem RG{α:Type}{p:α→Bool}{d:List α}{k:Nat}(hk:k<d.length):(d.drop k).all p=(p d[k]&&(d.drop (k+1)).all p):=by
 rw[List.drop_eq_getElem_cons hk,List.all_cons]
def sI(c:Ct)(zT aT fT a7 a8 a9 a10 fB fA:T)(vs:List T):T:= .vp (zT::aT::fT::(fX c a7 a8 a9 a10 fB fA++vs))
section
variable(t:Tt)(c:Ct)(zT aT fT a7 a8 a9 a10 fB fA:T)(vs:List T)(hT:uC t zT aT fT)
theorem He(hT:uC t zT aT fT){i j:Int}(hi:ry t.fl.length i=true)(hj:ry t.fl.length j=true):fj pE 49 [sI c zT aT fT a7 a8 a9 a10 fB fA vs,.i .i64 i,.i .i64 j] []=some (.b (tY c t.fl i j),[]):=by
 obtain⟨i,qi,rfl⟩:=lV hi
 obtain⟨j,qj,rfl⟩:=lV hj
 obtain⟨fc,f1,f2⟩:=hT.f
 rw[Bq c t.fl qi qj]
 exact abk zT aT fT a7 a8 a9 a10 fB fA c vs fc t.fl f1 f2 i j qi qj
theorem an8(hT:uC t zT aT fT)(d:List (Int×Bool))(dT:T)(hd:Hd d dT)(hlen:d.length≤1000)(r:Bool)(hr:r=d.all fun k=>ry t.fl.length k.1)(o:Out)(ho:o=if r=true then .ext 0 else .ret)(fr:Fr)(lh:fC fg)(sh:List fg)
  (h0:an fr 0=sI c zT aT fT a7 a8 a9 a10 fB fA vs) (Ja:an fr 16=dT) (Hf:an fr 17= .i .i64 (d.length:Int)) (oT:an fr 18= .i .i64 0):
  DC pE 48 (.loop rf) ⟨fr,lh,sh⟩=some (o,⟨gr pE 48 rf fr lh sh,gp pE 48 rf fr lh sh,gn pE 48 rf fr lh sh⟩)∧((r=false→an (gr pE 48 rf fr lh sh) 4= .i .i64 6)∧gn pE 48 rf fr lh sh=sh):=by
 refine oD (fun k st=> ∃(fr:Fr) (lh:fC fg),st=⟨fr,lh,sh⟩∧r=((d.drop k).all fun k=>ry t.fl.length k.1)∧an fr 0=sI c zT aT fT a7 a8 a9 a10 fB fA vs∧an fr 16=dT∧an fr 17= .i .i64 (d.length:Int)∧an fr 18= .i .i64 (k:Int)) (fun fR fH fL=>(r=false→an fR 4= .i .i64 6)∧fL=sh) o d.length ?_ ?_ fr lh sh ⟨fr,lh,rfl,hr,h0,Ja,Hf,oT⟩
 ·rintro k _ hk ⟨fr,lh,rfl,hr,h0,Ja,Hf,oT⟩
  have fK:(k:Int)<d.length:=by omega
  have hw:=gl (k:=k) (by omega)
  obtain⟨rr,fF⟩:=u9 hd k hk
  rw[RG hk]at hr
  obtain⟨fc,f1,f2⟩:=hT.f
  have hn:=I9 zT aT fT (fX c a7 a8 a9 a10 fB fA++vs) fc t.fl.length f1 d[k].1
  rw[show decide (0≤d[k].1∧d[k].1<(t.fl.length:Int))=ry t.fl.length d[k].1 from rfl]at hn
  unfold sI at*
  generalize d[k]=y at*
  cases hv:ry t.fl.length y.1 <;> rw[hv]at hn hr <;> simp only[Bool.true_and,Bool.false_and]at hr
  all_goals simp(maxDischargeDepth:=6) only[qA,seval,rf,h0,Ja,Hf,oT,fK,hw,fF,hn,DE]
  all_goals first
   |exact xR ⟨by rw[ho,hr];rfl,fun _=>(by simp(maxDischargeDepth:=6) only[qA,seval]),rfl⟩
   |exact qq ⟨_,_,rfl,hr,by simp(maxDischargeDepth:=6) only[qA,seval,h0],by simp(maxDischargeDepth:=6) only[qA,seval,Ja],by simp(maxDischargeDepth:=6) only[qA,seval,Hf],by simp(maxDischargeDepth:=6) only[qA,seval]⟩
 ·rintro _ ⟨fr,lh,rfl,hr,h0,Ja,Hf,oT⟩
  rw[List.drop_length]at hr
  simp(maxDischargeDepth:=6) only[qA,seval,rf,Hf,oT,Int.lt_irrefl]
  exact po ⟨by rw[ho,hr];rfl,fun h=>(by rw[hr]at h;cases h),rfl⟩
theorem an9(hT:uC t zT aT fT)(d:List (Int×Bool))(dT:T)(hd:Hd d dT)(h1:1≤d.length)(hlen:d.length≤1000)(gz: ∀k∈d,ry t.fl.length k.1=true)(r:Bool)(hr:r=EC c t.fl d)(o:Out)(ho:o=if r=true then .ext 2 else .ret)(fr:Fr)(lh:fC fg)(sh:List fg)
  (h0:an fr 0=sI c zT aT fT a7 a8 a9 a10 fB fA vs) (h1:an fr 1=dT) (h7:an fr 7= .i .i64 1):
  DC pE 48 (.loop re) ⟨fr,lh,sh⟩=some (o,⟨gr pE 48 re fr lh sh,gp pE 48 re fr lh sh,gn pE 48 re fr lh sh⟩)∧((r=false→an (gr pE 48 re fr lh sh) 4= .i .i64 14)∧gn pE 48 re fr lh sh=sh):=by
 refine oD (fun k st=> ∃(fr:Fr),st=⟨fr,lh,sh⟩∧r=EC c t.fl (d.drop k)∧an fr 0=sI c zT aT fT a7 a8 a9 a10 fB fA vs∧an fr 1=dT∧an fr 7= .i .i64 ((k+1:Nat):Int)) (fun fR fH fL=>(r=false→an fR 4= .i .i64 14)∧fL=sh) o (d.length-1) ?_ ?_ fr lh sh ⟨fr,rfl,hr,h0,h1,h7⟩
 ·rintro k _ hk ⟨fr,rfl,hr,h0,h1,h7⟩
  have fK:((k+1:Nat):Int)<d.length:=by omega
  have hw:=gl (k:=k+1) (by omega)
  have oR:wr .i64 (((k+1:Nat):Int)-1)=(k:Int):=by rw[kM (by omega)];omega
  obtain⟨rr,fF⟩:=u9 hd k (by omega)
  obtain⟨r2,rv⟩:=u9 hd (k+1) (by omega)
  rw[xX c t.fl (by omega:k+1<d.length)]at hr
  have hn:=He t c zT aT fT a7 a8 a9 a10 fB fA vs hT (gz _ (List.getElem_mem (by omega:k<d.length))) (gz _ (List.getElem_mem (by omega:k+1<d.length)))
  unfold sI at*
  generalize d[k]=x at*
  generalize d[k+1]=y at*
  cases hv:tY c t.fl x.1 y.1 <;> rw[hv]at hn hr <;> simp only[Bool.true_and,Bool.false_and]at hr
  all_goals simp(maxDischargeDepth:=6) only[qA,seval,gW,fU,re,h0,h1,h7,hd.choose_spec.1.lenI,fK,hw,oR,fF,rv,hn,Th,alW]
  all_goals first
   |exact xR ⟨by rw[ho,hr];rfl,fun _=>(by simp(maxDischargeDepth:=6) only[qA,seval]),rfl⟩
   |exact qq ⟨_,rfl,hr,by simp(maxDischargeDepth:=6) only[qA,seval,h0],by simp(maxDischargeDepth:=6) only[qA,seval,h1],by simp(maxDischargeDepth:=6) only[qA,seval]⟩
 ·rintro _ ⟨fr,rfl,hr,h0,h1,h7⟩
  rw[KO c t.fl (by omega)]at hr
  have fK: ¬((d.length-1+1:Nat):Int)<d.length:=by omega
  simp(maxDischargeDepth:=6) only[qA,seval,re,h1,h7,hd.choose_spec.1.lenI,fK]
  exact po ⟨by rw[ho,hr];rfl,fun h=>(by rw[hr]at h;cases h),rfl⟩
theorem abm(hT:uC t zT aT fT)(d:List (Int×Bool))(dT:T)(hd:Hd d dT)(hlen:d.length≤1000):fj pE 53 [sI c zT aT fT a7 a8 a9 a10 fB fA vs,dT] []=some (.i .i64 (xW c t.fl d),[]):=by
 have VR:=fun fr lh sh h0 Ja Hf oT=>an8 t c zT aT fT a7 a8 a9 a10 fB fA vs hT d dT hd hlen _ rfl _ rfl fr lh sh h0 Ja Hf oT
 have tU:=hd.choose_spec.1.lenI
 rw[fx afH (by simp[Y6])]
 unfold xW
 cases hb:d.all fun k=>ry t.fl.length k.1 <;> rw[hb]at VR
 ·simp(maxDischargeDepth:=6) only[qB,seval,Y6,VR,tU,itI]
 ·by_cases h1:1≤d.length
  ·have HI:=fun fr lh sh h0 pJ h7=>an9 t c zT aT fT a7 a8 a9 a10 fB fA vs hT d dT hd h1 hlen (List.all_eq_true.1 hb) _ rfl _ rfl fr lh sh h0 pJ h7
   cases hc:EC c t.fl d <;> rw[hc]at HI
   all_goals simp(maxDischargeDepth:=6) only[qB,seval,Y6,NP,HI,VR,tU,itI]
  ·have pJ:(d.length:Int)<1:=by omega
   simp(maxDischargeDepth:=6) only[qB,seval,Y6,tU,pJ]
end
end Go.Proofs.YtblcbheipjeoeaaGreat
