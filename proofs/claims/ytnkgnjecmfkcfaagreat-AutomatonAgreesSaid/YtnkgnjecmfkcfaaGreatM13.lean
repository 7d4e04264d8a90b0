/- Walks of functions of the program and of the reference, and their plain laws, part 13. Conditions: the theorems' own. -/
import Derived.Test.YtnkgnjecmfkcfaaGreatGS
import Derived.Test.YtnkgnjecmfkcfaaGreatM4
import Derived.Test.YtnkgnjecmfkcfaaGreatM5
import Derived.Test.YtnkgnjecmfkcfaaGreatM10
import Derived.Test.YtnkgnjecmfkcfaaGreatM12
import Derived.KernelRfl
set_option maxRecDepth 100000
set_option linter.unusedSimpArgs false
set_option linter.unusedVariables false
set_option maxHeartbeats 16000000
namespace Go.Proofs.YtnkgnjecmfkcfaaGreat
open Go Go.Ev
theorem Yv(zT aT fT:T)(r D:List T)(n:Nat)(hf:IsSl fT n D)(i:Int):ae pE 69 [.vp (zT::aT::fT::r),.i .i64 i] []=some (.b (decide (0≤i∧i<(n:Int))),[]):=by
 rw[au asV (by simp[c69])]
 by_cases h0:0≤i
 ·by_cases h1:i<(n:Int)
  ·simp only[qA,seval,c69,hf.lenI,h0,h1]
   try simp[h0,h1]
  ·simp only[qA,seval,c69,hf.lenI,h0,h1]
   try simp[h0,h1]
 ·simp only[qA,seval,c69,h0]
  try simp[h0]
theorem L9(zT aT fT:T)(D H:List T)(l:List Fl)(hf:IsSl fT l.length H)(hr:aB SM l H)(k:Nat)(hk:k<l.length): ∃r,ae pE 77 [.vp (zT::aT::fT::D),.i .i64 (k:Int)] []=some (.vp (.s l[k].nu:: .s l[k].fr:: .s l[k].to:: .i .i64 l[k].dp:: .i .i64 l[k].ar:: .s l[k].ty:: .i .i64 l[k].n0:: .i .i64 l[k].n1:: .i .i64 l[k].n2::r),[]):=by
 obtain⟨r,F⟩:=mI hf hr k hk
 refine⟨r, ?_⟩
 rw[au ajE (by simp[c77])]
 simp only[qA,seval,c77,F]
def yI(c:Ct)(f g:Fl):Bool:=decide (f.to=g.fr)&&(decide (c.cn≤wr .i64 (g.dp-f.ar))&&decide (wr .i64 (g.dp-f.ar)≤c.st))
theorem alS(zT aT fT a7 a8 a9 aw aA az:T)(c:Ct)(vs D:List T)(l:List Fl)(hf:IsSl fT l.length D)(hr:aB SM l D)(i j:Nat)(hi:i<l.length)(F:j<l.length):ae pE 75 [.vp (zT::aT::fT::(aY c a7 a8 a9 aw aA az++vs)),.i .i64 (i:Int),.i .i64 (j:Int)] []=some (.b (yI c l[i] l[j]),[]):=by
 obtain⟨r,h1⟩:=L9 zT aT fT (aY c a7 a8 a9 aw aA az++vs) D l hf hr i hi
 obtain⟨H,h2⟩:=L9 zT aT fT (aY c a7 a8 a9 aw aA az++vs) D l hf hr j F
 rw[au ajD (by simp[c75])]
 generalize l[i]=f at*
 generalize l[j]=g at*
 unfold aY at h1 h2 ⊢
 simp only[List.cons_append,List.nil_append]at h1 h2 ⊢
 unfold yI
 by_cases e:f.to=g.fr
 ·by_cases e2:c.cn≤wr .i64 (g.dp-f.ar)
  ·simp only[qA,seval,c75,h1,h2,EN,e,e2]
   try simp[e,e2]
  ·simp only[qA,seval,c75,h1,h2,EN,e,e2]
   try simp[e,e2]
 ·simp only[qA,seval,c75,h1,h2,EN,e]
  try simp[e]
structure wk where
 ff:Int
 fh:Bool
 lf:Int
 lh:Bool
 lg:Int
 hd:Int
 bl:Int
 lo:Int
 so:Int
 ty:List (List Nat)
def pW(s:wk)(a:T):List T:= [.i .i64 s.ff,.b s.fh,.i .i64 s.lf,.b s.lh,.i .i64 s.lg,.i .i64 s.hd,.i .i64 s.bl,.i .i64 s.lo,.i .i64 s.so,a]
def aDz(s:wk)(a:T):Prop:=IsSl a s.ty.length (s.ty.map T.s)
def lj(n:Nat)(i:Int):Bool:=decide (0≤i∧i<(n:Int))
def SS:Int:=1099511627776
def Rx(p:Option (List Nat))(x:List Nat):Bool:=match p with|some q=>lessN q x|none=>true
def m9:Option (List Nat)→List (List Nat)→Bool
 |_,[]=>true
 |p,x::r=>ji x&&(Rx p x&&m9 (some x) r)
def Jr(n:Nat)(s:wk):Bool:=lj n s.ff&&(lj n s.lf&&(ki s.lg 0 6&&(ki s.hd 0 6&&(ki (s.lg+s.hd) 1 6&&(ki s.bl 0 SS&&(ki s.lo 0 SS&&(ki s.so 0 SS&&m9 none s.ty)))))))
def ll(f:Fl)(k:Int×Bool)(s:wk):wk:=
 if k.2 then{s with lf:=k.1,lh:=true,hd:=s.hd+1}else{s with lf:=k.1,lh:=false,lg:=s.lg+1,bl:=s.bl+(f.ar-f.dp),ty:=insS f.ty s.ty}
def se(k:Int×Bool):wk:=⟨k.1,k.2,0,false,0,0,0,0,1440,[]⟩
def tu(f g:Fl)(k:Int×Bool)(s:wk):wk:=ll g k {s with lo:=max s.lo (g.dp-f.ar),so:=min s.so (g.dp-f.ar)}
theorem Js: ∀(l:List (List Nat)) (p:Option (List Nat)),m9 p l=true→ascN l=true
 | [],_,_=>rfl
 | [x],_,_=>rfl
 |x::y::r,p,h=>by
  rw[m9]at h
  simp only[Bool.and_eq_true]at h
  have h2:=h.2.2
  have ih:=Js (y::r) (some x) h2
  rw[m9]at h2
  simp only[Bool.and_eq_true]at h2
  have h3:lessN x y=true:=h2.2.1
  grind [ascN]
theorem BF(s:List Nat)(hs:ji s=true): ∀(l:List (List Nat)) (p:Option (List Nat)),Rx p s=true→m9 p l=true→m9 p (insS s l)=true
 | [],p,hp,_=>by
   rw[insS,m9,hs,hp];rfl
 |x::r,p,hp,h=>by
  have D:=h
  rw[m9]at h
  simp only[Bool.and_eq_true]at h
  rw[insS]
  by_cases h1:lessN x s=true
  ·rw[if_pos h1,m9,h.1,BF s hs r (some x) h1 h.2.2]
   rw[h.2.1];rfl
  ·rw[if_neg h1]
   by_cases h2:x=s
   ·rw[if_pos h2];exact D
   ·rw[if_neg h2]
    have h3:lessN s x=true:=by
     cases hc:lessN s x with
     |true=>rfl
     |false=>exact absurd (vw x s (by simpa using h1) hc) h2
    rw[m9,hs,m9,h.1,h.2.2,hp,Rx,h3];rfl
theorem Jt(s:List Nat): ∀l,(insS s l).length≤l.length+1
 | []=>by simp[insS]
 |x::r=>by
  rw[insS]
  have:=Jt s r
  grind
theorem FY{n a b:Int}:ki n a b=true↔a≤n∧n≤b:=by
 grind [ki]
theorem qJ{n:Nat}{s:wk}:Jr n s=true↔lj n s.ff=true∧lj n s.lf=true∧(0≤s.lg∧s.lg≤6)∧(0≤s.hd∧s.hd≤6)∧(1≤s.lg+s.hd∧s.lg+s.hd≤6)∧(0≤s.bl∧s.bl≤SS)∧(0≤s.lo∧s.lo≤SS)∧(0≤s.so∧s.so≤SS)∧m9 none s.ty=true:=by
 unfold Jr
 simp only[Bool.and_eq_true,FY]
def nW(f:Fl):Prop:=ji f.ty=true∧2880≤f.dp∧f.ar≤52593120∧f.dp<f.ar∧f.ar-f.dp≤1440
theorem alT{r:List (List Nat)}{f:Fl}(h:CV r f=0):nW f:=by
 unfold CV at h
 split at h
 ·cases h
 split at h
 ·cases h
 split at h
 ·cases h
 split at h
 ·cases h
 split at h
 ·cases h
 split at h
 ·cases h
 rename_i a b c d e g
 have g:Jd f=true:=by simpa using g
 unfold Jd at g
 simp only[Bool.and_eq_true,decide_eq_true_eq]at g
 exact⟨by simpa using b,g⟩
theorem Yw(D:List (List Nat)): ∀(l:List Fl) (p:Option Fl),Cj D p l=0→ ∀f∈l,nW f
 | [],_,_,f,hf=>by cases hf
 |g::r,p,h,f,hf=>by
  unfold Cj at h
  by_cases a:CV D g=0
  ·rw[if_neg (by simp[a])]at h
   rcases List.mem_cons.1 hf with rfl|hf
   ·exact alT a
   ·have:Cj D (some g) r=0:=by
     grind
    exact Yw D r _ this f hf
  ·grind
theorem eP(t:Tt)(h:nR t=0):(∀f∈t.fl,nW f)∧t.fl.length≤200:=by
 unfold nR at h
 split at h
 ·cases h
 split at h
 ·cases h
 split at h
 ·cases h
 split at h
 ·grind
 split at h
 ·rename_i q;exact absurd h q
 rename_i a b c d e
 exact⟨Yw _ _ _ h,by omega⟩
theorem BG(c:Ct)(h:fi c=0):0≤c.cn∧c.cn≤1440∧c.st≤1440∧(0≤c.rp∧c.rp≤1440)∧(0≤c.rl∧c.rl≤1440):=by
 unfold fi at h
 split at h
 ·grind
 rename_i g
 have g:fY c=0:=yv
 unfold fY at g
 split at g
 ·cases g
 simp_all[kz,Bool.and_eq_true,FY]
theorem Yx{c:Ct}{f g:Fl}(hf:nW f)(r:nW g)(h:yI c f g=true):f.to=g.fr∧c.cn≤g.dp-f.ar∧g.dp-f.ar≤c.st:=by
 obtain⟨_,D,F,H,I⟩:=hf
 obtain⟨_,J,K,N,O⟩:=r
 unfold yI at h
 rw[bj yv]at h
 grind
theorem ad6(r:List Fl)(F: ∀f∈r,nW f)(k:Int×Bool)(i:Nat)(hi:i<r.length)(hk:k.1=i):Jr r.length (ll r[i] k (se k))=true∧(ll r[i] k (se k)).lg+(ll r[i] k (se k)).hd=1∧(ll r[i] k (se k)).bl≤1440∧(ll r[i] k (se k)).lf=i:=by
 have hf:=F _ (List.getElem_mem hi)
 generalize r[i]=f at*
 obtain⟨H,K,N,O,U⟩:=hf
 have D:lj r.length k.1=true:=by unfold lj;exact decide_eq_true yv
 have I:=BF f.ty H [] none rfl rfl
 rw[qJ]
 obtain⟨V,J⟩:=k
 unfold ll se SS
 have z: ∀a b n:Int,a≤n→n≤b→a≤n∧n≤b:=fun _ _ _=>And.intro
 cases J with
 |true=>exact⟨⟨D,D,z 0 6 0 xW xW,z 0 6 1 xW xW,z 1 6 1 xW xW,z 0 _ 0 xW xW,z 0 _ 0 xW xW,z 0 _ 1440 xW xW,rfl⟩,rfl,(by show(0:Int)≤1440;decide),hk⟩
 |false=>exact⟨⟨D,D,z 0 6 1 xW xW,z 0 6 0 xW xW,z 1 6 1 xW xW,(by show 0≤0+(f.ar-f.dp)∧0+(f.ar-f.dp)≤1099511627776;omega),z 0 _ 0 xW xW,z 0 _ 1440 xW xW,I⟩,rfl,(by show 0+(f.ar-f.dp)≤1440;omega),hk⟩
theorem ad7(c:Ct)(hc:0≤c.cn∧c.st≤1440)(r:List Fl)(F: ∀f∈r,nW f)(k:Int×Bool)(s:wk)(i j:Nat)(hi:i<r.length)(K:j<r.length)(hk:k.1=j)(hs:Jr r.length s=true)(N:yI c r[i] r[j]=true)(h6:s.lg+s.hd<6)(O:s.bl≤SS-1440):
  Jr r.length (tu r[i] r[j] k s)=true∧(tu r[i] r[j] k s).lg+(tu r[i] r[j] k s).hd=s.lg+s.hd+1∧(tu r[i] r[j] k s).bl≤s.bl+1440∧(tu r[i] r[j] k s).lf=j:=by
 have hf:=F _ (List.getElem_mem hi)
 have H:=F _ (List.getElem_mem K)
 have hr:=Yx hf H N
 generalize r[i]=f at*
 generalize r[j]=g at*
 obtain⟨f0,f1,f2,f3,f4⟩:=hf
 obtain⟨U,g1,g2,g3,g4⟩:=H
 have D:lj r.length k.1=true:=by unfold lj;exact decide_eq_true yv
 rw[qJ]at hs
 obtain⟨a1,a2,V,W,a5,X,a7,a8,a9⟩:=hs
 have Y:=BF g.ty U s.ty none rfl a9
 rw[qJ]
 obtain⟨kf,Z⟩:=k
 unfold tu ll
 unfold SS at*
 have I:0≤max s.lo (g.dp-f.ar)∧max s.lo (g.dp-f.ar)≤1099511627776:=yv
 have J:0≤min s.so (g.dp-f.ar)∧min s.so (g.dp-f.ar)≤1099511627776:=yv
 cases Z with
 |true=>exact⟨⟨a1,D,V,(by show 0≤s.hd+1∧s.hd+1≤6;omega),(by show 1≤s.lg+(s.hd+1)∧s.lg+(s.hd+1)≤6;omega),X,I,J,a9⟩,(by show s.lg+(s.hd+1)=_;omega),(by show s.bl≤_;omega),hk⟩
 |false=>exact⟨⟨a1,D,(by show 0≤s.lg+1∧s.lg+1≤6;omega),W,(by show 1≤s.lg+1+s.hd∧s.lg+1+s.hd≤6;omega),(by show 0≤s.bl+(g.ar-g.dp)∧s.bl+(g.ar-g.dp)≤1099511627776;omega),I,J,Y⟩,(by show s.lg+1+s.hd=_;omega),(by show s.bl+(g.ar-g.dp)≤_;omega),hk⟩
def vI(l:List (List Nat))(k:Nat):Option (List Nat):=if k=0 then none else l[k-1]?
theorem Ry{l:List (List Nat)}{k:Nat}(h0:0<k)(hk:k-1<l.length):vI l k=some l[k-1]:=by
 unfold vI;rw[if_neg yv,List.getElem?_eq_getElem hk]
theorem ad8{l:List (List Nat)}{k:Nat}(hk:k<l.length):m9 (vI l k) (l.drop k)=(ji l[k]&&(Rx (vI l k) l[k]&&m9 (vI l (k+1)) (l.drop (k+1)))):=by
 have e:vI l (k+1)=some l[k]:=by unfold vI;rw[if_neg yv,Nat.add_sub_cancel,List.getElem?_eq_getElem hk]
 rw[List.drop_eq_getElem_cons hk,e]
 rw[m9]
theorem aiq{L:List (List Nat)}{v:T}(h:IsSl v L.length (L.map T.s))(k:Nat)(hk:k<L.length): ∃r,∀kk,iaV v (.i kk (k:Int)) 1=some (.vp (.s L[k]::r)):=by
 refine⟨(L.map T.s).drop (k+1),fun kk=> ?_⟩
 rw[h.ia (sz:=1) xv hk,Nat.mul_one,List.drop_eq_getElem_cons (by simpa using hk),List.getElem_map]
theorem ad9{p:Prop}[Decidable p]{α:Type}{s:α}:(some (T.b (decide p),s):Option (T×α))=if p then some (.b true,s)else some (.b false,s):=by by_cases h:p <;> simp[h]
theorem aea(zT aT fT:T)(r D:List T)(n:Nat)(hf:IsSl fT n D)(i:Int):ae pE 69 [.vp (zT::aT::fT::r),.i .i64 i] []=if 0≤i∧i<(n:Int)then some (.b true,[])else some (.b false,[]):=by
 rw[Yv zT aT fT r D n hf i,ad9]
theorem aw7(l:List (List Nat))(a:T)(N:IsSl a l.length (l.map T.s))(hlen:l.length≤1000)(O:List T)(hc:O[9]? =some a)(fr:Fr)(lh:aD ah)(sh:List ah)
  (h3:aa fr 3= .ptr .L 3 1 0) (Eb:aa fr 73=a) (Ck:aa fr 74= .i .i64 (l.length:Int)) (Oo:aa fr 75= .i .i64 0) (V:ab lh 3=⟨1,.cells O 0 true⟩):
  LpC pE 98 wz fr lh sh 2 4 (m9 none l=true) (.b false) (fun J K=>J=lh∧K=sh):=by
 refine m8 S7 (by simp[aQ]) (fun k f J K=>aa f 75= .i .i64 (k:Int)∧J=lh∧K=sh∧m9 none l=m9 (vI l k) (l.drop k)) l.length ⟨Oo,rfl,rfl,rfl⟩ ?_ ?_
 ·rintro k f _ _ hk r ⟨H,rfl,rfl,hr⟩
  have D:(k:Int)<l.length:=yv
  have U:=aG (k:=k) yv
  obtain⟨X,F⟩:=aiq N k hk
  rw[ad8 hk]at hr
  have I:=cG (ve l[k])
  by_cases h0:k=0
  ·have hz: ¬(0:Int)<k:=yv
   rw[show vI l k=none by rw[h0];rfl]at hr
   simp only[qB,seval,gd,wz,r,Eb,Ck,H,D,U,F,I,Qk,hz]
   clear r I
   grind [Rx]
  ·have hz:(0:Int)<k:=yv
   have W:=iY (k:=k) yv yv
   obtain⟨Y,KI⟩:=aiq N (k-1) yv
   rw[Ry yv yv]at hr
   cases hl:lessN l[k-1] l[k] <;> simp only[qB,seval,gd,wz,r,h3,Eb,Ck,H,V,hc,D,U,W,F,KI,I,Qk,hz,Jg,hl] <;> clear r I <;> grind [Rx]
 ·rintro f _ _ r ⟨H,rfl,rfl,hr⟩
  rw[List.drop_length,m9]at hr
  simp only[qB,seval,gd,wz,r,Ck,H,Int.lt_irrefl,hr]
theorem aeb(zT aT fT:T)(r D:List T)(n:Nat)(hf:IsSl fT n D)(s:wk)(a:T)(F:aDz s a)(hlen:s.ty.length≤1000):ae pE 39 [.vp (zT::aT::fT::r),.agg (pW s a)] []=some (.b (Jr n s),[]):=by
 have H:=aea zT aT fT r D n hf
 have hU: ∀st,DC pE 98 zR st=DC pE 98 zR st:=fun _=>rfl
 conv at hU=>enter [st,2];unfold zR
 have hL:=aw7 s.ty a F hlen (pW s a) rfl
 rw[au asC (by simp[c39])]
 unfold Jr ki lj SS
 unfold pW at hL ⊢
 simp only[qB,seval,cO,repl,c39,H,asW,tg zR,hU,hL,F.lenI]
 clear H hU hL
 have I:0≤s.lg∧s.lg≤6∧0≤s.hd∧s.hd≤6→wr .i64 (s.lg+s.hd)=s.lg+s.hd:=fun h=>bj yv
 generalize wr .i64 (s.lg+s.hd)=w at I ⊢
 cases m9 none s.ty
 all_goals repeat' (refine ifl (fun _=> ?_) (fun _=> ?_))
 all_goals refine congrArg (fun b=>some (T.b b,[])) ?_
 all_goals symm
 all_goals simp only[Bool.and_eq_true,Bool.and_eq_false_iff,decide_eq_true_eq,decide_eq_false_iff_not]
 all_goals grind
theorem itI{p:Prop}[Decidable p]{α:Type}{k:IntKind}{a b:Int}{s:α}:(if p then some (T.i k a,s)else some (T.i k b,s))=some (T.i k (if p then a else b),s):=by split <;> rfl
def TkR(k:Int×Bool)(c:List T):Prop:=c= [.i .i64 k.1,.b k.2]
theorem TkR.len(k:Int×Bool)(c:List T)(h:TkR k c):c.length=2:=by rw[h];rfl
def tw(d:List (Int×Bool))(v:T):Prop:= ∃r,IsSl v d.length r∧aB TkR d r
theorem kO{d:List (Int×Bool)}{v:T}(h:tw d v)(i:Nat)(hi:i<d.length): ∃r,∀kk,iaV v (.i kk (i:Int)) 2=some (.vp (.i .i64 d[i].1:: .b d[i].2::r)):=by
 obtain⟨D,h1,h2⟩:=h
 obtain⟨c,r,e,h⟩:=jK (k:=2) TkR.len h1 h2 i hi
 simp_all[TkR]
def pL(c:Ct)(r:List Fl)(i j:Int):Bool:=match r[i.toNat]?,r[j.toNat]? with
 |some f,some g=>yI c f g
 |_,_=>false
theorem nX(c:Ct)(r:List Fl){i j:Nat}(hi:i<r.length)(D:j<r.length):pL c r i j=yI c r[i] r[j]:=by
 grind [pL]
theorem na{n:Nat}{i:Int}(h:lj n i=true): ∃k:Nat,k<n∧i=k:=by
 unfold lj at h
 rw[decide_eq_true_eq]at h
 exact⟨i.toNat,by omega,by omega⟩
def qc(c:Ct)(D:List Fl):List (Int×Bool)→Bool
 |k::l::r=>pL c D k.1 l.1&&qc c D (l::r)
 |_=>true
def ev(c:Ct)(r:List Fl)(d:List (Int×Bool)):Int:=
 if(d.length:Int)<1 then 5 else if(6:Int)<d.length then 5 else if d.all (fun k=>lj r.length k.1)=true then(if qc c r d=true then 0 else 14)else 6
theorem FZ(c:Ct)(r:List Fl){d:List (Int×Bool)}{k:Nat}(hk:k+1<d.length):qc c r (d.drop k)=(pL c r d[k].1 d[k+1].1&&qc c r (d.drop (k+1))):=by
 grind [List.drop_eq_getElem_cons,qc]
theorem Ot(c:Ct)(r:List Fl){d:List (Int×Bool)}{k:Nat}(hk:k+1=d.length):qc c r (d.drop k)=true:=by
 rw[List.drop_eq_getElem_cons (by omega:k<d.length),List.drop_eq_nil_of_le yv,qc]
 simp
theorem Yy{α:Type}{p:α→Bool}{d:List α}{k:Nat}(hk:k<d.length):(d.drop k).all p=(p d[k]&&(d.drop (k+1)).all p):=by
 rw[List.drop_eq_getElem_cons hk,List.all_cons]
def stV(c:Ct)(zT aT fT a7 a8 a9 aw aA az:T)(vs:List T):T:= .vp (zT::aT::fT::(aY c a7 a8 a9 aw aA az++vs))
section
variable(t:Tt)(c:Ct)(zT aT fT a7 a8 a9 aw aA az:T)(vs:List T)(hT:kN t zT aT fT)
theorem Yz(hT:kN t zT aT fT){i j:Int}(hi:lj t.fl.length i=true)(F:lj t.fl.length j=true):ae pE 75 [stV c zT aT fT a7 a8 a9 aw aA az vs,.i .i64 i,.i .i64 j] []=some (.b (pL c t.fl i j),[]):=by
 obtain⟨i,r,rfl⟩:=na hi
 obtain⟨j,D,rfl⟩:=na F
 obtain⟨H,I,J⟩:=hT.f
 rw[nX c t.fl r D]
 exact alS zT aT fT a7 a8 a9 aw aA az c vs H t.fl I J i j r D
end
section
variable(t:Tt)(c:Ct)(zT aT fT a7 a8 a9 aw aA az:T)(hT:kN t zT aT fT)(hC:mG c a7 a8 a9 aw aA az)
theorem Ju(hT:kN t zT aT fT)(hC:mG c a7 a8 a9 aw aA az){i j:Int}(hi:lj t.fl.length i=true)(J:lj t.fl.length j=true):ae pE 68 [.agg [zT,aT,fT],.agg (aY c a7 a8 a9 aw aA az),.i .i64 i,.i .i64 j] []=some (.b (pL c t.fl i j),[]):=by
 obtain⟨i,D,rfl⟩:=na hi
 obtain⟨j,F,rfl⟩:=na J
 obtain⟨⟨X,Y,Z⟩,⟨ac,b1,b2⟩,⟨fc,H,I⟩⟩:=hT
 obtain⟨⟨y7,i7,j7⟩,⟨y8,i8,j8⟩,⟨y9,i9,j9⟩,⟨K,N,yD⟩,⟨O,U,Ch⟩,⟨V,W,D1⟩⟩:=hC
 rw[nX c t.fl D F]
 obtain⟨r,h1⟩:=mI H I i D
 obtain⟨r',h2⟩:=mI H I j F
 rw[au ajz (by simp[c68])]
 generalize t.fl[i]=f at*
 generalize t.fl[j]=g at*
 unfold aY yI
 simp only[qB,seval,c68,h1,h2]
 by_cases e1:f.to=g.fr <;> by_cases e2:c.cn≤wr .i64 (g.dp-f.ar) <;> by_cases e3:wr .i64 (g.dp-f.ar)≤c.st <;> simp[e1,e2,e3]
theorem aDA(d:List (Int×Bool))(F:T)(H:tw d F)(hlen:d.length≤1000)(K:List T)(hf:IsSl fT t.fl.length K)(r:Bool)(hr:r=d.all fun k=>lj t.fl.length k.1)(o:Out)(ho:o=if r=true then .ext 0 else .ret)(fr:Fr)(lh:aD ah)(sh:List ah)
  (h2:aa fr 2=F) (h3:aa fr 3= .ptr .L 3 1 0) (D:aa fr 7= .i .i64 0) (N:ab lh 3=⟨1,.cells [zT,aT,fT] 0 true⟩):
  pT 61 mf fr lh sh o∧((r=false→aa (mY pE 61 mf fr lh sh) 6= .i .i64 6)∧im pE 61 mf fr lh sh=lh∧iH pE 61 mf fr lh sh=sh):=by
 refine eu (fun k st=> ∃(fr:Fr),st=⟨fr,lh,sh⟩∧r=((d.drop k).all fun k=>lj t.fl.length k.1)∧aa fr 2=F∧aa fr 3= .ptr .L 3 1 0∧aa fr 7= .i .i64 (k:Int)) (fun O U V=>(r=false→aa O 6= .i .i64 6)∧U=lh∧V=sh) o d.length ?_ ?_ fr lh sh ⟨fr,rfl,hr,h2,h3,D⟩
 ·rintro k _ hk ⟨fr,rfl,hr,h2,h3,D⟩
  have I:(k:Int)<d.length:=yv
  have W:=aG (k:=k) yv
  obtain⟨X,J⟩:=kO H k hk
  rw[Yy hk]at hr
  unfold lj at hr
  generalize d[k]=y at*
  simp only[qB,seval,mf,h2,h3,D,N,H.choose_spec.1.lenI,hf.lenI,I,W,J]
  repeat' (refine qx (fun _=> ?_) (fun _=> ?_))
  all_goals first
   |(rw[decide_eq_false yv,Bool.false_and]at hr
     exact qy ⟨by rw[ho,hr];rfl,fun _=>wW,rfl,rfl⟩)
   |(rw[decide_eq_true yv,Bool.true_and]at hr
     exact cU ⟨_,rfl,hr,by simp only[qA,seval,h2],by simp only[qA,seval,h3],by simp only[qA,seval]⟩)
 ·rintro _ ⟨fr,rfl,hr,h2,h3,D⟩
  rw[List.drop_length]at hr
  simp only[qA,seval,mf,h2,D,H.choose_spec.1.lenI,Int.lt_irrefl]
  exact fv ⟨by rw[ho,hr];rfl,fun h=>(by rw[hr]at h;cases h),rfl,rfl⟩
theorem aDB(hT:kN t zT aT fT)(hC:mG c a7 a8 a9 aw aA az)(d:List (Int×Bool))(I:T)(H:tw d I)(h1:1≤d.length)(hlen:d.length≤1000)(X: ∀k∈d,lj t.fl.length k.1=true)(r:Bool)(hr:r=qc c t.fl d)(o:Out)(ho:o=if r=true then .ext 2 else .ret)(fr:Fr)(lh:aD ah)(sh:List ah)
  (h2:aa fr 2=I) (h3:aa fr 3= .ptr .L 3 1 0) (h4:aa fr 4= .ptr .L 4 1 0) (F:aa fr 8= .i .i64 1) (Z:ab lh 3=⟨1,.cells [zT,aT,fT] 0 true⟩) (Y:ab lh 4=⟨1,.cells (aY c a7 a8 a9 aw aA az) 0 true⟩):
  pT 61 rk fr lh sh o∧((r=false→aa (mY pE 61 rk fr lh sh) 6= .i .i64 14)∧iH pE 61 rk fr lh sh=sh):=by
 have J:=hT
 have K:=hC
 obtain⟨⟨zc,z1,z2⟩,⟨ac,b1,b2⟩,⟨fc,f1,f2⟩⟩:=J
 obtain⟨⟨y7,i7,j7⟩,⟨y8,i8,j8⟩,⟨y9,i9,j9⟩,⟨y10,N,yD⟩,⟨y11,O,Ch⟩,⟨y12,U,D1⟩⟩:=K
 refine eu (fun k st=> ∃(fr:Fr),st=⟨fr,lh,sh⟩∧r=qc c t.fl (d.drop k)∧aa fr 2=I∧aa fr 3= .ptr .L 3 1 0∧aa fr 4= .ptr .L 4 1 0∧aa fr 8= .i .i64 ((k+1:Nat):Int)) (fun bK aU aX=>(r=false→aa bK 6= .i .i64 14)∧aX=sh) o (d.length-1) ?_ ?_ fr lh sh ⟨fr,rfl,hr,h2,h3,h4,F⟩
 ·rintro k _ hk ⟨fr,rfl,hr,h2,h3,h4,F⟩
  have D:((k+1:Nat):Int)<d.length:=yv
  have hw:=aG (k:=k+1) yv
  have zi:wr .i64 (((k+1:Nat):Int)-1)=(k:Int):=by rw[bj yv];omega
  obtain⟨rr,V⟩:=kO H k yv
  obtain⟨r2,KI⟩:=kO H (k+1) yv
  rw[FZ c t.fl (by omega:k+1<d.length)]at hr
  have W:=Ju t c zT aT fT a7 a8 a9 aw aA az hT hC (X _ (List.getElem_mem (by omega:k<d.length))) (X _ (List.getElem_mem (by omega:k+1<d.length)))
  unfold aY at W Y
  generalize d[k]=x at*
  generalize d[k+1]=y at*
  cases hv:pL c t.fl x.1 y.1 <;> rw[hv]at W hr <;> simp only[Bool.true_and,Bool.false_and]at hr
  all_goals simp only[qA,seval,bp,aH,rk,h2,h3,h4,F,Z,Y,H.choose_spec.1.lenI,D,hw,zi,V,KI,W,ajA,aAV,z1.froz1,b1.froz1,f1.froz1,i7.froz1,i8.froz1,i9.froz1,N.froz1,O.froz1,U.froz1]
  all_goals first
   |exact qy ⟨by rw[ho,hr];rfl,fun _=>wW,rfl⟩
   |exact cU ⟨_,rfl,hr,by simp only[qA,seval,h2],by simp only[qA,seval,h3],by simp only[qA,seval,h4],by simp only[qA,seval]⟩
 ·rintro _ ⟨fr,rfl,hr,h2,h3,h4,F⟩
  rw[Ot c t.fl yv]at hr
  have D: ¬((d.length-1+1:Nat):Int)<d.length:=yv
  simp only[qA,seval,rk,h2,F,H.choose_spec.1.lenI,D]
  exact fv ⟨by rw[ho,hr];rfl,fun h=>(by rw[hr]at h;cases h),rfl⟩
theorem aed(hT:kN t zT aT fT)(hC:mG c a7 a8 a9 aw aA az)(d:List (Int×Bool))(r:T)(D:tw d r)(hlen:d.length≤1000):ae pE 284 [.agg [zT,aT,fT],.agg (aY c a7 a8 a9 aw aA az),r] []=some (.i .i64 (ev c t.fl d),[]):=by
 have BH:=D.choose_spec.1.lenI
 have F:=hT
 have H:=hC
 obtain⟨⟨zc,z1,z2⟩,⟨ac,b1,b2⟩,⟨K,N,f2⟩⟩:=F
 obtain⟨⟨y7,i7,j7⟩,⟨y8,i8,j8⟩,⟨y9,i9,j9⟩,⟨O,U,yD⟩,⟨V,W,Ch⟩,⟨X,Y,D1⟩⟩:=H
 have Rz:=fun fr lh sh h2 h3 Z I=>aDA t zT aT fT d r D hlen K N _ rfl _ rfl fr lh sh h2 h3 Z I
 rw[au ahC (by simp[K0])]
 unfold ev
 cases J:d.all fun k=>lj t.fl.length k.1 <;> rw[J]at Rz
 ·unfold aY
  simp only[qB,seval,K0,Rz,BH,itI]
 ·by_cases h1:1≤d.length
  ·have Jv:=fun fr lh sh h2 h3 h4 h8 I o4=>aDB t c zT aT fT a7 a8 a9 aw aA az hT hC d r D h1 hlen (List.all_eq_true.1 J) _ rfl _ rfl fr lh sh h2 h3 h4 h8 I o4
   unfold aY at Jv ⊢
   cases hc:qc c t.fl d <;> rw[hc]at Jv
   all_goals simp only[qB,seval,K0,Qd,Jv,Rz,BH,itI]
  ·have qa:(d.length:Int)<1:=yv
   unfold aY
   simp only[qB,seval,K0,BH,qa]
end
section
variable(c:Ct)(a7 a8 a9 aw aA az:T)(hT:mG c a7 a8 a9 aw aA az)(Ma:kz c=false∨kM c=false)
include hT Ma
theorem alU:ae pE 118 [.agg (aY c a7 a8 a9 aw aA az)] []=some (.i .i64 (fY c),[]):=by
 obtain⟨⟨c7,H,K⟩,⟨c8,I,N⟩,⟨c9,J,O⟩,⟨wh,r,U⟩,⟨yS,D,Ch⟩,⟨Ce,F,D1⟩⟩:=hT
 unfold aY
 rw[au M6 (by simp[KR])]
 unfold fY
 unfold kz kM at Ma ⊢
 have w:=fun n lo hi=>cG (mH n lo hi)
 simp(maxDischargeDepth:=6) only[qB,seval,KR,H.lenI,I.lenI,J.lenI,r.lenI,D.lenI,F.lenI,w,Dv]
 clear w
 grind (splits:=40)
theorem BI:fY c≠0:=by
 have _:=hT
 unfold fY
 by_cases h:kz c=false
 ·rw[if_pos h];decide
 ·rw[if_neg h,if_pos (Ma.resolve_left h)];decide
theorem Jw:fi c=fY c:=by
 unfold fi;rw[if_pos (BI c a7 a8 a9 aw aA az hT Ma)]
theorem Ou:ae pE 93 [.agg (aY c a7 a8 a9 aw aA az)] []=some (.i .i64 (fi c),[]):=by
 have r:=alU c a7 a8 a9 aw aA az hT Ma
 have I:=BI c a7 a8 a9 aw aA az hT Ma
 rw[Jw c a7 a8 a9 aw aA az hT Ma]
 obtain⟨⟨c7,J,O⟩,⟨c8,K,U⟩,⟨c9,N,V⟩,⟨wh,D,W⟩,⟨yS,F,Ch⟩,⟨Ce,H,D1⟩⟩:=hT
 unfold aY at r ⊢
 rw[au ajH (by simp[c93])]
 generalize fY c=e at*
 simp only[qA,seval,c93,J.froz1,K.froz1,N.froz1,D.froz1,F.froz1,H.froz1,r,afR,I]
end
structure Hb (c:Ct):Prop where
 n7:smC c.cs
 n8: ∀u∈c.ru,XX u.x
 n9: ∀u∈c.co,XX u.x
 n10: ∀x∈c.cr,XX x
 b7: ∃j,j≤2∧c.cs=rO j
 b8: ∀u∈c.ru,(u.sc,u.x)∈DX
 b9: ∀u∈c.co,(u.sc,u.x)∈DX
 b10: ∀x∈c.cr,((1:Int),x)∈DX
theorem Hb.sm{c:Ct}(h:Hb c)(hs:kM c=true):vq c:=by
 unfold kM at hs
 simp only[Bool.and_eq_true,decide_eq_true_eq]at hs
 obtain⟨h1,h2,h3,h4,h5,h6⟩:=hs
 exact⟨⟨h.n7,gH yv⟩,⟨h.n8,gH yv⟩,⟨h.n9,gH yv⟩,⟨h.n10,gH yv⟩,gH yv,gH yv,h.b7,h.b8,h.b9,h.b10⟩
def eK(t:Tt)(c:Ct):Int:=if nR t≠0 then nR t else fi c
def YA(l:List Fl)(i:Int):Fl:=(l[i.toNat]?).getD ⟨[],[],[],0,0,[],0,0,0⟩
theorem Mb{l:List Fl}{i:Nat}(h:i<l.length):YA l i=l[i]:=by
 unfold YA;rw[Int.toNat_natCast,List.getElem?_eq_getElem h];rfl
theorem lS(c:Ct)(zT aT fT a7 a8 a9 aw aA az:T)(vs:List T):froz (stV c zT aT fT a7 a8 a9 aw aA az vs)=true:=nr rfl
section
variable(t:Tt)(c:Ct)(zT aT fT a7 a8 a9 aw aA az:T)(hT:kN t zT aT fT)(hC:mG c a7 a8 a9 aw aA az)(hN:Hb c)
theorem yJ(hT:kN t zT aT fT)(hC:mG c a7 a8 a9 aw aA az):(froz1 zT=true∧froz1 aT=true∧froz1 fT=true∧froz1 a7=true∧froz1 a8=true∧froz1 a9=true∧froz1 aw=true∧froz1 aA=true∧froz1 az=true)∧cellsOf zT= [zT]∧cellsOf aT= [aT]∧cellsOf fT= [fT]∧cellsOf a7= [a7]∧cellsOf a8= [a8]∧cellsOf a9= [a9]∧cellsOf aw= [aw]∧cellsOf aA= [aA]∧cellsOf az= [az]:=by
 obtain⟨⟨_,H,_⟩,⟨_,I,_⟩,⟨_,J,_⟩⟩:=hT
 obtain⟨⟨_,K,_⟩,⟨_,N,_⟩,⟨_,O,_⟩,⟨_,r,_⟩,⟨_,D,_⟩,⟨_,F,_⟩⟩:=hC
 exact⟨⟨H.froz1,I.froz1,J.froz1,K.froz1,N.froz1,O.froz1,r.froz1,D.froz1,F.froz1⟩,H.cells,I.cells,J.cells,K.cells,N.cells,O.cells,r.cells,D.cells,F.cells⟩
include hC hN
theorem aee:ae pE 93 [.agg (aY c a7 a8 a9 aw aA az)] []=some (.i .i64 (fi c),[]):=by
 by_cases hr:kz c=false
 ·exact Ou c a7 a8 a9 aw aA az hC (.inl hr)
 ·by_cases hs:kM c=false
  ·exact Ou c a7 a8 a9 aw aA az hC (.inr hs)
  ·exact Rs c a7 a8 a9 aw aA az hC (hN.sm (by simpa using hs))
omit hN in
theorem Ec(h:fi c=0):kM c=true:=by
 cases hs:kM c with
 |true=>rfl
 |false=>
  exfalso
  rw[Jw c a7 a8 a9 aw aA az hC (.inr hs)]at h
  exact BI c a7 a8 a9 aw aA az hC (.inr hs) h
include hT
theorem Ov(h:eK t c=0): ∃s vs,ae pE 35 [.agg [zT,aT,fT],.agg (aY c a7 a8 a9 aw aA az)] []=some (.tup [stV c zT aT fT a7 a8 a9 aw aA az vs,.i .i64 0],s)∧yH t c vs:=by
 unfold eK at h
 by_cases r:nR t=0
 ·rw[if_neg (by simp[r])]at h
  obtain⟨s,vs,h1,_,_,h2⟩:=alR t c zT aT fT a7 a8 a9 aw aA az hT hC (hN.sm (Ec c a7 a8 a9 aw aA az hC h)) r h
  exact⟨s,vs,h1,h2⟩
 ·rw[if_pos r]at h;exact absurd h r
theorem Ow(hL: ∀f∈t.fl,f.nu.length≤gm):ae pE 52 [.agg [zT,aT,fT],.agg (aY c a7 a8 a9 aw aA az)] []=some (.i .i64 (eK t c),[]):=by
 have h1:=alG t zT aT fT hT hL
 have h2:=aee c a7 a8 a9 aw aA az hC hN
 obtain⟨⟨V,H,W⟩,⟨ac,I,X⟩,⟨Y,J,Z⟩⟩:=hT
 obtain⟨⟨_,K,_⟩,⟨_,N,_⟩,⟨_,O,_⟩,⟨_,r,_⟩,⟨_,D,_⟩,⟨_,F,_⟩⟩:=hC
 unfold eK
 rw[au asP (by simp[c52])]
 unfold aY at h2 ⊢
 by_cases U:nR t=0
 all_goals simp only[qA,seval,c52,h1,h2,U,aA6,aA7,H.froz1,I.froz1,J.froz1,K.froz1,N.froz1,O.froz1,r.froz1,D.froz1,F.froz1]
theorem ng(h:eK t c=0):nR t=0∧fi c=0:=by
 have _:=hC;have _:=hN;have _:=hT
 unfold eK at h
 by_cases r:nR t=0
 ·rw[if_neg (by simp[r])]at h;exact⟨r,h⟩
 ·rw[if_pos r]at h;exact absurd h r
theorem aef(hL: ∀f∈t.fl,f.nu.length≤gm)(d:List (Int×Bool))(r:T)(H:tw d r)(hlen:d.length≤1000):ae pE 254 [.agg [zT,aT,fT],.agg (aY c a7 a8 a9 aw aA az),r] []=some (.i .i64 (if eK t c≠0 then eK t c else ev c t.fl d),[]):=by
 have hz:=yJ t c zT aT fT a7 a8 a9 aw aA az hT hC
 have D:=Ow t c zT aT fT a7 a8 a9 aw aA az hT hC hN hL
 have I:=aed t c zT aT fT a7 a8 a9 aw aA az hT hC d r H hlen
 have F:=H.choose_spec.1.froz
 rw[au ahp (by simp[Uh])]
 unfold aY at*
 by_cases h:eK t c=0
 all_goals simp only[qA,seval,Uh,D,Qi,I,auA,h,hz,F]
end
theorem YC(a:Int):a.tdiv 1440=if a.tmod 1440<0 then a/1440+1 else a/1440:=by
 grind
theorem alV(a:Int):a.tmod 1440=if a.tmod 1440<0 then a%1440-1440 else a%1440:=by
 grind
def yn(a:Int):Prop:= -100000000≤a∧a≤100000000
theorem xq(a:Int)(D:yn a):ae pE 226 [.i .i64 a] []=some (.tup [.i .i64 (a/1440),.i .i64 (a%1440)],[]):=by
 obtain⟨h1,h2⟩:=D
 have e1:=YC a
 have e2:=alV a
 rw[au ag7 (by simp[P7])]
 by_cases h:a.tmod 1440<0
 ·rw[if_pos h]at e1 e2
  rw[e2]at h
  have r:wr .i64 (a/1440+1)=a/1440+1:=bj yv
  have F:wr .i64 (a/1440+1-1)=a/1440:=by rw[bj yv];omega
  have H:wr .i64 (a%1440-1440+1440)=a%1440:=by rw[bj yv];omega
  simp only[qA,seval,P7,e1,e2,r,h,F,H]
 ·rw[if_neg h]at e1 e2
  rw[e2]at h
  have r:wr .i64 (a/1440)=a/1440:=bj yv
  simp only[qA,seval,P7,e1,e2,r,h]
theorem RA(a:Int)(D:yn a):ae pE 239 [.i .i64 a,.i .i64 1440] []=some (.i .i64 (a/1440),[]):=by
 obtain⟨h1,h2⟩:=D
 have e1:=YC a
 rw[au ahk (by simp[P9])]
 by_cases h:a.tmod 1440<0
 ·have H:=h
  rw[if_pos h]at e1
  have r:wr .i64 (a/1440+1)=a/1440+1:=bj yv
  have F:wr .i64 (a/1440+1-1)=a/1440:=by rw[bj yv];omega
  simp only[qA,seval,P9,e1,r,h,F]
 ·rw[if_neg h]at e1
  have r:wr .i64 (a/1440)=a/1440:=bj yv
  simp only[qA,seval,P9,e1,r,h]
theorem xt(a:Int)(r:yn a):ae pE 172 [.i .i64 a] []=some (.tup [.i .i64 (a/1440),.i .i64 (a%1440)],[]):=by
 have hf:=RA a r
 obtain⟨h1,h2⟩:=r
 have D:wr .i64 (1440*(a/1440))=1440*(a/1440):=bj yv
 have F:wr .i64 (a-1440*(a/1440))=a%1440:=by rw[bj yv];omega
 rw[au agz (by simp[TL])]
 simp only[qA,seval,TL,hf,aup,D,F]
def pe(o:Int):List (Int×Int)→Int→Int
 | [],_=>o
 |s::r,t=>if s.1≤t then pe s.2 r t else o
def yK(o:Int):List (Int×Int)→Int→Int
 | [],_=>o
 |s::r,t=>yK (if s.1≤t then s.2 else o) r t
theorem BJ{p:Option Int}{s:Int×Int}{r:List (Int×Int)}(h:CT p (s::r)=0):nQ s.1=true∧qE s.2=true∧(∀q,p=some q→q<s.1)∧CT (some s.1) r=0:=by
 unfold CT at h
 grind
theorem Ed: ∀(l:List (Int×Int)) (p o t:Int),CT (some p) l=0→t<p→yK o l t=o
 | [],p,o,t,h,D=>rfl
 |s::r,p,o,t,h,D=>by
  obtain⟨_,_,h3,h4⟩:=BJ h
  have:=h3 p rfl
  rw[yK,if_neg yv]
  exact Ed r s.1 o t h4 yv
theorem YD: ∀(l:List (Int×Int)) (p:Option Int) (o t:Int),CT p l=0→yK o l t=pe o l t
 | [],p,o,t,h=>rfl
 |s::r,p,o,t,h=>by
  obtain⟨_,_,_,h4⟩:=BJ h
  rw[yK,pe]
  by_cases hs:s.1≤t
  ·rw[if_pos hs,if_pos hs];exact YD r _ _ _ h4
  ·grind [Ed]
theorem zt: ∀{l:List (Int×Int)} {p:Option Int},CT p l=0→ ∀s∈l,nQ s.1=true∧qE s.2=true
 |a::r,p,h,s,hs=>by
  obtain⟨h1,h2,_,h4⟩:=BJ h
  rcases List.mem_cons.1 hs with rfl|hs
  ·grind
  ·exact zt h4 s hs
theorem YE: ∀{l:List (Int×Int)} {o t:Int},qE o=true→(∀s∈l,qE s.2=true)→qE (pe o l t)=true
 | [],o,t,h,_=>h
 |s::r,o,t,h,hl=>by
  rw[pe]
  split
  ·exact YE (hl s xv) fun x hx=>hl x (by simp[hx])
  ·exact h
def Zo.off(z:Zo)(t:Int):Int:=pe z.o z.sh t
theorem iq{z:Zo}(h:gv z=0):qE z.o=true∧z.sh.length≤16∧CT none z.sh=0:=by
 grind [gv]
theorem Zo.off_bd{z:Zo}(h:gv z=0)(t:Int): -840≤z.off t∧z.off t≤840:=by
 obtain⟨h1,_,h3⟩:=iq h
 have:=YE (t:=t) h1 fun s hs=>(zt h3 s hs).2
 grind [qE,Zo.off]
def l9(z:Zo)(a:T):List T:= [.s z.nm,.i .i64 z.o,a]
def ZoT(z:Zo)(a:T):Prop:= ∃r,IsSl a z.sh.length r∧aB SL z.sh r
section
variable(z:Zo)(a:T)(hz:ZoT z a)(hlen:z.sh.length≤16)
include hz hlen
theorem aDD(t:Int)(fr:Fr)(lh:aD ah)(sh:List ah)(h1:aa fr 1= .i .i64 t)(h5:aa fr 5= .i .i64 z.o)(F:aa fr 11=a)(D:aa fr 12= .i .i64 (z.sh.length:Int))(H:aa fr 13= .i .i64 0):
  pT 25 ri fr lh sh (.ext 0)∧
  (aa (mY pE 25 ri fr lh sh) 5= .i .i64 (pe z.o z.sh t)∧iH pE 25 ri fr lh sh=sh):=by
 obtain⟨V,K,hc⟩:=hz
 refine eu (fun k st=> ∃(fr:Fr) (lh:aD ah) (o:Int),st=⟨fr,lh,sh⟩∧aa fr 1= .i .i64 t∧aa fr 5= .i .i64 o∧aa fr 11=a∧aa fr 12= .i .i64 (z.sh.length:Int)∧aa fr 13= .i .i64 (k:Int)∧pe o (z.sh.drop k) t=pe z.o z.sh t)
  (fun N W O=>aa N 5= .i .i64 (pe z.o z.sh t)∧O=sh) _ z.sh.length ?_ ?_ fr lh sh ⟨fr,lh,z.o,rfl,h1,h5,F,D,H,rfl⟩
 ·rintro k _ hk ⟨fr,lh,o,rfl,h1,h5,F,D,H,ho⟩
  have I:(k:Int)<z.sh.length:=yv
  have U:=aG (k:=k) yv
  obtain⟨X,J⟩:=Bt K hc hk
  rw[List.drop_eq_getElem_cons hk,pe]at ho
  generalize z.sh[k]=s at*
  generalize pe z.o z.sh t=r at*
  simp only[qB,seval,ri,h1,F,D,H,I,J,U]
  refine qx (fun h=> ?_) (fun h=> ?_)
  ·rw[if_neg yv]at ho
   exact fv ⟨rfl,by simp only[qA,seval,h5,ho],rfl⟩
  ·rw[if_pos yv]at ho
   exact cU ⟨_,_,s.2,rfl,by simp only[qA,seval,h1],by simp only[qA,seval],by simp only[qA,seval,F],by simp only[qA,seval,D],by simp only[qA,seval],ho⟩
 ·rintro _ ⟨fr,lh,o,rfl,h1,h5,F,D,H,ho⟩
  rw[List.drop_length,pe]at ho
  simp only[qA,seval,ri,D,H,Int.lt_irrefl]
  exact fv ⟨rfl,by simp only[qA,seval,h5,ho],rfl⟩
theorem RB(t:Int):ae pE 224 [.agg (l9 z a),.i .i64 t] []=some (.i .i64 (z.off t),[]):=by
 have hL:=fun fr lh sh h1 h5 r D F=>aDD z a hz hlen t fr lh sh h1 h5 r D F
 obtain⟨I,H,hc⟩:=hz
 unfold Zo.off l9
 rw[au ag5 (by simp[T8])]
 simp only[qA,seval,T8,H.lenI,hL]
theorem aDE(t:Int)(fr:Fr)(lh:aD ah)(sh:List ah)(h1:aa fr 1= .i .i64 t)(h2:aa fr 2= .ptr .L 2 1 0)(h5:aa fr 5= .i .i64 z.o)(h6:aa fr 6= .i .i64 0)(D:ab lh 2=⟨1,.cells (l9 z a) 0 true⟩):
  pT 31 wM fr lh sh (.ext 0)∧
  (aa (mY pE 31 wM fr lh sh) 5= .i .i64 (yK z.o z.sh t)∧iH pE 31 wM fr lh sh=sh):=by
 obtain⟨O,F,hc⟩:=hz
 unfold l9 at D
 refine eu (fun k st=> ∃(fr:Fr) (o:Int),st=⟨fr,lh,sh⟩∧aa fr 1= .i .i64 t∧aa fr 2= .ptr .L 2 1 0∧aa fr 5= .i .i64 o∧aa fr 6= .i .i64 (k:Int)∧yK o (z.sh.drop k) t=yK z.o z.sh t)
  (fun J U K=>aa J 5= .i .i64 (yK z.o z.sh t)∧K=sh) _ z.sh.length ?_ ?_ fr lh sh ⟨fr,z.o,rfl,h1,h2,h5,h6,rfl⟩
 ·rintro k _ hk ⟨fr,o,rfl,h1,h2,h5,h6,ho⟩
  have H:(k:Int)<z.sh.length:=yv
  have N:=aG (k:=k) yv
  obtain⟨V,I⟩:=Bt F hc hk
  rw[List.drop_eq_getElem_cons hk,yK]at ho
  generalize z.sh[k]=s at*
  generalize yK z.o z.sh t=r at*
  simp only[qB,seval,wM,h1,h2,h6,D,F.lenI,H,I,N]
  refine qx (fun h=> ?_) (fun h=> ?_)
  ·rw[if_pos h]at ho
   exact cU ⟨_,s.2,rfl,by simp only[qA,seval,h1],by simp only[qA,seval,h2],by simp only[qA,seval],by simp only[qA,seval],ho⟩
  ·rw[if_neg h]at ho
   exact cU ⟨_,o,rfl,by simp only[qA,seval,h1],by simp only[qA,seval,h2],by simp only[qA,seval,h5],by simp only[qA,seval],ho⟩
 ·rintro _ ⟨fr,o,rfl,h1,h2,h5,h6,ho⟩
  rw[List.drop_length,yK]at ho
  simp only[qA,seval,wM,h2,h6,D,F.lenI,Int.lt_irrefl]
  exact fv ⟨rfl,by simp only[qA,seval,h5,ho],rfl⟩
theorem pf(hv:gv z=0)(t:Int):ae pE 99 [.agg (l9 z a),.i .i64 t] []=some (.i .i64 (z.off t),[]):=by
 have hL:=fun fr lh sh h1 h2 h5 h6 r=>aDE z a hz hlen t fr lh sh h1 h2 h5 h6 r
 obtain⟨D,F,hc⟩:=hz
 rw[YD _ _ _ _ (iq hv).2.2]at hL
 unfold Zo.off
 unfold l9 at hL ⊢
 rw[au ajJ (by simp[c99])]
 simp only[qA,seval,c99,hL]
end
section
variable(z:Zo)(a:T)(hz:ZoT z a)(hv:gv z=0)
include hz hv
theorem ZoT.froz1:froz1 a=true:=by have _:=hv;obtain⟨D,r,_⟩:=hz;exact r.froz1
theorem tz(t:Int)(D:nQ t=true):ae pE 141 [.agg (l9 z a),.i .i64 t] []=some (.tup [.i .i64 (z.off t),.i .i64 0],[]):=by
 have h1:=RB z a hz (iq hv).2.1 t
 obtain⟨F,r,hc⟩:=hz
 have h2:=Bv z a F r hc
 have h3:=Ok t
 rw[hv]at h2
 rw[D]at h3
 unfold l9 at h1 ⊢
 rw[au agf (by simp[Tz])]
 simp only[qA,seval,Tz,h1,h2,h3,r.froz1,aul,M7,Vc]
theorem RC(t:Int)(D:nQ t=true):ae pE 272 [.agg (l9 z a),.i .i64 t] []=some (.tup [.i .i64 (z.off t),.i .i64 0],[]):=by
 have h1:=pf z a hz (iq hv).2.1 hv t
 obtain⟨F,r,hc⟩:=hz
 have h2:=Bw z a F r hc
 have h3:=Ol t
 rw[hv]at h2
 rw[D]at h3
 unfold l9 at h1 ⊢
 rw[au ahB (by simp[Uq])]
 simp only[qA,seval,Uq,h1,h2,h3,r.froz1,UD,UR,Vf]
theorem Mc(t:Int)(r:nQ t=true):wr .i64 (t+z.off t)=t+z.off t∧yn (t+z.off t):=by
 have _:=hz
 have h1:=Zo.off_bd hv t
 unfold nQ at r
 simp only[Bool.and_eq_true,decide_eq_true_eq]at r
 exact⟨bj yv,by unfold yn;omega⟩
def Zo.day(z:Zo)(t:Int):Int:=(t+z.off t)/1440
def Zo.clk(z:Zo)(t:Int):Int:=(t+z.off t)%1440
theorem Jx(t:Int)(r:nQ t=true):ae pE 142 [.agg (l9 z a),.i .i64 t] []=some (.tup [.i .i64 (z.day t),.i .i64 (z.clk t),.i .i64 0],[]):=by
 have h1:=tz z a hz hv t r
 obtain⟨w,n⟩:=Mc z a hz hv t r
 have h2:=xq _ n
 obtain⟨F,D,hc⟩:=hz
 have h3:ae pE 225 [.agg (l9 z a),.i .i64 t] []=some (.tup [.i .i64 (t+z.off t),.i .i64 0],[]):=by
  unfold l9 at h1 ⊢
  rw[au ag6 (by simp[T9])]
  simp only[qA,seval,T9,h1,w,D.froz1,UM]
 unfold Zo.day Zo.clk
 generalize t+z.off t=m at*
 unfold l9 at h3 ⊢
 rw[au agh (by simp[TA])]
 simp only[qA,seval,TA,h3,h2,D.froz1,aum,ag8]
theorem YF(t:Int)(r:nQ t=true):ae pE 174 [.agg (l9 z a),.i .i64 t] []=some (.tup [.i .i64 (z.day t),.i .i64 (z.clk t),.i .i64 0],[]):=by
 have h1:=RC z a hz hv t r
 obtain⟨w,n⟩:=Mc z a hz hv t r
 have h2:=xt _ n
 obtain⟨F,D,hc⟩:=hz
 have h3:ae pE 240 [.agg (l9 z a),.i .i64 t] []=some (.tup [.i .i64 (t+z.off t),.i .i64 0],[]):=by
  unfold l9 at h1 ⊢
  rw[au ahl (by simp[Uf])]
  simp only[qA,seval,Uf,h1,w,D.froz1,auz]
 unfold Zo.day Zo.clk
 generalize t+z.off t=m at*
 unfold l9 at h3 ⊢
 rw[au agA (by simp[TM])]
 simp only[qA,seval,TM,h3,h2,D.froz1,auq,Nc]
end
def j0(f:Int→Bool)(a:Int):Nat→Int
 |0=>0
 |n+1=>j0 f a n+if f (a+n)=true then 1 else 0
theorem Jy(f:Int→Bool)(a:Int)(m:Nat): ∀n,j0 f a (m+n)=j0 f a m+j0 f (a+m) n
 |0=>by simp[j0]
 |n+1=>by
  rw[←Nat.add_assoc,j0,j0,Jy f a m n,show a+((m+n:Nat):Int)=a+m+n by omega]
  omega
theorem BK{f g:Int→Bool}{a:Int}: ∀{n:Nat},(∀t,a≤t→t<a+n→f t=g t)→j0 f a n=j0 g a n
 |0,_=>rfl
 |n+1,h=>by rw[j0,j0,BK fun t h1 h2=>h t h1 yv,h (a+n) yv yv]
theorem zu(f:Int→Bool)(a:Int): ∀n,0≤j0 f a n∧j0 f a n≤n
 |0=>by simp[j0]
 |n+1=>by have:=zu f a n;rw[j0];split <;> omega
def qK(f:Int→Bool)(a b:Int):Int:=j0 f a (b-a).toNat
theorem YG(f:Int→Bool){a m b:Int}(h1:a≤m)(h2:m≤b):qK f a b=qK f a m+qK f m b:=by
 unfold qK
 have:=Jy f a (m-a).toNat (b-m).toNat
 grind
theorem rR(f:Int→Bool){a b:Int}(h:b≤a):qK f a b=0:=by
 unfold qK;rw[show(b-a).toNat=0 by omega];rfl
theorem tB{f g:Int→Bool}{a b:Int}(h: ∀t,a≤t→t<b→f t=g t):qK f a b=qK g a b:=by
 grind [qK,BK]
def Md(c len p q d:Int):Int:=if max (1440*d+c) p<min (1440*d+c+len) q then min (1440*d+c+len) q-max (1440*d+c) p else 0
def qL(c len p q lo:Int):Nat→Int
 |0=>0
 |n+1=>qL c len p q lo n+Md c len p q (lo+n)
theorem RD{c len p q d:Int}(h1:1≤len)(hp:p≤q):Md c len p (q+1) d=Md c len p q d+if 1440*d+c≤q∧q<1440*d+c+len then 1 else 0:=by
 grind [Md]
theorem Ee{c len p q lo:Int}(h1:1≤len)(h2:len<1440)(hp:p≤q): ∀n:Nat,qL c len p (q+1) lo n=qL c len p q lo n+if lo≤(q-c)/1440∧(q-c)/1440<lo+n∧(q-c)%1440<len then 1 else 0
 |0=>by grind [qL]
 |n+1=>by
  rw[qL,qL,Ee h1 h2 hp n,RD h1 hp]
  grind
theorem Ef{c len p:Int}(lo:Int): ∀n:Nat,qL c len p p lo n=0
 |0=>rfl
 |n+1=>by
  rw[qL,Ef lo n]
  grind [Md]
def cN(f t:Int):Int:=(t-f+1440)%1440
theorem Jz{m f t:Int}(hf:0≤f∧f<1440)(r:0≤t∧t<1440):dw (m%1440) f t=decide ((m-f)%1440<cN f t):=by
 grind [dw,cN]
theorem JA{f t o p:Int}(hf:0≤f∧f<1440)(F:0≤t∧t<1440)(hl:cN f t≠0)(lo:Int)(n:Nat)(r:lo≤(p+o)/1440-1):
  ∀k:Nat,(p+k-1+o)/1440<lo+n→qL (f-o) (cN f t) p (p+k) lo n=j0 (fun x=>dw ((x+o)%1440) f t) p k
 |0,_=>by rw[show p+((0:Nat):Int)=p by omega,Ef];rfl
 |k+1,h=>by
  have D:1≤cN f t∧cN f t<1440:=by unfold cN at hl ⊢; omega
  have ih:=JA hf F hl lo n r k yv
  rw[show p+((k+1:Nat):Int)=p+k+1 by omega,Ee D.1 D.2 yv,ih,j0]
  grind [Jz]
def vJ(a b o:Int):List (Int×Int×Int):=if a<b then [(a,b,o)]else []
def jc(S T fr o:Int):List (Int×Int)→List (Int×Int×Int)
 | []=>vJ (max fr S) (min 52596000 T) o
 |s::r=>vJ (max fr S) (min s.1 T) o++jc S T s.1 s.2 r
def tC(g:Int×Int→Bool)(l:List (Int×Int×Int)):Int:=(l.map fun x=>qK (fun t=>g (t,x.2.2)) x.1 x.2.1).sum
theorem YH(g:Int×Int→Bool)(a b o:Int):tC g (vJ a b o)=qK (fun t=>g (t,o)) a b:=by
 grind [vJ,tC,rR]
theorem JB(g:Int×Int→Bool)(l r:List (Int×Int×Int)):tC g (l++r)=tC g l+tC g r:=by
 grind [tC]
theorem JC(g:Int×Int→Bool){S T:Int}(hT:T≤52596000): ∀(l:List (Int×Int)) (p:Option Int) (fr o:Int),CT p l=0→(∀s∈l.head?,fr≤s.1)→tC g (jc S T fr o l)=qK (fun t=>g (t,pe o l t)) (max fr S) T
 | [],p,fr,o,h,F=>by
   rw[jc,YH,Int.min_eq_right hT];rfl
 |s::r,p,fr,o,h,F=>by
  obtain⟨_,_,_,h4⟩:=BJ h
  have hs:=F s rfl
  have hr: ∀x∈r.head?,s.1≤x.1:=by
   intro x hx
   cases r with
   |nil=>cases hx
   |cons y r=>
    cases hx
    have:=(BJ h4).2.2.1 s.1 rfl
    omega
  rw[jc,JB,YH,JC g hT r _ s.1 s.2 h4 hr]
  have D: ∀t,s.1≤t→pe o (s::r) t=pe s.2 r t:=fun t H=>by rw[pe,if_pos H]
  have early: ∀t,t<s.1→pe o (s::r) t=o:=fun t H=>by rw[pe,if_neg yv]
  by_cases hc:max fr S≤s.1∧s.1≤T
  ·rw[YG (m:=s.1) _ hc.1 hc.2,show min s.1 T=s.1 by omega,show max s.1 S=s.1 by omega]
   grind [tB]
  ·by_cases h2:s.1≤T
   ·rw[rR (a:=max fr S) (b:=min s.1 T) _ yv,show max s.1 S=max fr S by omega,Int.zero_add]
    exact tB fun t h1 _=>by rw[D t yv]
   ·rw[rR (a:=max s.1 S) (b:=T) _ yv,show min s.1 T=T by omega,Int.add_zero]
    exact tB fun t _ h1=>by rw[early t yv]
def Zo.bandM(z:Zo)(S T f t:Int):Int:=qK (fun x=>dw (z.clk x) f t) S T
theorem Me{z:Zo}(hv:gv z=0){S T f t:Int}(r:0≤S)(hT:T≤52596000):tC (fun x=>dw ((x.1+x.2)%1440) f t) (jc S T 0 z.o z.sh)=z.bandM S T f t:=by
 have h3:=(iq hv).2.2
 rw[JC _ hT z.sh none 0 z.o h3,show max 0 S=S by omega]
 ·rfl
 ·intro s hs
  have:=(zt h3 s (List.mem_of_mem_head? hs)).1
  grind [nQ]
theorem mM{a b:Int}:(if b>a then b else a)=max a b:=by rw[Int.max_def];split <;> split <;> omega
theorem pM{a b:Int}:(if b<a then b else a)=min a b:=by rw[Int.min_def];split <;> split <;> omega
theorem dO{lh:aD ah}{sh:List ah}{v:T}{k n sz bytes:Nat}{cs:List T}(h:bg lh v k sz n cs)(r:List T)(D:r.length=sz)(hr:(n+1)*bytes≤roomy)(ex:Bool):
  appW lh sh k sz bytes v (.sl r 1 ex)=some (nxV lh sh k sz bytes v (.sl r 1 ex),Rd lh sh k sz bytes v (.sl r 1 ex))∧bg (Rd lh sh k sz bytes v (.sl r 1 ex)) (nxV lh sh k sz bytes v (.sl r 1 ex)) k sz (n+1) (cs++r)∧ ∀j,j≠k→ab (Rd lh sh k sz bytes v (.sl r 1 ex)) j=ab lh j:=
 bg.appW h (m:=0) (by rw[Fk,if_pos yv]) yv hr
def yo(l:List (Int×Int×Int)):List T:=l.flatMap fun x=> [.i .i64 x.1,.i .i64 x.2.1,.i .i64 x.2.2]
theorem Ox(a b:List (Int×Int×Int)):yo (a++b)=yo a++yo b:=by unfold yo;rw[List.flatMap_append]
theorem Oy(p q o:Int)(l:List (Int×Int×Int)):yo l++ [.i .i64 p,.i .i64 q,.i .i64 o]=yo (l++ [(p,q,o)]):=by rw[Ox];rfl
section
variable(z:Zo)(a:T)(hz:ZoT z a)(hlen:z.sh.length≤16)(A B:Int)
def pg(z:Zo)(A B r D:Int)(k:Nat):List (Int×Int×Int):=if k≤z.sh.length then jc A B r D (z.sh.drop k)else []
theorem RE{r D:Int}{k:Nat}(hk:k<z.sh.length):pg z A B r D k=vJ (max r A) (min z.sh[k].1 B) D++pg z A B z.sh[k].1 z.sh[k].2 (k+1):=by
 unfold pg
 rw[if_pos yv,if_pos yv,List.drop_eq_getElem_cons hk,jc]
theorem Mf{r D:Int}:pg z A B r D z.sh.length=vJ (max r A) (min 52596000 B) D:=by
 unfold pg
 rw[if_pos yv,List.drop_length,jc]
theorem qM{r D:Int}:pg z A B r D (z.sh.length+1)= []:=by
 unfold pg
 rw[if_neg yv]
include hz hlen
theorem aDF(fr:Fr)(lh:aD ah)(sh:List ah)(h2:aa fr 2= .ptr .L 2 1 0)(h3:aa fr 3= .ptr .L 3 1 0)(h5:aa fr 5= .nilsl)(h6:aa fr 6= .i .i64 0)(N:aa fr 7= .i .i64 z.o)(U:aa fr 8= .i .i64 0)(F:ab lh 2=⟨1,.cells (l9 z a) 0 true⟩)(H:ab lh 3=⟨1,.cells [.i .i64 A,.i .i64 B] 0 true⟩):
  pT 63 mc fr lh sh (.ext 0)∧
  (bg (im pE 63 mc fr lh sh) (aa (mY pE 63 mc fr lh sh) 5) 49 3 (jc A B 0 z.o z.sh).length (yo (jc A B 0 z.o z.sh))∧(jc A B 0 z.o z.sh).length≤17∧iH pE 63 mc fr lh sh=sh):=by
 obtain⟨cc,X,hc⟩:=hz
 unfold l9 at F
 refine eu (fun k st=> ∃(fr:Fr) (lh:aD ah) (I J:Int) (L:List (Int×Int×Int)),st=⟨fr,lh,sh⟩∧aa fr 2= .ptr .L 2 1 0∧aa fr 3= .ptr .L 3 1 0∧aa fr 6= .i .i64 I∧aa fr 7= .i .i64 J∧aa fr 8= .i .i64 (k:Int)∧ab lh 2=⟨1,.cells [.s z.nm,.i .i64 z.o,a] 0 true⟩∧ab lh 3=⟨1,.cells [.i .i64 A,.i .i64 B] 0 true⟩∧bg lh (aa fr 5) 49 3 L.length (yo L)∧L.length≤k∧L++pg z A B I J k=jc A B 0 z.o z.sh)
  (fun bK aU aX=>bg aU (aa bK 5) 49 3 (jc A B 0 z.o z.sh).length (yo (jc A B 0 z.o z.sh))∧(jc A B 0 z.o z.sh).length≤17∧aX=sh) _ (z.sh.length+1) ?_ ?_ fr lh sh ⟨fr,lh,0,z.o,[],rfl,h2,h3,h6,N,U,F,H,by rw[h5];exact bg.nil,by simp,by simp[pg]⟩
 ·rintro k _ hk ⟨fr,lh,I,J,L,rfl,h2,h3,h6,N,U,F,H,K,hL,r⟩
  have O:(k:Int)≤z.sh.length:=yv
  have hw:=aG (k:=k) yv
  have D:=fun e:Int=>dO (sh:=sh) K [.i .i64 (max I A),.i .i64 (min e B),.i .i64 J] rfl (bytes:=24) (by unfold roomy;omega) true
  generalize h5:aa fr 5=v5 at K D
  by_cases V:k<z.sh.length
  ·have Y:(k:Int)<z.sh.length:=yv
   obtain⟨rr,Z⟩:=Bt X hc V
   rw[RE z A B V]at r
   generalize z.sh[k]=s at*
   have D:=D s.1
   have W:=(D.2.2 2 xW).trans F
   have p3:=(D.2.2 3 xW).trans H
   simp only[qB,seval,repl,mc,h2,h3,h5,h6,N,U,F,H,X.lenI,O,Y,Z,hw,mM,pM,K.notS,D.1,W]
   refine qx (fun h=> ?_) (fun h=> ?_)
   ·rw[vJ,if_pos h]at r
    exact cU ⟨_,_,s.1,s.2,L++ [(max I A,min s.1 B,J)],rfl,by simp only[qA,seval,h2],by simp only[qA,seval,h3],by simp only[qA,seval],by simp only[qA,seval],by simp only[qA,seval],W,p3,by simp only[qA,seval];rw[←Oy,List.length_append];exact D.2.1,by simp;omega,by rw[List.append_assoc];exact r⟩
   ·rw[vJ,if_neg h,List.nil_append]at r
    exact cU ⟨_,_,s.1,s.2,L,rfl,by simp only[qA,seval,h2],by simp only[qA,seval,h3],by simp only[qA,seval],by simp only[qA,seval],by simp only[qA,seval],F,H,by simp only[qA,seval,h5];exact K,by omega,r⟩
  ·obtain rfl:k=z.sh.length:=yv
   rw[Mf]at r
   have D:=D 52596000
   have W:=(D.2.2 2 xW).trans F
   have p3:=(D.2.2 3 xW).trans H
   simp only[qB,seval,repl,mc,h2,h3,h5,h6,N,U,F,H,X.lenI,Int.lt_irrefl,Int.le_refl,hw,mM,pM,K.notS,D.1,W]
   refine qx (fun h=> ?_) (fun h=> ?_)
   ·rw[vJ,if_pos h]at r
    exact cU ⟨_,_,I,J,L++ [(max I A,min 52596000 B,J)],rfl,by simp only[qA,seval,h2],by simp only[qA,seval,h3],by simp only[qA,seval,h6],by simp only[qA,seval,N],by simp only[qA,seval],W,p3,by simp only[qA,seval];rw[←Oy,List.length_append];exact D.2.1,by simp;omega,by rw[qM,List.append_nil];exact r⟩
   ·rw[vJ,if_neg h,List.append_nil]at r
    exact cU ⟨_,_,I,J,L,rfl,by simp only[qA,seval,h2],by simp only[qA,seval,h3],by simp only[qA,seval,h6],by simp only[qA,seval,N],by simp only[qA,seval],F,H,by simp only[qA,seval,h5];exact K,by omega,by rw[qM,List.append_nil];exact r⟩
 ·rintro _ ⟨fr,lh,I,J,L,rfl,h2,h3,h6,N,U,F,H,K,hL,r⟩
  rw[qM,List.append_nil]at r
  subst r
  have O: ¬((z.sh.length+1:Nat):Int)≤z.sh.length:=yv
  simp only[qA,seval,mc,h2,U,F,X.lenI,O]
  exact fv ⟨rfl,(by simp only[qA,seval];exact K),by omega,rfl⟩
theorem YI(sp:T)(I:sp= .agg [.i .i64 A,.i .i64 B]):ae pE 265 [.agg (l9 z a),sp] []=some (bA (jc A B 0 z.o z.sh).length (yo (jc A B 0 z.o z.sh)),[]):=by
 subst I
 have hL:=fun fr lh sh h2 h3 h5 h6 r D F H=>aDF z a hz hlen A B fr lh sh h2 h3 h5 h6 r D F H
 have J:=fun m keep fr lh sh h2 h3 h5 h6 r D F H=>bg.fzW (m:=m) (keep:=keep) (sh:=sh) (hL fr lh sh h2 h3 h5 h6 r D F H).2.1
 have SU:=fun keep fr lh sh h2 h3 h5 h6 r D F H=>bg.fzV (keep:=keep) (sh:=sh) (hL fr lh sh h2 h3 h5 h6 r D F H).2.1
 obtain⟨K,N,hc⟩:=hz
 unfold l9 at hL J SU ⊢
 rw[au ahx (by simp[Un])]
 simp only[qA,seval,Un,hL,SU,xk]
end
theorem aeh(c f t:Int):ae pE 173 [.i .i64 c,.i .i64 f,.i .i64 t] []=some (.b (dw c f t),[]):=by
 rw[au U0 (by simp[EJ])]
 unfold dw
 by_cases h1:f≤t
 ·by_cases h2:f≤c <;> by_cases h3:c<t <;> simp only[qA,seval,EJ,h1,h2,h3]
 ·by_cases h2:f≤c <;> by_cases h3:c<t <;> simp only[qA,seval,EJ,h1,h2,h3,or_true,or_false,or_self]
def SpB(A B f t:Int):Prop:=0≤A∧A≤B∧B≤52596000∧0≤f∧f<1440∧0≤t∧t<1440
section
variable(z:Zo)(a:T)(hz:ZoT z a)(hv:gv z=0)(A B f t:Int)(hs:SpB A B f t)
include hz hv hs
theorem aei:ae pE 222 [.agg (l9 z a),.agg [.i .i64 A,.i .i64 B],.i .i64 f,.i .i64 t] []=some (.i .i64 0,[]):=by
 obtain⟨D,s2,s3,F,H,I,J⟩:=hs
 obtain⟨K,r,hc⟩:=hz
 have h1:=Bv z a K r hc
 rw[hv]at h1
 have h2:ae pE 263 [.agg [.i .i64 A,.i .i64 B]] []=some (.b true,[]):=by
  rw[au ahv (by simp[Ul])]
  simp only[qA,seval,Ul,D,s2,s3]
 have h3: ∀x:Int,0≤x→x<1440→ae pE 264 [.i .i64 x] []=some (.b true,[]):=by
  intro x x1 x2
  rw[au ahw (by simp[Um])]
  simp only[qA,seval,Um,x1,x2]
 have h4:=h3 f F H
 have h5:=h3 t I J
 unfold l9
 rw[au ag3 (by simp[T7])]
 simp only[qA,seval,T7,h1,h2,h4,h5,r.froz1,M7,auu,auv]
theorem YJ:ae pE 171 [.agg (l9 z a),.agg [.i .i64 A,.i .i64 B],.i .i64 f,.i .i64 t] []=some (.i .i64 0,[]):=by
 obtain⟨D,s2,s3,N,O,U,V⟩:=hs
 obtain⟨F,r,hc⟩:=hz
 have h1:=Bw z a F r hc
 rw[hv]at h1
 have h2:ae pE 238 [.agg [.i .i64 A,.i .i64 B]] []=some (.b true,[]):=by
  rw[au ahj (by simp[Ue])]
  simp only[qA,seval,Ue,D,s2,s3]
 have H: ¬f<0:=yv
 have I: ¬(1439:Int)<f:=yv
 have J: ¬t<0:=yv
 have K: ¬(1439:Int)<t:=yv
 unfold l9
 rw[au agy (by simp[TK])]
 simp only[qA,seval,TK,h1,h2,H,I,J,K,r.froz1,UR,auo]
theorem aDG(fr:Fr)(lh:aD ah)(sh:List ah)(h2:aa fr 2= .i .i64 f)(h3:aa fr 3= .i .i64 t)(h4:aa fr 4= .ptr .L 4 1 0)(h5:aa fr 5= .ptr .L 5 1 0)(r:aa fr 11= .i .i64 0)(D:aa fr 12= .i .i64 A)(I:ab lh 4=⟨1,.cells (l9 z a) 0 true⟩)(J:ab lh 5=⟨1,.cells [.i .i64 A,.i .i64 B] 0 true⟩):
  pT 47 sU fr lh sh (.ext 0)∧
  (aa (mY pE 47 sU fr lh sh) 11= .i .i64 (z.bandM A B f t)∧iH pE 47 sU fr lh sh=sh):=by
 obtain⟨s1,s2,s3,f1,f2,t1,t2⟩:=hs
 have K:=fun x=>pf z a hz (iq hv).2.1 hv x
 have N:froz1 a=true:=by obtain⟨cc,X,_⟩:=hz;exact X.froz1
 unfold l9 at I K
 refine eu (fun k st=> ∃(fr:Fr) (lh:aD ah),st=⟨fr,lh,sh⟩∧aa fr 2= .i .i64 f∧aa fr 3= .i .i64 t∧aa fr 4= .ptr .L 4 1 0∧aa fr 5= .ptr .L 5 1 0∧aa fr 11= .i .i64 (j0 (fun x=>dw (z.clk x) f t) A k)∧aa fr 12= .i .i64 (A+k)∧ab lh 4=⟨1,.cells [.s z.nm,.i .i64 z.o,a] 0 true⟩∧ab lh 5=⟨1,.cells [.i .i64 A,.i .i64 B] 0 true⟩)
  (fun Y aU Z=>aa Y 11= .i .i64 (z.bandM A B f t)∧Z=sh) _ (B-A).toNat ?_ ?_ fr lh sh ⟨fr,lh,rfl,h2,h3,h4,h5,r,by rw[D];simp,I,J⟩
 ·rintro k _ hk ⟨fr,lh,rfl,h2,h3,h4,h5,r,D,I,J⟩
  have F:A+k<B:=yv
  have hi:nQ (A+k)=true:=by unfold nQ;simp only[Bool.and_eq_true,decide_eq_true_eq];omega
  obtain⟨w,nr⟩:=Mc z a hz hv (A+k) hi
  have H:=xt _ nr
  have O:=aeh (z.clk (A+k)) f t
  have rG:=zu (fun x=>dw (z.clk x) f t) A k
  have V:wr .i64 (A+k+1)=A+((k+1:Nat):Int):=by rw[bj yv];omega
  have U:wr .i64 (j0 (fun x=>dw (z.clk x) f t) A k+1)=j0 (fun x=>dw (z.clk x) f t) A k+1:=bj yv
  have iw:j0 (fun x=>dw (z.clk x) f t) A (k+1)=j0 (fun x=>dw (z.clk x) f t) A k+if dw (z.clk (A+k)) f t=true then 1 else 0:=rfl
  have RF:=K (A+k)
  rw[show(A+k+z.off (A+k))%1440=z.clk (A+k)from rfl]at H
  generalize j0 (fun x=>dw (z.clk x) f t) A k=q at*
  generalize z.clk (A+k)=cl at*
  generalize (A+k+z.off (A+k))/1440=dy at*
  generalize W:A+k+z.off (A+k)=m at*
  generalize A+(k:Int)=x at*
  have aIt:=H
  rw[iw]
  cases hb:dw cl f t <;> rw[hb]at O
  ·simp only[qA,seval,sU,h2,h3,h4,h5,r,D,I,J,F,RF,W,w,H,O,V,N,UD,Nc,U1]
   exact cU ⟨_,_,rfl,by simp only[qA,seval,h2],by simp only[qA,seval,h3],by simp only[qA,seval,h4],by simp only[qA,seval,h5],by simp only[qA,seval,r,Int.add_zero],by simp only[qA,seval],by simp only[I],by simp only[J]⟩
  ·simp only[qA,seval,sU,h2,h3,h4,h5,r,D,I,J,F,RF,W,w,H,O,V,U,N,UD,Nc,U1]
   exact cU ⟨_,_,rfl,by simp only[qA,seval,h2],by simp only[qA,seval,h3],by simp only[qA,seval,h4],by simp only[qA,seval,h5],by simp only[qA,seval],by simp only[qA,seval],by simp only[I],by simp only[J]⟩
 ·rintro _ ⟨fr,lh,rfl,h2,h3,h4,h5,r,D,I,J⟩
  have F: ¬A+(((B-A).toNat:Nat):Int)<B:=yv
  simp only[qA,seval,sU,h5,D,J,F]
  exact fv ⟨rfl,by simp only[qA,seval,r];rfl,rfl⟩
theorem alW:ae pE 98 [.agg (l9 z a),.agg [.i .i64 A,.i .i64 B],.i .i64 f,.i .i64 t] []=some (.tup [.i .i64 (z.bandM A B f t),.i .i64 0],[]):=by
 have hL:=fun fr lh sh h2 h3 h4 h5 r D F H=>aDG z a hz hv A B f t hs fr lh sh h2 h3 h4 h5 r D F H
 have h1:=YJ z a hz hv A B f t hs
 obtain⟨J,I,hc⟩:=hz
 unfold l9 at h1 hL ⊢
 rw[au ath (by simp[c98])]
 simp only[qA,seval,c98,h1,hL,I.froz1,atS]
end
def KK(l:List (Int×Int)):List T:=l.flatMap fun x=> [.i .i64 x.1,.i .i64 x.2]
theorem Oz(a b:List (Int×Int)):KK (a++b)=KK a++KK b:=by grind [KK]
theorem zw(l:List (Int×Int)):(KK l).length=l.length*2:=iT (sz:=2) (fun _=>rfl) l
def gn(l:List (Int×Int)):Int:=(l.map fun x=>x.2-x.1).sum
theorem lU(a b:List (Int×Int)):gn (a++b)=gn a+gn b:=by grind [gn]
theorem lV(x:Int×Int):gn [x]=x.2-x.1:=by simp[gn]
def yL(lh:aD ah)(v:T)(R:List (Int×Int)):Prop:=
 (R= []∧v= .nilsl)∨ ∃R' x g,R=R'++ [x]∧v= .isl .L 109 g 0 (R'.length+1) 2∧ab lh 109=⟨g,.cells (KK R'++ [.i .i64 x.1,.i .i64 x.2]) 0 false⟩
def vK(R:List (Int×Int)):Prop:= ∀x∈R,0≤x.1∧x.1≤x.2∧x.2≤52596000
theorem alX(R:List (Int×Int))(a b:T):(KK R++ [a,b])[R.length*2+1]? =some b:=by
 grind [zw]
theorem Mg(R:List (Int×Int))(a b c:T):splice (KK R++ [a,b]) (R.length*2+1) [c]=KK R++ [a,c]:=by
 have r: ∀(cs:List T),splice (cs++ [a,b]) (cs.length+1) [c]=cs++ [a,c]:=by
  intro cs
  induction cs with
  |nil=>rfl
  |cons x cs ih=>rw[List.cons_append,List.length_cons,splice,ih];rfl
 grind [zw]
theorem OA(R:List (Int×Int))(a b:T):(KK R++ [a,b]).length=R.length*2+2:=by rw[List.length_append,zw];rfl
theorem aej{n:Nat}:((n+1)*2=n*2+2)=True:=by simp;omega
section
variable(f t o p q:Int)(hf:0≤f∧f<1440)(hl:1≤cN f t∧cN f t<1440)(ho: -840≤o∧o≤840)(hp:0≤p)(hq:p<q∧q≤52596000)
include hf hl ho hp hq
theorem aDH(R0:List (Int×Int))(hB0:vK R0)(Ha:R0.length≤1000000)(lo:Int)(N:Nat)(hlo: -10≤lo)(hN:lo+N≤40000)(g:Nat)(fr:Fr)(lh:aD ah)(sh:List ah)(h2:aa fr 2= .i .i64 f)(r:aa fr 10= .i .i64 (cN f t))(D:yL lh (aa fr 11) R0)(I:aa fr 13= .ptr .L 13 g 0)(H:aa fr 16= .i .i64 (lo+N-1))(O:aa fr 18= .i .i64 lo)(RG:ab lh 13=⟨g,.cells [.i .i64 p,.i .i64 q,.i .i64 o] 0 true⟩):
  pT 113 gf fr lh sh (.ext 2)∧
  (∃R,yL (im pE 113 gf fr lh sh) (aa (mY pE 113 gf fr lh sh) 11) R∧vK R∧gn R=gn R0+qL (f-o) (cN f t) p q lo N∧R.length≤R0.length+N∧iH pE 113 gf fr lh sh=sh):=by
 refine eu (fun k st=> ∃(fr:Fr) (lh:aD ah) (R:List (Int×Int)),st=⟨fr,lh,sh⟩∧yL lh (aa fr 11) R∧vK R∧gn R=gn R0+qL (f-o) (cN f t) p q lo k∧R.length≤R0.length+k∧aa fr 2= .i .i64 f∧aa fr 10= .i .i64 (cN f t)∧aa fr 13= .ptr .L 13 g 0∧aa fr 16= .i .i64 (lo+N-1)∧aa fr 18= .i .i64 (lo+k)∧ab lh 13=⟨g,.cells [.i .i64 p,.i .i64 q,.i .i64 o] 0 true⟩)
  (fun bK aU aX=> ∃R,yL aU (aa bK 11) R∧vK R∧gn R=gn R0+qL (f-o) (cN f t) p q lo N∧R.length≤R0.length+N∧aX=sh) _ N ?_ ?_ fr lh sh ⟨fr,lh,R0,rfl,D,hB0,by simp[qL],by omega,h2,r,I,H,by rw[O];simp,RG⟩
 ·rintro k _ hk ⟨fr,lh,R,rfl,Y,V,hs,hlen,h2,r,I,H,O,RG⟩
  have F:lo+k≤lo+N-1:=yv
  have fG:qL (f-o) (cN f t) p q lo (k+1)=qL (f-o) (cN f t) p q lo k+Md (f-o) (cN f t) p q (lo+k):=rfl
  have Z:wr .i64 (lo+k+1)=lo+((k+1:Nat):Int):=by rw[bj yv];omega
  have w2:wr .i64 ((lo+k)*1440)=1440*(lo+k):=by rw[bj yv];omega
  have w3:wr .i64 (1440*(lo+k)+f)=1440*(lo+k)+f:=bj yv
  have w4:wr .i64 (1440*(lo+k)+f-o)=1440*(lo+k)+(f-o):=by rw[bj yv];omega
  have w5:wr .i64 (1440*(lo+k)+(f-o)+cN f t)=1440*(lo+k)+(f-o)+cN f t:=bj yv
  rw[fG]
  unfold Md
  generalize cN f t=len at*
  generalize lo+(k:Int)=d at*
  generalize hS:1440*d+(f-o)=S at*
  have hA:0≤max S p:=yv
  have hE:min (S+len) q≤52596000:=yv
  generalize J:max S p=a at*
  generalize Nz:min (S+len) q=e at*
  by_cases K:e≤a
  ·rw[if_neg yv,Int.add_zero]
   simp only[qA,seval,gf,h2,r,I,H,O,RG,F,Z,w2,w3,w4,w5,J,Nz,mM,pM,K]
   exact cU ⟨_,_,R,rfl,by simp only[qA,seval];exact Y,V,hs,by omega,by simp only[qA,seval,h2],by simp only[qA,seval,r],by simp only[qA,seval,I],by simp only[qA,seval,H],by simp only[qA,seval],RG⟩
  ·have aDJ:a<e:=yv
   rw[if_pos aDJ]
   have Cl:(R.length+1)*16≤roomy:=by unfold roomy;omega
   rcases Y with⟨rfl,D⟩|⟨R',x,g',rfl,D,aw9⟩
   ·have Cl:16≤roomy:=by unfold roomy;omega
    simp only[qA,seval,appW,repl,gf,h2,r,D,I,H,O,RG,F,Z,w2,w3,w4,w5,J,Nz,mM,pM,K,Int.lt_irrefl,Cl]
    refine cU ⟨_,_,[(a,e)],rfl,.inr ⟨[],(a,e),(ab lh 109).g+1,rfl,by simp only[qA,seval],by simp only[qA,seval];rfl⟩, ?_, ?_,by simp;omega,by simp only[qA,seval,h2],by simp only[qA,seval,r],by simp only[qA,seval,I],by simp only[qA,seval,H],by simp only[qA,seval],by simp only[qA,seval,RG]⟩
    ·intro y hy
     grind
    grind [lV,gn]
   ·rw[List.length_append]at Cl hlen
    simp only[List.length_cons,List.length_nil,Nat.zero_add]at Cl hlen
    have yy:(0:Int)<((R'.length+1:Nat):Int):=yv
    have W:wr .i64 (((R'.length+1:Nat):Int)-1)=(R'.length:Int):=by rw[bj yv];omega
    have dh:=alX R' (.i .i64 x.1) (.i .i64 x.2)
    have kg:=OA R' (.i .i64 x.1) (.i .i64 x.2)
    have X:=Mg R' (.i .i64 x.1) (.i .i64 x.2) (.i .i64 e)
    have hx:=V x xv
    rw[lU,lV]at hs
    by_cases U:x.2=a
    ·rw[U]at dh kg X
     simp only[qA,seval,appW,repl,gf,h2,r,D,I,H,O,RG,aw9,F,Z,w2,w3,w4,w5,J,Nz,mM,pM,K,yy,W,dh,U,kg,X,Nat.lt_succ_self,Int.natCast_nonneg]
     refine cU ⟨_,_,R'++ [(x.1,e)],rfl,.inr ⟨R',(x.1,e),g',rfl,by simp only[qA,seval,D],by simp only[qA,seval]⟩, ?_, ?_,by simp;omega,by simp only[qA,seval,h2],by simp only[qA,seval,r],by simp only[qA,seval,I],by simp only[qA,seval,H],by simp only[qA,seval],by simp only[qA,seval,RG]⟩
     ·intro y hy
      rcases List.mem_append.1 hy with hy|hy
      ·exact V y (by simp[hy])
      ·grind
     ·rw[lU,lV];simp only;omega
    ·simp only[qA,seval,appW,repl,gf,h2,r,D,I,H,O,RG,aw9,F,Z,w2,w3,w4,w5,J,Nz,mM,pM,K,yy,W,dh,U,kg,Nat.lt_succ_self,Int.natCast_nonneg,aej,Cl]
     refine cU ?_
     refine⟨_,_,R'++ [x]++ [(a,e)],rfl,.inr ⟨R'++ [x],(a,e),g'+1,rfl,by simp only[qA,seval];simp,by simp only[qA,seval];rw[Oz];rfl⟩, ?_, ?_,by simp;omega,by simp only[qA,seval,h2],by simp only[qA,seval,r],by simp only[qA,seval,I],by simp only[qA,seval,H],by simp only[qA,seval],by simp only[qA,seval,RG]⟩
     ·intro y hy
      rcases List.mem_append.1 hy with hy|hy
      ·exact V y hy
      ·rw[List.mem_singleton.1 hy];exact⟨hA,by show a≤e;omega,hE⟩
     ·rw[lU,lU,lV,lV];simp only;omega
 ·rintro _ ⟨fr,lh,R,rfl,Y,V,hs,hlen,h2,r,I,H,O,RG⟩
  have F: ¬lo+(N:Int)≤lo+N-1:=yv
  simp only[qA,seval,gf,H,O,F]
  exact fv ⟨rfl,R,by simp only[qA,seval];exact Y,V,hs,hlen,rfl⟩
end
theorem axc{f t o p q:Int}{fr:Fr}{lh:aD ah}{sh:List ah}{D:Option (Out×St)}(hf:0≤f∧f<1440)(hl:1≤cN f t∧cN f t<1440)(ho: -840≤o∧o≤840)(hp:0≤p)(hq:p<q∧q≤52596000)(R0:List (Int×Int))(r:vK R0)(Ha:R0.length≤1000000)(lo:Int)(N:Nat)(F: -10≤lo)(hN:lo+N≤40000)(g:Nat)(O:DC pE 113 (.loop gf) ⟨fr,lh,sh⟩=D)(h2:aa fr 2= .i .i64 f)(H:aa fr 10= .i .i64 (cN f t))(I:yL lh (aa fr 11) R0)(U:aa fr 13= .ptr .L 13 g 0)(V:aa fr 16= .i .i64 (lo+N-1))(W:aa fr 18= .i .i64 lo)(RG:ab lh 13=⟨g,.cells [.i .i64 p,.i .i64 q,.i .i64 o] 0 true⟩):
  ∃J K R,D=some (.ext 2,⟨J,K,sh⟩)∧yL K (aa J 11) R∧vK R∧gn R=gn R0+qL (f-o) (cN f t) p q lo N∧R.length≤R0.length+N∧ ∀s,(ch (.loop gf)).contains s=false→aa J s=aa fr s:=by
 obtain⟨e,R,X,Y,Z,r4,r5⟩:=aDH f t o p q hf hl ho hp hq R0 r Ha lo N F hN g fr lh sh h2 H I U V W RG
 unfold pT at e;rw[r5]at e
 exact⟨_,_,R,O.symm.trans e,X,Y,Z,r4,fun s hs=>fu e s hs⟩
def YK(x:Int×Int×Int):Prop:=0≤x.1∧x.1<x.2.1∧x.2.1≤52596000∧ -840≤x.2.2∧x.2.2≤840
theorem OB{a b o:Int}(r:0≤a)(D:b≤52596000)(ho: -840≤o∧o≤840): ∀x∈vJ a b o,YK x:=by
 intro x hx
 unfold vJ at hx
 split at hx
 ·rw[List.mem_singleton.1 hx]
  exact⟨r,by assumption,D,ho⟩
 ·cases hx
theorem OC{o:Int}(h:qE o=true): -840≤o∧o≤840:=by
 grind [qE]
theorem OD{A B:Int}(D:0≤A)(F:B≤52596000): ∀(l:List (Int×Int)) (fr o:Int),(-840≤o∧o≤840)→(∀s∈l,qE s.2=true)→ ∀x∈jc A B fr o l,YK x
 | [],fr,o,ho,hl,x,hx=>by
   rw[jc]at hx
   exact OB yv yv ho x hx
 |s::r,fr,o,ho,hl,x,hx=>by
  rw[jc,List.mem_append]at hx
  rcases hx with hx|hx
  ·exact OB yv yv ho x hx
  ·exact OD D F r s.1 s.2 (OC (hl s xv)) (fun y H=>hl y (by simp[H])) x hx
theorem aek{f t:Int}(hf:0≤f∧f<1440)(r:0≤t∧t<1440)(hl:cN f t≠0){p q o:Int}(h:p<q):qL (f-o) (cN f t) p q ((p+o)/1440-1) ((q-1+o)/1440-((p+o)/1440-1)+1).toNat=qK (fun x=>dw ((x+o)%1440) f t) p q:=by
 have h1:=JA (o:=o) (p:=p) hf r hl ((p+o)/1440-1) ((q-1+o)/1440-((p+o)/1440-1)+1).toNat (Int.le_refl _) (q-p).toNat (by
  rw[show p+((q-p).toNat:Int)=q by omega]
  omega)
 rw[show p+((q-p).toNat:Int)=q by omega]at h1
 rw[h1];rfl
theorem rl1{r k n:Nat}(h:r≤40000*k)(hk:k<n)(D:n≤17):r≤1000000:=yv
theorem rl2{r s N k:Nat}(h:s≤r+N)(h1:r≤40000*k)(h2:N≤40000):s≤40000*(k+1):=yv
theorem rl3{r n:Nat}(h:r≤40000*n)(D:n≤17):r≤1000000:=yv
theorem alY{p q o:Int}(h:YK (p,q,o)): -2≤(p+o)/1440∧(q-1+o)/1440≤36527∧(p+o)/1440≤(q-1+o)/1440:=by
 obtain⟨h1,h2,h3,h4,h5⟩:=h
 grind
theorem axd(L:List (Int×Int×Int))(j:Nat)(D:j<L.length): ∃r,∀kk,iaV (bA L.length (yo L)) (.i kk (j:Int)) 3=some (.vp (.i .i64 L[j].1:: .i .i64 L[j].2.1:: .i .i64 L[j].2.2::r)):=by
 have hs:IsSl (bA L.length (yo L)) L.length (yo L):=fe fun h=>by rw[List.length_eq_zero_iff.1 h];rfl
 have hlen:(yo L).length=L.length*3:=iT (sz:=3) (fun _=>rfl) L
 refine⟨yo (L.drop (j+1)),fun kk=> ?_⟩
 rw[hs.ia hlen D]
 have:yo L=yo (L.take j)++yo (L.drop j):=by rw[←Ox,List.take_append_drop]
 have SD:(yo (L.take j)).length=j*3:=by rw[show(yo (L.take j)).length=(L.take j).length*3 from iT (sz:=3) (fun _=>rfl) _,List.length_take,Nat.min_eq_left yv]
 rw[this,List.drop_append,SD,Nat.sub_self,List.drop_zero,List.drop_eq_nil_of_le yv,List.nil_append,List.drop_eq_getElem_cons D]
 rfl
section
variable(f t A B:Int)(hs:SpB A B f t)(hl:cN f t≠0)(L:List (Int×Int×Int))(hL: ∀x∈L,YK x)(hLl:L.length≤17)
include hs hl hL hLl
theorem aDL(fr:Fr)(lh:aD ah)(sh:List ah)(h2:aa fr 2= .i .i64 f)(r:aa fr 10= .i .i64 (cN f t))(O:aa fr 11= .nilsl)(H:aa fr 32=bA L.length (yo L))(Bs:aa fr 33= .i .i64 (L.length:Int))(KL:aa fr 34= .i .i64 0):
  pT 113 jC fr lh sh (.ext 0)∧
  (∃R,yL (im pE 113 jC fr lh sh) (aa (mY pE 113 jC fr lh sh) 11) R∧vK R∧gn R=tC (fun x=>dw ((x.1+x.2)%1440) f t) L∧R.length≤1000000∧iH pE 113 jC fr lh sh=sh):=by
 obtain⟨s1,s2,s3,f1,f2,t1,t2⟩:=hs
 have hb:1≤cN f t∧cN f t<1440:=by unfold cN at hl ⊢; omega
 refine eu (fun k st=> ∃(fr:Fr) (lh:aD ah) (R:List (Int×Int)),st=⟨fr,lh,sh⟩∧yL lh (aa fr 11) R∧vK R∧gn R=tC (fun x=>dw ((x.1+x.2)%1440) f t) (L.take k)∧R.length≤40000*k∧aa fr 2= .i .i64 f∧aa fr 10= .i .i64 (cN f t)∧aa fr 32=bA L.length (yo L)∧aa fr 33= .i .i64 (L.length:Int)∧aa fr 34= .i .i64 (k:Int))
  (fun F aU aX=> ∃R,yL aU (aa F 11) R∧vK R∧gn R=tC (fun x=>dw ((x.1+x.2)%1440) f t) L∧R.length≤1000000∧aX=sh) _ L.length ?_ ?_ fr lh sh ⟨fr,lh,[],rfl,.inl ⟨rfl,O⟩,(fun x hx=>by cases hx),rfl,by simp,h2,r,H,Bs,KL⟩
 ·rintro k _ hk ⟨fr,lh,R,rfl,U,V,K,hlen,h2,r,H,Bs,KL⟩
  have W:(k:Int)<L.length:=yv
  have hw:=aG (k:=k) yv
  obtain⟨rr,I⟩:=axd L k hk
  have hx:=hL _ (List.getElem_mem hk)
  have iw:tC (fun x=>dw ((x.1+x.2)%1440) f t) (L.take (k+1))=tC (fun x=>dw ((x.1+x.2)%1440) f t) (L.take k)+qK (fun x=>dw ((x+L[k].2.2)%1440) f t) L[k].1 L[k].2.1:=by
   rw[List.take_succ_eq_append_getElem hk,JB];simp[tC]
  rw[iw]
  generalize L[k]=x at*
  obtain⟨p,q,o⟩:=x
  obtain⟨b1,b2,b3⟩:=alY hx
  obtain⟨x1,x2,x3,x4⟩:=hx
  simp only at x1 x2 x3 x4 I ⊢
  have X:=aek (o:=o) ⟨f1,f2⟩ ⟨t1,t2⟩ hl x2
  have w1:wr .i64 (p+o)=p+o:=bj yv
  have w2:wr .i64 (q-1)=q-1:=bj yv
  have w3:wr .i64 (q-1+o)=q-1+o:=bj yv
  have q1:=xq (p+o) (by unfold yn;omega)
  have q2:=xq (q-1+o) (by unfold yn;omega)
  generalize (p+o)/1440=d1 at*
  generalize (q-1+o)/1440=d2 at*
  have w4:wr .i64 (d1-1)=d1-1:=bj yv
  have Y:d2=d1-1+((d2-(d1-1)+1).toNat:Int)-1:=yv
  have Z:d1-1+((d2-(d1-1)+1).toNat:Int)≤40000:=yv
  generalize (d2-(d1-1)+1).toNat=N at*
  have hN3:N≤40000:=yv
  generalize (p+o)%1440=e1 at*
  generalize (q-1+o)%1440=e2 at*
  simp only[qA,seval,jC,H,Bs,KL,W,I,w1,w2,w3,w4,q1,q2,ag8]
  generalize hD:DC pE 113 (.loop gf) _=D
  obtain⟨F,aU,R',rfl,r1,r2,r3,r4,J⟩:=axc ⟨f1,f2⟩ hb ⟨x4.1,x4.2⟩ x1 ⟨x2,x3⟩ R V (rl1 hlen hk hLl) (d1-1) N yv Z ((ab lh 13).g+1) hD (by simp only[qA,seval,h2]) (by simp only[qA,seval,r]) (by
   rcases U with⟨e1,e2⟩|⟨R1,y,g',e1,e2,e3⟩
   ·exact .inl ⟨e1,by simp only[qA,seval,e2]⟩
   ·exact .inr ⟨R1,y,g',e1,by simp only[qA,seval,e2],by simp only[qA,seval,e3]⟩) wW (by simp only[qA,seval,←Y]) wW wW
  have g2:aa F 2= .i .i64 f:=by rw[J 2 xW];simp only[qA,seval,h2]
  have g10:aa F 10= .i .i64 (cN f t):=by rw[J 10 xW];simp only[qA,seval,r]
  have g32:aa F 32=bA L.length (yo L):=by rw[J 32 xW];simp only[qA,seval,H]
  have g33:aa F 33= .i .i64 (L.length:Int):=by rw[J 33 xW];simp only[qA,seval,Bs]
  have g34:aa F 34= .i .i64 (k:Int):=by rw[J 34 xW];simp only[qA,seval,KL]
  rw[X]at r3
  simp only[qA,seval,g34,hw]
  refine cU ⟨_,_,R',rfl,by simp only[qA,seval];exact r1,r2,by rw[r3,K],rl2 r4 hlen hN3,by simp only[qA,seval,g2],by simp only[qA,seval,g10],by simp only[qA,seval,g32],by simp only[qA,seval,g33],by simp only[qA,seval]⟩
 ·rintro _ ⟨fr,lh,R,rfl,U,V,K,hlen,h2,r,H,Bs,KL⟩
  rw[List.take_length]at K
  simp only[qA,seval,jC,Bs,KL,Int.lt_irrefl]
  exact fv ⟨rfl,R,by simp only[qA,seval];exact U,V,K,rl3 hlen hLl,rfl⟩
end
end Go.Proofs.YtnkgnjecmfkcfaaGreat
