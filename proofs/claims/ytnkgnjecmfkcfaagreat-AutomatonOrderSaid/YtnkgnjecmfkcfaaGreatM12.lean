/- Walks of functions of the program and of the reference, and their plain laws, part 12. Conditions: the theorems' own. -/
import Derived.Test.YtnkgnjecmfkcfaaGreatGS
import Derived.Test.YtnkgnjecmfkcfaaGreatM4
import Derived.Test.YtnkgnjecmfkcfaaGreatM5
import Derived.Test.YtnkgnjecmfkcfaaGreatM11
import Derived.KernelRfl
set_option maxRecDepth 100000
set_option linter.unusedSimpArgs false
set_option linter.unusedVariables false
set_option maxHeartbeats 16000000
namespace Go.Proofs.YtnkgnjecmfkcfaaGreat
open Go Go.Ev
theorem aw0.fz{lh:aE ah}{sh:List ah}{v:T}{R:List (Int×Int)}{m:Nat}(h:aw0 lh v R): ∃w u,Ev.fzW m lh sh false v=some (w,u)∧IsSl w R.length (rnC R)∧AE sh u=sh:=by
 rcases h with⟨rfl,rfl⟩|⟨R',x,g,rfl,rfl,h⟩
 ·exact⟨.nilsl,[],wP rfl,.inl ⟨rfl,rfl,rfl⟩,rfl⟩
 ·have r:=adA R' (.i .i64 x.1) (.i .i64 x.2)
  refine⟨_,_,by rw[EN,h,oK,if_pos ⟨rfl,by rw[r];omega⟩],.inr ⟨false, ?_⟩,rfl⟩
  rw[List.drop_zero,List.take_of_length_le (by rw[r];omega),ady,List.length_append];rfl
section
variable(z:Zo)(a:T)(hz:ZoT z a)(hv:gG z=0)(A B f t:Int)(hs:SpB A B f t)
include hz hv hs
end
theorem Xt{α:Type}{f:α→List Nat}: ∀{l:List α},(l.map f).Nodup→ ∀a∈l,∀b∈l,f a=f b→a=b
 | [],_,a,r,_,_,_=>by cases r
 |x::l,h,a,r,b,D,e=>by
  rw[List.map_cons,List.nodup_cons]at h
  rcases List.mem_cons.1 r with p|p <;> rcases List.mem_cons.1 D with q|q
  ·rw[p,q]
  ·exact absurd (List.mem_map.2 ⟨b,q,by rw[←e,p]⟩) h.1
  ·exact absurd (List.mem_map.2 ⟨a,p,by rw[e,q]⟩) h.1
  ·exact Xt h.2 a p b q e
theorem NK{α:Type}{f:α→List Nat}: ∀{l:List α},(l.map f).Nodup→ ∀a∈l,l.find? (fun x=>f x==f a)=some a:=by
 intro l h a D
 cases r:l.find? (fun x=>f x==f a)with
 |none=>
  have:=List.find?_eq_none.1 r a D
  simp at this
 |some b=>
  have h1:=List.mem_of_find?_eq_some r
  have h2:=List.find?_some r
  rw[Xt h b h1 a D (by simpa using h2)]
def zo0:Zo:=⟨[],0,[]⟩
def Fc(t:Tt)(s:List Nat):Zo:=match t.ap.find? fun u=>u.cd==s with
 |some u=>(t.zo.find? fun z=>z.nm==u.zn).getD zo0
 |none=>zo0
theorem Xu{t:Tt}(ht:pG t=0){u:Ap}{z:Zo}{s:List Nat}(r:u∈t.ap)(hz:z∈t.zo)(h1:u.cd=s)(h2:z.nm=u.zn):Fc t s=z:=by
 obtain⟨D,_,F,_⟩:=Lw t ht
 subst h1
 unfold Fc
 rw[NK F u r]
 simp only
 rw[←h2,NK D z hz];rfl
theorem ald{t:Tt}(ht:pG t=0){s:List Nat}(hs:s∈t.ap.map Ap.cd): ∃u∈t.ap,u.cd=s∧ ∃z∈t.zo,z.nm=u.zn∧Fc t s=z:=by
 obtain⟨_,h2,_,_⟩:=uU t ht
 obtain⟨u,r,h1⟩:=List.mem_map.1 hs
 obtain⟨z,hz,h3⟩:=List.mem_map.1 (h2 u r)
 exact⟨u,r,h1,z,hz,h3,Xu ht r hz h1 h3⟩
theorem Fe{t:Tt}(ht:pG t=0){s:List Nat}(hs:s∈t.ap.map Ap.cd):gG (Fc t s)=0:=by
 obtain⟨u,_,_,z,hz,_,h⟩:=ald ht hs
 rw[h];exact(uU t ht).1 z hz
theorem nM{t:Tt}(ht:pG t=0){f:Fl}(D:f∈t.fl):f.fr∈t.ap.map Ap.cd∧f.to∈t.ap.map Ap.cd:=by
 have h:=(uU t ht).2.2.1 f D
 unfold Ce at h
 split at h
 ·cases h
 split at h
 ·cases h
 split at h
 ·cases h
 rename_i q
 split at h
 ·cases h
 rename_i r
 exact⟨by simpa using q,by simpa using r⟩
theorem adB{c:Ct}(h:eV c=0):0≤c.nf∧c.nf≤1439∧0≤c.nt∧c.nt≤1439:=by
 unfold eV at h
 split at h
 ·rename_i q;exact absurd h q
 rename_i g
 have g:fR c=0:=zZ
 unfold fR at g
 split at g
 ·cases g
 rename_i r
 have r:j4 c=true:=by simpa using r
 unfold j4 at r
 simp only[Bool.and_eq_true,E7]at r
 omega
def tg(c:Ct)(f:Fl):Int:=f.dp-c.rp
def th(c:Ct)(g:Fl):Int:=g.ar+c.rl
def LD(t:Tt)(c:Ct)(f g:Fl):Int:=if tg c f<th c g then(Fc t f.fr).bandM (tg c f) (th c g) c.nf c.nt else 0
def QS(t:Tt)(c:Ct)(f g:Fl):Int:=max ((Fc t f.fr).off (tg c f)-(Fc t g.to).off (th c g)) ((Fc t g.to).off (th c g)-(Fc t f.fr).off (tg c f))
def Xv(t:Tt)(c:Ct)(f:Fl):Int:=(Fc t f.fr).clk (tg c f)
def Xw(t:Tt)(c:Ct)(g:Fl):Int:=(Fc t g.to).clk (th c g)
theorem Xx{c:Ct}(hc:eV c=0){f g:Fl}(D:nJ f)(F:nJ g):(1440≤tg c f∧tg c f≤52593120)∧(2880≤th c g∧th c g≤52594560)∧wr .i64 (f.dp-c.rp)=tg c f∧wr .i64 (g.ar+c.rl)=th c g∧wr .i64 (th c g-tg c f)=th c g-tg c f:=by
 obtain⟨_,I,J,K,O⟩:=D
 obtain⟨_,R,U,V,W⟩:=F
 have r:=A6 c hc
 unfold tg th
 refine⟨by omega,by omega,bI zZ,bI zZ,bI zZ⟩
theorem NL{x:Int}(h:0≤x∧x<52596000):qk x=true:=by unfold qk;simp[h]
section
variable(t:Tt)(c:Ct)(zT aT fT a7 a8 a9 aw aA az:T)(vs:List T)(hT:ky t zT aT fT)(hC:kP c a7 a8 a9 aw aA az)(hV:Lv t c vs)(ht:pG t=0)(hc:eV c=0)
theorem Xy(hT:ky t zT aT fT)(i:Nat)(hi:i<t.fl.length): ∃r,ae pE 77 [stV c zT aT fT a7 a8 a9 aw aA az vs,.i .i64 (i:Int)] []=some (.vp (.s t.fl[i].nu:: .s t.fl[i].fr:: .s t.fl[i].to:: .i .i64 t.fl[i].dp:: .i .i64 t.fl[i].ar:: .s t.fl[i].ty:: .i .i64 t.fl[i].n0:: .i .i64 t.fl[i].n1:: .i .i64 t.fl[i].n2::r),[]):=by
 obtain⟨D,F,I⟩:=hT.f
 exact Ly zT aT fT (aV c a7 a8 a9 aw aA az++vs) D t.fl F I i hi
end
end Go.Proofs.YtnkgnjecmfkcfaaGreat
namespace Go.Ev
open Go
theorem Ff{E:Env}{call:jB}{n:Nat}{fr:Fr}{lh:aE ah}{sh:List ah}{os:List aF}{d bytes:Nat}{z:List T}{x:aP}(hd:d<n):ai E call n (⟨some d,.mksl z bytes x true,none⟩::os) ⟨fr,lh,sh⟩=
  (KW (rd fr x) bytes).bind fun m=>ai E call n os ⟨cL fr d (.isl .S sh.length 1 0 m z.length),lh,bD sh sh.length ⟨1,.cells (repl z m) 0 (RG z)⟩⟩:=by
 rw[ko (by rfl) (show B6 n (some d)from hd)]
 unfold one KW
 simp only[bt]
 cases asNat (rd fr x)with
 |none=>rfl
 |some m=>
  simp only[Bool.and_eq_true,decide_eq_true_eq]
  split <;> rfl
end Go.Ev
namespace Go.Proofs.YtnkgnjecmfkcfaaGreat
open Go Go.Ev
structure Cn where
 lg:Int
 hd:Int
 bk:Int
 lo:Int
 so:Int
 ks:List (List Nat)
def cn0:Cn:=⟨0,0,0,0,1440,[]⟩
def adK(s:List Nat)(l:List (List Nat)):List (List Nat):=if s∈l then l else l++ [s]
def LF(f:Fl)(h:Bool)(s:Cn):Cn:=if h=true then{s with hd:=s.hd+1}else{s with lg:=s.lg+1,bk:=s.bk+(f.ar-f.dp),ks:=adK f.ty s.ks}
def Xz(g f:Fl)(s:Cn):Cn:={s with lo:=max s.lo (f.dp-g.ar),so:=min s.so (f.dp-g.ar)}
theorem aCF(g f:Fl)(h:Bool)(s:Cn):LF f h (Xz g f s)=Xz g f (LF f h s):=by cases h <;> rfl
def I4(d:List (Int×Bool))(k:Nat):Int×Bool:=d.getD k (0,false)
def eA(fl:List Fl)(d:List (Int×Bool))(k:Nat):Fl:=flG fl (I4 d k).1
def pN(fl:List Fl)(d:List (Int×Bool)):Nat→Cn
 |0=>cn0
 |k+1=>if k=0 then LF (eA fl d k) (I4 d k).2 (pN fl d k)else Xz (eA fl d (k-1)) (eA fl d k) (LF (eA fl d k) (I4 d k).2 (pN fl d k))
def Fg(k:Nat)(s:Cn):Prop:=(0≤s.lg∧s.lg≤k)∧(0≤s.hd∧s.hd≤k)∧(0≤s.bk∧s.bk≤1440*k)∧(0≤s.lo∧s.lo≤52593120)∧(-52593120≤s.so∧s.so≤1440)∧s.ks.length≤k
theorem ale:Fg 0 cn0:=by unfold Fg cn0;simp
theorem XA{f:Fl}(r:nJ f){h:Bool}{k:Nat}{s:Cn}(hs:Fg k s):Fg (k+1) (LF f h s):=by
 obtain⟨_,D,F,I,J⟩:=r
 grind [adK,Fg,LF]
theorem XD{f g:Fl}(r:nJ f)(D:nJ g): -52593120≤f.dp-g.ar∧f.dp-g.ar≤52593120:=by
 obtain⟨_,F,I,J,K⟩:=r
 obtain⟨_,O,R,U,V⟩:=D
 omega
theorem alf{f g:Fl}(r:nJ f)(D:nJ g){k:Nat}{s:Cn}(hs:Fg k s):Fg k (Xz g f s):=by
 have:=XD r D
 grind [Fg,Xz]
theorem wW{d:List (Int×Bool)}{k:Nat}(hk:k<d.length):I4 d k=d[k]:=by grind [I4]
theorem fy{fl:List Fl}(r: ∀f∈fl,nJ f){d:List (Int×Bool)}(hd: ∀k∈d,lK fl.length k.1=true){k:Nat}(hk:k<d.length): ∃i:Nat,∃hi:i<fl.length,d[k].1=i∧eA fl d k=fl[i]∧nJ (eA fl d k):=by
 obtain⟨i,hi,e⟩:=mN (hd _ (List.getElem_mem hk))
 grind [eA,wW,ak9]
theorem LG{fl:List Fl}(r: ∀f∈fl,nJ f){d:List (Int×Bool)}(hd: ∀k∈d,lK fl.length k.1=true): ∀k,k≤d.length→Fg k (pN fl d k)
 |0,_=>ale
 |k+1,h=>by
  have ih:=LG r hd k zZ
  obtain⟨_,_,_,_,h1⟩:=fy r hd (k:=k) zZ
  rw[pN]
  split
  ·exact XA h1 ih
  ·obtain⟨_,_,_,_,h2⟩:=fy r hd (k:=k-1) zZ
   exact alf h1 h2 (XA h1 ih)
theorem aw3(s:List Nat)(l:List (List Nat))(a:T)(O:IsSl a l.length (l.map T.s))(hlen:l.length≤1000)(r:Int)(hr:r=ixA s l 0)(o:Out)(R:o=if r<0 then .ext 0 else .ret)(fr:Fr)(lh:aE ah)(sh:List ah)(h0:aa fr 0=a)(h1:aa fr 1= .s s)(F:aa fr 7= .i .i64 (l.length:Int))(I:aa fr 8= .i .i64 0):
  uL 19 qz fr lh sh o∧
  ((¬r<0→aa (pz pE 19 qz fr lh sh) 4= .i .i64 r)∧jw pE 19 qz fr lh sh=sh):=by
 refine gI (fun k st=> ∃(fr:Fr) (lh:aE ah),st=⟨fr,lh,sh⟩∧r=ixA s (l.drop k) k∧aa fr 0=a∧aa fr 1= .s s∧aa fr 7= .i .i64 (l.length:Int)∧aa fr 8= .i .i64 (k:Int))
  (fun U aU V=>(¬r<0→aa U 4= .i .i64 r)∧V=sh) _ l.length ?_ ?_ fr lh sh ⟨fr,lh,rfl,hr,h0,h1,F,I⟩
 ·rintro k _ hk ⟨fr,lh,rfl,hr,h0,h1,F,I⟩
  have J:(k:Int)<l.length:=zZ
  have W:=aG (k:=k) zZ
  have D: ∃K,∀kk,iaV a (.i kk (k:Int)) 1=some (.vp (.s l[k]::K)):=by
   refine⟨(l.map T.s).drop (k+1),fun kk=> ?_⟩
   rw[O.ia (sz:=1) zP hk,Nat.mul_one,List.drop_eq_getElem_cons (by simpa using hk),List.getElem_map]
  obtain⟨K,D⟩:=D
  rw[List.drop_eq_getElem_cons hk,ixA]at hr
  generalize l[k]=y at*
  simp only[qB,seval,qz,h0,h1,F,I,J,D,W]
  refine ET (fun h=> ?_) (fun h=> ?_)
  ·rw[if_pos h.symm]at hr
   exact sL ⟨by rw[R,if_neg zZ],fun _=>(by simp only[qA,seval,hr]),rfl⟩
  ·rw[if_neg (fun e=>h e.symm)]at hr
   exact fN ⟨_,_,rfl,hr,by simp only[qA,seval,h0],by simp only[qA,seval,h1],by simp only[qA,seval,F],by simp only[qA,seval]⟩
 ·rintro _ ⟨fr,lh,rfl,hr,h0,h1,F,I⟩
  rw[List.drop_length,ixA]at hr
  simp only[qA,seval,qz,F,I,Int.lt_irrefl]
  grind [jZ]
theorem Fh(s:List Nat)(l:List (List Nat))(a:T)(r:IsSl a l.length (l.map T.s))(hlen:l.length≤1000):ae pE 81 [a,.s s] []=some (.b (decide (s∈l)),[]):=by
 have D:=fun fr lh sh h0 h1 I J=>aw3 s l a r hlen _ rfl _ rfl fr lh sh h0 h1 I J
 have XE:=Bb s l 0
 have K:=yF s l 0
 have F:ae pE 143 [a,.s s] []=some (.i .i64 (ixA s l 0),[]):=by
  rw[av afz (by simp[O2])]
  generalize ixA s l 0=v at*
  by_cases h:v<0
  ·have e:=XE h
   subst e
   simp only[qA,seval,O2,D,r.lenI]
  ·simp only[h,if_false,not_false_eq_true,forall_const]at D
   simp only[qA,seval,O2,D,r.lenI]
 have hd:decide (s∈l)=decide (0≤ixA s l 0):=by
  grind
 rw[hd]
 rw[av as0 (by simp[c81])]
 generalize ixA s l 0=v at*
 simp only[qA,seval,c81,F,r.froz,atz]
theorem aw4{n:Nat}(h:n≤1000):(n+1)*16≤roomy:=by unfold roomy;omega
section
variable(t:Tt)(c:Ct)(zT aT fT a7 a8 a9 aw aA az:T)(vs:List T)(hT:ky t zT aT fT)(ht:pG t=0)
include hT ht
end
def eo(t:Tt)(c:Ct)(d:List (Int×Bool)):List Int:=
 [(pN t.fl d d.length).lg,(pN t.fl d d.length).hd,(pN t.fl d d.length).ks.length,(pN t.fl d d.length).bk,th c (eA t.fl d (d.length-1))-tg c (eA t.fl d 0),LD t c (eA t.fl d 0) (eA t.fl d (d.length-1)),(pN t.fl d d.length).lo,(pN t.fl d d.length).so,QS t c (eA t.fl d 0) (eA t.fl d (d.length-1)),Xv t c (eA t.fl d 0),Xw t c (eA t.fl d (d.length-1))]
section
variable(t:Tt)(c:Ct)(zT aT fT a7 a8 a9 aw aA az:T)(vs:List T)(hT:ky t zT aT fT)(hV:Lv t c vs)(ht:pG t=0)(hc:eV c=0)
include hT hV ht hc
end
theorem LH{scope:Int}{s:List Nat}{i:Nat}(h:Kb scope s=some i):(RU scope)[i]? =some s:=by
 unfold Kb dD at h
 have:=AU h
 rw[List.take_length]at this
 exact List.mk_mem_zipIdx_iff_getElem?.1 this
def LI(A:List Int):Prop:=A.length=11∧ ∀i s,bu[i]? =some s→Bc (kq s) (A.getD i 0)
theorem XF(l:Cs){A:List Int}(h:LI A):LJ (NM (E0 l) 1) (pH (fm l) 1 A):=by
 intro s t hs
 unfold NM at hs
 by_cases hz:dt 1 s≠0
 ·rw[if_pos hz]at hs
  injection hs with hs _
  subst hs
  unfold pH
  cases r:Kb 1 s with
  |none=>exact absurd ((lM 1 s).1 r) hz
  |some i=>exact h.2 i s (LH r)
 ·rw[if_neg hz]at hs
  have r:=(lM 1 s).2 (by simpa using hz)
  unfold pH
  rw[r]
  exact Fi l s t hs
theorem Bd{k k' v:Int}(h:k=k')(hv:Bc k' v):Bc k v:=h▸hv
theorem alg{v:Int}(h:bd v):Bc 1 v:= .inl ⟨.inl rfl,h⟩
theorem QT{v:Int}(h:bd v):Bc 2 v:= .inl ⟨.inr rfl,h⟩
theorem aw5{v:Int}(h:0≤v∧v≤1439):Bc 3 v:= .inr (.inl ⟨rfl,h⟩)
theorem bdE{v:Int}(h: -1000000000≤v∧v≤1000000000):bd v:=by unfold bd;omega
theorem XG(z:Zo)(x:Int):0≤z.clk x∧z.clk x≤1439:=by unfold Zo.clk;omega
theorem XH{z:Zo}{A B f t:Int}(h1:0≤A)(h2:B≤52596000):0≤z.bandM A B f t∧z.bandM A B f t≤52596000:=by
 have:=Fb (fun x=>ij (z.clk x) f t) A (B-A).toNat
 unfold Zo.bandM adw
 omega
theorem I5{t:Tt}{c:Ct}(ht:pG t=0)(hc:eV c=0){d:List (Int×Bool)}(h1:1≤d.length)(hlen:d.length≤100)(bH: ∀k∈d,lK t.fl.length k.1=true):LI (eo t c d):=by
 have F:=(j0 t ht).1
 obtain⟨c1,c2,c3,c4,Z,c6⟩:=LG F bH d.length (Nat.le_refl _)
 obtain⟨i,hi,U,I,r⟩:=fy F bH (k:=0) zZ
 obtain⟨j,J,V,K,D⟩:=fy F bH (k:=d.length-1) zZ
 obtain⟨b1,b2,_,_,_⟩:=Xx hc r D
 have O:gG (Fc t (eA t.fl d 0).fr)=0:=by rw[I];exact Fe ht (nM ht (List.getElem_mem hi)).1
 have R:gG (Fc t (eA t.fl d (d.length-1)).to)=0:=by rw[K];exact Fe ht (nM ht (List.getElem_mem J)).2
 have e1:=Zo.off_bd O (tg c (eA t.fl d 0))
 have e2:=Zo.off_bd R (th c (eA t.fl d (d.length-1)))
 have nb: -1000000000≤LD t c (eA t.fl d 0) (eA t.fl d (d.length-1))∧LD t c (eA t.fl d 0) (eA t.fl d (d.length-1))≤1000000000:=by
  unfold LD
  split
  ·have:=XH (z:=Fc t (eA t.fl d 0).fr) (A:=tg c (eA t.fl d 0)) (B:=th c (eA t.fl d (d.length-1))) (f:=c.nf) (t:=c.nt) zZ zZ
   omega
  ·omega
 have W: -1000000000≤QS t c (eA t.fl d 0) (eA t.fl d (d.length-1))∧QS t c (eA t.fl d 0) (eA t.fl d (d.length-1))≤1000000000:=by
  unfold QS;omega
 have X:0≤Xv t c (eA t.fl d 0)∧Xv t c (eA t.fl d 0)≤1439:=XG _ _
 have Y:0≤Xw t c (eA t.fl d (d.length-1))∧Xw t c (eA t.fl d (d.length-1))≤1439:=XG _ _
 refine⟨rfl,fun i s h=> ?_⟩
 unfold eo
 generalize pN t.fl d d.length=q at*
 clear e1 e2 O R U I V K hi J r D F
 match i,h with
 |0,h=>cases h;exact Bd zz (alg (bdE (by show _≤q.lg∧q.lg≤_;omega)))
 |1,h=>cases h;exact Bd zz (alg (bdE (by show _≤q.hd∧q.hd≤_;omega)))
 |2,h=>cases h;exact Bd zz (alg (bdE (by show _≤(q.ks.length:Int)∧(q.ks.length:Int)≤_;omega)))
 |3,h=>cases h;exact Bd zz (QT (bdE (by show _≤q.bk∧q.bk≤_;omega)))
 |4,h=>cases h;exact Bd zz (QT (bdE (by show _≤th c (eA t.fl d (d.length-1))-tg c (eA t.fl d 0)∧th c (eA t.fl d (d.length-1))-tg c (eA t.fl d 0)≤_;omega)))
 |5,h=>cases h;exact Bd zz (QT (bdE nb))
 |6,h=>cases h;exact Bd zz (QT (bdE (by show _≤q.lo∧q.lo≤_;omega)))
 |7,h=>cases h;exact Bd zz (QT (bdE (by show _≤q.so∧q.so≤_;omega)))
 |8,h=>cases h;exact Bd zz (QT (bdE W))
 |9,h=>cases h;exact Bd zz (aw5 X)
 |10,h=>cases h;exact Bd zz (aw5 Y)
 |n+11,h=>cases h
def oX(l:Cs)(A:List Int)(x:Ex):Int:=x.val0 (pH (fm l) 1 A)
theorem ali{l:Cs}{A:List Int}(hA:LI A){x:Ex}(hx:IE l 1 x):XI A (comp (fm l) 1 x)∧(comp (fm l) 1 x).val A=oX l A x∧ ∃k,Bc k (oX l A x):=by
 obtain⟨_,hv,k,hk⟩:=hx
 have r:=(ib hv).1
 have D:=x.nodes_eq
 obtain⟨h1,h2,h3⟩:=NN (XF l hA) (show A.length=(RU 1).length from hA.1) x k (gz hv) zZ hk
 exact⟨h1,h2,k,h3⟩
def Dx(A:List Int)(l:RL):Bool:=l.all fun u=>decide (u.2.val A≠0)
def Fj(n:Int):List Int→Int
 | []=>n
 |v::r=>Fj (wr .i64 (n+v)) r
def my(A:List Int)(l:RL):Int:=Fj 0 (l.map fun u=>u.2.val A)
theorem I6: ∀(a b:List Int) (n:Int),Fj n (a++b)=Fj (Fj n a) b
 | [],b,n=>rfl
 |v::a,b,n=>by rw[List.cons_append,Fj,Fj,I6 a b]
def xR(A:List Int)(l:RL):Int:=match l with| []=>A.getD 3 0|u::_=>u.2.val A
section
variable(c:Ct)(zT aT fT a7 a8 a9 aw aA az m r1 r2 r3 c1 c2 c3 cr nb:T)(A:List Int)(kS:T)(ew:IsSl kS A.length (ints A))
include ew
end
end Go.Proofs.YtnkgnjecmfkcfaaGreat
namespace Go.Ev
open Go
end Go.Ev
namespace Go.Proofs.YtnkgnjecmfkcfaaGreat
open Go Go.Ev
structure Lg where
 du:List (Int×Bool)
 rp:Int
 rl:Int
 fr:List Nat
 to:List Nat
 co:Int
 cr:Int
def Fk(g:Lg)(v:T):List T:= [v,.i .i64 g.rp,.i .i64 g.rl,.s g.fr,.s g.to,.i .i64 g.co,.i .i64 g.cr]
def QU:Lg:=⟨[],0,0,[],[],0,0⟩
def lP(d:List (Int×Bool)):List T:=d.flatMap fun k=> [.i .i64 k.1,.b k.2]
theorem mz(d:List (Int×Bool)):(lP d).length=d.length*2:=jH (sz:=2) (fun _=>rfl) d
theorem NO(a b:List (Int×Bool)):lP (a++b)=lP a++lP b:=by grind [lP]
theorem NP: ∀{d:List (Int×Bool)} {D:List T},aC ZX d D→D=lP d
 | [],D,h=>h
 |k::d,D,h=>by
  obtain⟨c,r,rfl,h1,h2⟩:=h
  rw[ZX]at h1
  rw[h1,NP h2];rfl
theorem I7: ∀d:List (Int×Bool),aC ZX d (lP d)
 | []=>rfl
 |k::d=>⟨[.i .i64 k.1,.b k.2],lP d,rfl,rfl,I7 d⟩
theorem uX.sl{d:List (Int×Bool)}{v:T}(h:uX d v):IsSl v d.length (lP d):=by
 obtain⟨r,h1,h2⟩:=h
 rwa [NP h2]at h1
theorem uX.of{d:List (Int×Bool)}{v:T}(h:IsSl v d.length (lP d)):uX d v:=⟨_,h,I7 d⟩
def ruS(c:Ct):RL:=vL c 1 c.ru.length
def coS(c:Ct):RL:=tf c 1 c.co.length
def crS(c:Ct):RL:=RO c c.cr.length
def jm(t:Tt)(c:Ct)(d:List (Int×Bool)):Bool:=Dx (eo t c d) (ruS c)
def cD(t:Tt)(c:Ct)(d:List (Int×Bool)):Lg:=⟨d,tg c (eA t.fl d 0),th c (eA t.fl d (d.length-1)),(eA t.fl d 0).fr,(eA t.fl d (d.length-1)).to,my (eo t c d) (coS c),xR (eo t c d) (crS c)⟩
section
variable(t:Tt)(c:Ct)(zT aT fT a7 a8 a9 aw aA az:T)(vs:List T)(hT:ky t zT aT fT)(hV:Lv t c vs)(ht:pG t=0)(hc:eV c=0)(d:List (Int×Bool))(dT:T)(hd:uX d dT)(h1:1≤d.length)(hlen:d.length≤100)(bH: ∀k∈d,lK t.fl.length k.1=true)
include hT ht hd h1 hlen bH
theorem XJ: ∃i j r1 r2:_,∃(hi:i<t.fl.length) (r:j<t.fl.length),eA t.fl d 0=t.fl[i]∧eA t.fl d (d.length-1)=t.fl[j]∧(∀kk,iaV dT (.i kk 0) 2=some (.vp (.i .i64 (i:Int)::r1)))∧(∀kk,iaV dT (.i kk ((d.length-1:Nat):Int)) 2=some (.vp (.i .i64 (j:Int)::r2))):=by
 have _:=hT
 obtain⟨i,hi,I,J,_⟩:=fy (j0 t ht).1 bH (k:=0) zZ
 obtain⟨j,r,K,O,_⟩:=fy (j0 t ht).1 bH (k:=d.length-1) zZ
 obtain⟨r1,D⟩:=pk hd 0 zZ
 obtain⟨r2,F⟩:=pk hd (d.length-1) zZ
 rw[I]at D
 rw[K]at F
 exact⟨i,j,_,_,hi,r,J,O,D,F⟩
include hc
include hV
end
theorem kU{c:Ct}{fl:List Fl}{d:List (Int×Bool)}(h:fx c fl d=0):1≤d.length∧d.length≤6∧(∀k∈d,lK fl.length k.1=true)∧pM c fl d=true:=by
 unfold fx at h
 split at h
 ·cases h
 split at h
 ·cases h
 split at h
 ·rename_i a
  split at h
  ·rename_i b;exact⟨by omega,by omega,List.all_eq_true.1 a,b⟩
  ·cases h
 ·cases h
def alj(t:Tt)(c:Ct)(d:List (Int×Bool)):Lg×Int:=if fx c t.fl d≠0 then(QU,fx c t.fl d)else if jm t c d=true then(cD t c d,0)else(QU,15)
def QV(t:Tt)(c:Ct)(d:List (Int×Bool)):Lg×Int:=if eb t c≠0 then(QU,eb t c)else alj t c d
def LgT(g:Lg)(v:T):Prop:=IsSl v g.du.length (lP g.du)
theorem NQ(t:Tt)(c:Ct)(d:List (Int×Bool)):(cD t c d).du=d:=rfl
section
variable(t:Tt)(c:Ct)(zT aT fT a7 a8 a9 aw aA az:T)(vs:List T)(hT:ky t zT aT fT)(hC:kP c a7 a8 a9 aw aA az)(hN:Ds c)(d:List (Int×Bool))(dT:T)(hd:uX d dT)(hlen:d.length≤1000)
include hT hd hlen
include hC hN
end
end Go.Proofs.YtnkgnjecmfkcfaaGreat
namespace Go.Ev
open Go
section
variable{E:Env}{call:jB}{n:Nat}{fr:Fr}{lh:aE ah}{sh:List ah}{os:List aF}{d:Nat}
theorem I8{sh:List ah}{v:ah}:bD sh sh.length v=sh++ [v]:=by
 induction sh with
 |nil=>rfl
 |cons e l ih=>rw[List.length_cons,re,ih];rfl
theorem adD{sh:List ah}{v:ah}{k:Nat}(h:k=sh.length):bD sh k v=sh++ [v]:=by rw[h];exact I8
end
end Go.Ev
namespace Go.Proofs.YtnkgnjecmfkcfaaGreat
open Go Go.Ev
theorem oY{α:Type}(v:α): ∀(cs:List α) (i:Nat),i<cs.length→splice cs i [v]=cs.set i v
 |c::cs,0,_=>by simp[splice]
 |c::cs,i+1,h=>by simp[splice,oY v cs i (by simpa using h)]
def inB(N:Nat)(l:List Int):List Bool:=(List.range N).map fun(i:Nat)=>decide ((i:Int)∈l)
def wX(l:List Bool):List T:=l.map T.b
theorem uZ(N:Nat)(l:List Int):(wX (inB N l)).length=N:=by simp[wX,inB]
theorem adE(N:Nat):wX (inB N [])=List.replicate N (.b false):=by
 simp only[wX,inB,List.map_map]
 exact List.eq_replicate_iff.2 ⟨by simp,fun b r=>by
  obtain⟨i,_,rfl⟩:=List.mem_map.1 r
  simp⟩
theorem XK(N:Nat)(l:List Int)(x:Int)(h0:0≤x)(hN:x<N):splice (wX (inB N l)) x.toNat [.b true]=wX (inB N (l++ [x])):=by
 rw[oY _ _ _ (by rw[uZ];omega)]
 refine List.ext_getElem (by simp[wX,inB]) fun i h1 h2=> ?_
 rw[List.getElem_set]
 simp only[wX,inB,List.getElem_map,List.getElem_range,List.mem_append,List.mem_singleton]
 by_cases e:x.toNat=i
 ·rw[if_pos e]
  have:(i:Int)=x:=zZ
  simp[this]
 ·rw[if_neg e]
  have: ¬(i:Int)=x:=zZ
  simp[this]
def eJ(N:Nat)(r:Nat→Int):List T:=(List.range N).map fun(g:Nat)=>T.i .i64 (r g)
def rfs(r N:Nat):List T:= [.isl .S r 1 0 N 1,.isl .S (r+1) 1 0 N 1,.isl .S (r+2) 1 0 N 1,.isl .S (r+3) 1 0 N 1,.isl .S (r+4) 1 0 N 1,.isl .S (r+5) 1 0 N 1,.isl .S (r+6) 1 0 N 1]
theorem u7(N:Nat)(r:Nat→Int){f:Nat}(D:f<N):(eJ N r)[f]? =some (.i .i64 (r f)):=by
 unfold eJ;rw[List.getElem?_map,List.getElem?_range D];rfl
theorem nN(N:Nat)(r:Nat→Int):(eJ N r).length=N:=by simp[eJ]
theorem I9(N:Nat)(r:Nat→Int)(f:Nat)(v:Int)(D:f<N):splice (eJ N r) f [.i .i64 v]=eJ N fun g=>if g=f then v else r g:=by
 rw[oY _ _ _ (by rw[nN];exact D)]
 refine List.ext_getElem (by simp[eJ]) fun i h1 h2=> ?_
 rw[List.getElem_set]
 simp only[eJ,List.getElem_map,List.getElem_range]
 by_cases e:f=i
 ·subst e;simp
 ·rw[if_neg e,if_neg (fun h=>e h.symm)]
theorem gse(R:List ah)(i j:Nat)(e:ah):aI (bD R i e) j=if j=i then e else aI R j:=mX _ _ _ _ _
structure Cc (sh:List ah) (N H rb a kT:Nat) (NR:T) (n:Nat→Nat→Int) (t:Int):Prop where
 g0:aI sh 0=⟨1,.cells [.i .i64 (H:Int)] 0 true⟩
 g1:aI sh 1=⟨1,.cells [NR] 0 true⟩
 gA:aI sh a=⟨1,.cells (rfs rb N) 0 true⟩
 gT:aI sh kT=⟨1,.cells [.i .i64 t] 0 true⟩
 gR: ∀i,i<7→aI sh (rb+i)=⟨1,.cells (eJ N (n i)) 0 false⟩
 b:rb+7≤sh.length∧kT<sh.length
theorem Be{N:Nat}{r s:Nat→Int}(h: ∀g,r g=s g):eJ N r=eJ N s:=by rw[show r=s from funext h]
theorem sa{E:Env}{n:Nat}{a:ak}{m:Nat}(r:dO (bX (.loop a))=m){fr:Fr}{lh:aE ah}{sh:List ah}{D:Option (Out×St)}(F:DC E n (.loop a) ⟨fr,lh,sh⟩=D){o:Out}{P:Fr→aE ah→List ah→Prop}(h:Lp E n a fr lh sh o P):
  ∃f l s,D=some (o,⟨f,l,s⟩)∧P f l s∧ ∀j,(m >>> j)%2=0→aa f j=aa fr j:=
 ⟨_,_,_,F.symm.trans h.1,h.2,fun j I=>Dc (by rw[r];exact I)⟩
theorem rj{a b:List ah}{k:Nat}(h:k<a.length):aI (a++b) k=aI a k:=by
 induction a generalizing k with
 |nil=>simp at h
 |cons x xs ih=>
  cases k with
  |zero=>rfl
  |succ k=>rw[List.cons_append,qZ,qZ,ih (by simpa using h)]
theorem Dy{a b:List ah}{k:Nat}:aI (a++b) (a.length+k)=aI b k:=by
 induction a with
 |nil=>rw[List.nil_append,List.length_nil,Nat.zero_add]
 |cons x xs ih=>rw[List.cons_append,List.length_cons,show xs.length+1+k=(xs.length+k)+1 by omega,qZ,ih]
structure Cr (sh:List ah) (N H:Nat) (NR:T) (rn:Nat) (now:Nat→Nat→Int) (t:Int):Prop where
 g0:aI sh 0=⟨1,.cells [.i .i64 (H:Int)] 0 true⟩
 g1:aI sh 1=⟨1,.cells [NR] 0 true⟩
 gB:aI sh 9=⟨1,.cells (rfs rn N) 0 true⟩
 gT:aI sh 10=⟨1,.cells [.i .i64 t] 0 true⟩
 gR: ∀i,i<7→aI sh (rn+i)=⟨1,.cells (eJ N (now i)) 0 false⟩
 b:11≤sh.length∧rn+7≤sh.length∧(rn=2∨11≤rn)
section
variable(N H:Nat)(NR nT:T)(ch:Nat→Bool)(nx:Nat→List Nat)(iA: ∀f,f<N→ ∃q,∀kk,iaV NR (.i kk (f:Int)) 1=some (.vp (.b (ch f)::q)))(iQ: ∀f,f<N→ ∃gT q,(∀kk,iaV nT (.i kk (f:Int)) 1=some (.vp (gT::q)))∧IsSl gT (nx f).length (ints ((nx f).map Int.ofNat))∧(nx f).length≤1000∧ ∀g∈nx f,g<N)(hH:H≤6)(hN:N≤1000)
include iA iQ hH hN
end
section
variable(t:Tt)(c:Ct)(zT aT fT a7 a8 a9 aw aA az:T)(vs:List T)(hT:ky t zT aT fT)
theorem aCI(hT:ky t zT aT fT)(d:List (Int×Bool))(dT:T)(hd:uX d dT)(hlen:d.length≤1000)(r:Bool)(hr:r=d.all fun k=>lK t.fl.length k.1)(o:Out)(R:o=if r=true then .ext 0 else .ret)(fr:Fr)(lh:aE ah)(sh:List ah)
  (h0:aa fr 0=stV c zT aT fT a7 a8 a9 aw aA az vs) (F:aa fr 16=dT) (D:aa fr 17= .i .i64 (d.length:Int)) (I:aa fr 18= .i .i64 0):
  uL 48 sq fr lh sh o∧((r=false→aa (pz pE 48 sq fr lh sh) 4= .i .i64 6)∧jw pE 48 sq fr lh sh=sh):=by
 refine gI (fun k st=> ∃(fr:Fr) (lh:aE ah),st=⟨fr,lh,sh⟩∧r=((d.drop k).all fun k=>lK t.fl.length k.1)∧aa fr 0=stV c zT aT fT a7 a8 a9 aw aA az vs∧aa fr 16=dT∧aa fr 17= .i .i64 (d.length:Int)∧aa fr 18= .i .i64 (k:Int)) (fun U aU V=>(r=false→aa U 4= .i .i64 6)∧V=sh) o d.length ?_ ?_ fr lh sh ⟨fr,lh,rfl,hr,h0,F,D,I⟩
 ·rintro k _ hk ⟨fr,lh,rfl,hr,h0,F,D,I⟩
  have J:(k:Int)<d.length:=zZ
  have W:=aG (k:=k) zZ
  obtain⟨Z,K⟩:=pk hd k hk
  rw[LA hk]at hr
  obtain⟨X,Y,f2⟩:=hT.f
  have O:=Xg zT aT fT (aV c a7 a8 a9 aw aA az++vs) X t.fl.length Y d[k].1
  rw[show decide (0≤d[k].1∧d[k].1<(t.fl.length:Int))=lK t.fl.length d[k].1 from rfl]at O
  unfold stV at*
  generalize d[k]=y at*
  cases hv:lK t.fl.length y.1 <;> rw[hv]at O hr <;> simp only[Bool.true_and,Bool.false_and]at hr
  all_goals simp only[qA,seval,sq,h0,F,D,I,J,W,K,O,asR]
  all_goals first
   |exact sL ⟨by rw[R,hr];rfl,fun _=>yW,rfl⟩
   |exact fN ⟨_,_,rfl,hr,by simp only[qA,seval,h0],by simp only[qA,seval,F],by simp only[qA,seval,D],by simp only[qA,seval]⟩
 ·rintro _ ⟨fr,lh,rfl,hr,h0,F,D,I⟩
  rw[List.drop_length]at hr
  simp only[qA,seval,sq,D,I,Int.lt_irrefl]
  grind [jZ]
theorem aCJ(hT:ky t zT aT fT)(d:List (Int×Bool))(dT:T)(hd:uX d dT)(h1:1≤d.length)(hlen:d.length≤1000)(bH: ∀k∈d,lK t.fl.length k.1=true)(r:Bool)(hr:r=pM c t.fl d)(o:Out)(K:o=if r=true then .ext 2 else .ret)(fr:Fr)(lh:aE ah)(sh:List ah)
  (h0:aa fr 0=stV c zT aT fT a7 a8 a9 aw aA az vs) (h1:aa fr 1=dT) (F:aa fr 7= .i .i64 1):
  uL 48 vV fr lh sh o∧((r=false→aa (pz pE 48 vV fr lh sh) 4= .i .i64 14)∧jw pE 48 vV fr lh sh=sh):=by
 refine gI (fun k st=> ∃(fr:Fr),st=⟨fr,lh,sh⟩∧r=pM c t.fl (d.drop k)∧aa fr 0=stV c zT aT fT a7 a8 a9 aw aA az vs∧aa fr 1=dT∧aa fr 7= .i .i64 ((k+1:Nat):Int)) (fun O aU R=>(r=false→aa O 4= .i .i64 14)∧R=sh) o (d.length-1) ?_ ?_ fr lh sh ⟨fr,rfl,hr,h0,h1,F⟩
 ·rintro k _ hk ⟨fr,rfl,hr,h0,h1,F⟩
  have D:((k+1:Nat):Int)<d.length:=zZ
  have U:=aG (k:=k+1) zZ
  have GA:wr .i64 (((k+1:Nat):Int)-1)=(k:Int):=by rw[bI zZ];omega
  obtain⟨V,I⟩:=pk hd k zZ
  obtain⟨r2,Kf⟩:=pk hd (k+1) zZ
  rw[E8 c t.fl (by omega:k+1<d.length)]at hr
  have J:=Xk t c zT aT fT a7 a8 a9 aw aA az vs hT (bH _ (List.getElem_mem (by omega:k<d.length))) (bH _ (List.getElem_mem (by omega:k+1<d.length)))
  unfold stV at*
  generalize d[k]=x at*
  generalize d[k+1]=y at*
  cases hv:pn c t.fl x.1 y.1 <;> rw[hv]at J hr <;> simp only[Bool.true_and,Bool.false_and]at hr
  all_goals simp only[qA,seval,bj,aH,vV,h0,h1,F,hd.choose_spec.1.lenI,D,U,GA,I,Kf,J,aAO,aAP]
  all_goals first
   |exact sL ⟨by rw[K,hr];rfl,fun _=>yW,rfl⟩
   |exact fN ⟨_,rfl,hr,by simp only[qA,seval,h0],by simp only[qA,seval,h1],by simp only[qA,seval]⟩
 ·rintro _ ⟨fr,rfl,hr,h0,h1,F⟩
  rw[NF c t.fl zZ]at hr
  have D: ¬((d.length-1+1:Nat):Int)<d.length:=zZ
  simp only[qA,seval,vV,h1,F,hd.choose_spec.1.lenI,D]
  grind [jZ]
theorem alk(hT:ky t zT aT fT)(d:List (Int×Bool))(dT:T)(hd:uX d dT)(hlen:d.length≤1000):ae pE 36 [stV c zT aT fT a7 a8 a9 aw aA az vs,dT] []=some (.i .i64 (fx c t.fl d),[]):=by
 have QL:=fun fr lh sh h0 F I J=>aCI t c zT aT fT a7 a8 a9 aw aA az vs hT d dT hd hlen _ rfl _ rfl fr lh sh h0 F I J
 have A7:=hd.choose_spec.1.lenI
 rw[av asD (by simp[c36])]
 unfold fx
 cases D:d.all fun k=>lK t.fl.length k.1 <;> rw[D]at QL
 ·simp only[qB,seval,c36,QL,A7,itI]
 ·by_cases h1:1≤d.length
  ·have IZ:=fun fr lh sh h0 r K=>aCJ t c zT aT fT a7 a8 a9 aw aA az vs hT d dT hd h1 hlen (List.all_eq_true.1 D) _ rfl _ rfl fr lh sh h0 r K
   cases hc:pM c t.fl d <;> rw[hc]at IZ
   all_goals simp only[qB,seval,c36,Sd,IZ,QL,A7,itI]
  ·have r:(d.length:Int)<1:=zZ
   simp only[qB,seval,c36,A7,r]
end
section
variable(c:Ct)(zT aT fT a7 a8 a9 aw aA az m r1 r2 r3 c1 c2 c3 cr nb:T)(A:List Int)(kS:T)(ew:IsSl kS A.length (ints A))
include ew
end
section
variable(t:Tt)(c:Ct)(zT aT fT a7 a8 a9 aw aA az:T)(hT:ky t zT aT fT)(hC:kP c a7 a8 a9 aw aA az)(hA:Ds c)(hk:eb t c=0)(d:List (Int×Bool))(dT:T)(hd:uX d dT)(hlen:d.length≤1000)
include hT hC hA hk hd hlen
end
def vN(fl:List Fl)(d:List (Int×Bool)):Nat→rh
 |0=>rJ (I4 d 0)
 |k+1=>if k=0 then kQ (eA fl d k) (I4 d k) (vN fl d k)else sU (eA fl d (k-1)) (eA fl d k) (I4 d k) (vN fl d k)
theorem Ja(s x:List Nat): ∀l:List (List Nat),x∈insS s l↔x=s∨x∈l
 | []=>by simp[insS]
 |y::r=>by
  rw[insS]
  have:=Ja s x r
  grind
theorem Bf: ∀a b c:List Nat,lessN a b=true→lessN b c=true→lessN a c=true
 | [],[],_,h,_=>by simp[lessN]at h
 | [],_::_,[],_,h=>by simp[lessN]at h
 | [],_::_,_::_,_,_=>rfl
 |_::_,[],_,h,_=>by simp[lessN]at h
 |_::_,_::_,[],_,h=>by simp[lessN]at h
 |x::a,y::b,z::c,h1,h2=>by
  have:=Bf a b c
  simp[lessN]at h1 h2 ⊢
  grind
theorem XL(s:List Nat): ∀(r:List (List Nat)) (y:List Nat),ascN (y::r)=true→lessN s y=true→s∉y::r
 | [],y,_,h1,h2=>by
   rw[List.mem_singleton.1 h2,ql]at h1;cases h1
 |z::r,y,h,h1,h2=>by
  rw[ascN,Bool.and_eq_true]at h
  rcases List.mem_cons.1 h2 with rfl|h2
  ·rw[ql]at h1;cases h1
  ·exact XL s r z h.2 (Bf _ _ _ h1 h.1) h2
theorem alm{y:List Nat}: ∀{r:List (List Nat)},ascN (y::r)=true→ascN r=true
 | [],_=>rfl
 |_::_,h=>by
  rw[ascN,Bool.and_eq_true]at h
  exact h.2
theorem Dz(s:List Nat): ∀l:List (List Nat),ascN l=true→(insS s l).length=if s∈l then l.length else l.length+1
 | [],_=>by simp[insS]
 |y::r,h=>by
  have ih:=Dz s r (alm h)
  have D:=XL s r y h
  rw[insS]
  by_cases h1:lessN y s=true
  ·have:s≠y:=fun e=>by rw[e,ql]at h1;cases h1
   rw[if_pos h1,List.length_cons,ih]
   simp only[List.mem_cons,this,false_or]
   split <;> rfl
  ·rw[if_neg h1]
   by_cases h2:y=s
   ·rw[if_pos h2,if_pos (by rw[h2];exact List.mem_cons_self ..)]
   ·rw[if_neg h2]
    have h3:lessN s y=true:=by
     cases hc:lessN s y with
     |true=>rfl
     |false=>exact absurd (uV y s (by simpa using h1) hc) h2
    rw[if_neg (D h3)]
    rfl
def QW(s:rh)(c:Cn):Prop:=s.lg=c.lg∧s.hd=c.hd∧s.bl=c.bk∧s.lo=c.lo∧s.so=c.so∧(∀x,x∈s.ty↔x∈c.ks)∧s.ty.length=c.ks.length
theorem Jb{f:Fl}{k:Int×Bool}{s:rh}{c:Cn}(h:QW s c)(r:ascN s.ty=true):QW (kQ f k s) (LF f k.2 c):=by
 obtain⟨h1,h2,h3,h4,h5,h6,D⟩:=h
 have:=Ja f.ty
 have F:=Dz f.ty s.ty r
 unfold QW kQ LF
 cases k.2
 ·simp only[Bool.false_eq_true,if_false]
  refine⟨by omega,h2,by omega,h4,h5,fun x=> ?_, ?_⟩
  ·rw[this,adK];grind
  ·rw[F,adK];grind
 ·simp only[if_true]
  exact⟨h1,by omega,h3,h4,h5,h6,D⟩
theorem XM{f g:Fl}{k:Int×Bool}{s:rh}{c:Cn}(h:QW s c)(r:ascN s.ty=true):QW (sU f g k s) (Xz f g (LF g k.2 c)):=by
 rw[←aCF]
 obtain⟨h1,h2,h3,h4,h5,h6,D⟩:=h
 exact Jb ⟨h1,h2,h3,by rw[Xz,h4],by rw[Xz,h5],h6,D⟩ r
theorem Jc{c:Ct}{fl:List Fl}{d:List (Int×Bool)}(h:pM c fl d=true): ∀i,i<d.length→pM c fl (d.drop i)=true
 |0,_=>h
 |i+1,hi=>by
  have:=Jc h i zZ
  rw[E8 c fl hi,Bool.and_eq_true]at this
  exact this.2
def StI(fl:List Fl)(d:List (Int×Bool))(k:Nat)(s:rh):Prop:=A4 fl.length s=true∧s.lg+s.hd=(k:Int)+1∧s.bl≤1440*((k:Int)+1)∧s.lf=(I4 d k).1∧s.ff=(I4 d 0).1∧s.ty.length≤k+1∧QW s (pN fl d (k+1))
theorem StI.asc{fl:List Fl}{d:List (Int×Bool)}{k:Nat}{s:rh}(h:StI fl d k s):ascN s.ty=true:=IU _ _ (lL.1 h.1).2.2.2.2.2.2.2.2
theorem aw6(f:Fl)(k:Int×Bool)(s:rh):(kQ f k s).ty.length≤s.ty.length+1:=by
 unfold kQ
 split
 ·exact Nat.le_succ _
 ·exact IV _ _
theorem NS(f:Fl)(k:Int×Bool)(s:rh):(kQ f k s).ff=s.ff:=by
 unfold kQ;split <;> rfl
theorem Fo{c:Ct}(hc:0≤c.cn∧c.st≤1440){fl:List Fl}(r: ∀f∈fl,nJ f){d:List (Int×Bool)}(h6:d.length≤6)(bH: ∀k∈d,lK fl.length k.1=true)(D:pM c fl d=true): ∀k,k<d.length→StI fl d k (vN fl d (k+1))
 |0,hk=>by
  obtain⟨i,hi,e,F,_⟩:=fy r bH hk
  rw[←wW hk]at e
  have hs:vN fl d (0+1)=kQ (eA fl d 0) (I4 d 0) (rJ (I4 d 0)):=rfl
  have ZZ:pN fl d (0+1)=LF (eA fl d 0) (I4 d 0).2 cn0:=rfl
  rw[hs,F]
  unfold StI
  obtain⟨I,J,U,K⟩:=adm fl r (I4 d 0) i hi e
  refine⟨I,by rw[J];rfl,by simpa using U,by rw[K,e],by rw[NS];rfl,aw6 _ _ _, ?_⟩
  rw[ZZ,F]
  exact Jb ⟨rfl,rfl,rfl,rfl,rfl,fun x=>by simp[rJ,cn0],rfl⟩ rfl
 |k+1,hk=>by
  have ih:=Fo hc r h6 bH D k zZ
  obtain⟨i,hi,e,F,_⟩:=fy r bH (k:=k) zZ
  obtain⟨j,V,e2,W,_⟩:=fy r bH hk
  have hs:vN fl d (k+1+1)=sU (eA fl d k) (eA fl d (k+1)) (I4 d (k+1)) (vN fl d (k+1)):=by rw[vN,if_neg zZ];rfl
  have ZZ:pN fl d (k+1+1)=Xz (eA fl d k) (eA fl d (k+1)) (LF (eA fl d (k+1)) (I4 d (k+1)).2 (pN fl d (k+1))):=by rw[pN,if_neg zZ];rfl
  have O:yf c fl[i] fl[j]=true:=by
   have:=Jc D k zZ
   rw[E8 c fl hk,Bool.and_eq_true,e,e2,nL c fl hi V]at this
   exact this.1
  have R:=ih.asc
  obtain⟨X,Y,p3,p4,Z,p6,p7⟩:=ih
  rw[hs]
  unfold StI
  rw[ZZ]
  rw[←wW hk]at e2
  obtain⟨I,J,U,K⟩:=adn c hc fl r (I4 d (k+1)) _ i j hi V e2 X O zZ (by unfold RS;omega)
  rw[F,W]
  refine⟨I,by rw[J,Y];simp,by simp;omega,by rw[K,e2],by rw[sU,NS];exact Z,Nat.le_trans (aw6 _ _ _) (Nat.succ_le_succ p6), ?_⟩
  exact XM p7 R
theorem DA: ∀L:List (List Nat),strsE (L.map T.s)=some L
 | []=>rfl
 |x::L=>by rw[List.map_cons,strsE,DA L];rfl
def qm(L:List (List Nat)):T:=bG L.length (L.map T.s)
theorem bU(L:List (List Nat)):IsSl (qm L) L.length (L.map T.s):=fj fun h=>by rw[List.length_eq_zero_iff.1 h];rfl
theorem XN(L:List (List Nat)):tysL (qm L)=some L:=by
 cases L with
 |nil=>rfl
 |cons x r=>show(if(List.map T.s (x::r)).length=(x::r).length then strsE (List.map T.s (x::r))else none)=_;rw[if_pos zP,DA]
theorem adG(L:List (List Nat)):slS (qm L) L=qm L:=by cases L <;> rfl
theorem adH(s:List Nat)(L:List (List Nat)):T.sl ((insS s L).map T.s) (insS s L).length false=qm (insS s L):=by
 cases L with
 |nil=>rfl
 |cons x r=>unfold qm bG;rw[if_neg];rw[insS];split <;> simp;split <;> simp
def j5(s:rh):T:= .agg (nI s (qm s.ty))
theorem yG(s:rh):froz (j5 s)=true:=by unfold j5 nI qm bG;split <;> rfl
def adI(s:rh):Prop:=(0≤s.lg∧s.lg≤100)∧(0≤s.hd∧s.hd≤100)∧(0≤s.bl∧s.bl≤1099511640000)∧ascN s.ty=true∧s.ty.length≤1000
theorem StI.w{fl:List Fl}{d:List (Int×Bool)}{k:Nat}{s:rh}(h:StI fl d k s)(hk:k≤900):adI s:=by
 have r:=h.asc
 obtain⟨h1,_,_,_,_,h6,_⟩:=h
 obtain⟨_,_,D,F,_,I,_⟩:=lL.1 h1
 unfold RS at*
 exact⟨⟨D.1,by omega⟩,⟨F.1,by omega⟩,⟨I.1,by omega⟩,r,by omega⟩
section
variable(t:Tt)(c:Ct)(zT aT fT a7 a8 a9 aw aA az:T)(vs:List T)(hT:ky t zT aT fT)(kN: ∀f∈t.fl,nJ f)
include hT kN
theorem XP(s:rh)(hs:adI s)(k:Int×Bool)(j:Nat)(K:j<t.fl.length)(hk:k.1=j)(z:Nat)(fr:Fr)(lh:aE ah)(sh:List ah):
  br pE (ae pE) z ⟨fr,lh,sh⟩ 76 [stV c zT aT fT a7 a8 a9 aw aA az vs,j5 s,.agg [.i .i64 k.1,.b k.2]]=some (j5 (kQ t.fl[j] k s),⟨fr,lh,sh⟩):=by
 obtain⟨Z,U,V⟩:=hT.f
 obtain⟨r,F⟩:=mr U V j K
 have W:=kN _ (List.getElem_mem K)
 generalize t.fl[j]=f at*
 obtain⟨f0,q1,q2,q3,q4⟩:=W
 obtain⟨b1,b2,b3,O,R⟩:=hs
 obtain⟨kf,X⟩:=k
 simp only at hk
 subst hk
 rw[U7 (g:=countE) rfl rfl,uC (by simp only[List.all_cons,List.all_nil,yG];rfl)]
 simp only[Option.bind_some]
 have D:=XN s.ty
 have Y:flAt fT (j:Int)=some (f.dp,f.ar,f.ty):=by unfold flAt;rw[F]
 have I:=adG s.ty
 have J:=adH f.ty s.ty
 cases X with
 |true=>
  unfold j5 nI stV kQ
  simp only[countE,D,O,decide_eq_true R,Bool.and_self,if_true,I,Option.bind_some]
  rw[bI zZ]
 |false=>
  unfold j5 nI stV kQ
  simp only[countE,D,O,decide_eq_true R,Bool.and_self,if_true,Y,Bool.false_eq_true,if_false,J,Option.bind_some]
  rw[bI (n:=s.lg+1) zZ,bI (n:=f.ar-f.dp) zZ,bI zZ]
theorem QX(k:Int×Bool)(j:Nat)(r:j<t.fl.length)(hk:k.1=j):
  ae pE 37 [stV c zT aT fT a7 a8 a9 aw aA az vs,.agg [.i .i64 k.1,.b k.2]] []=some (j5 (kQ t.fl[j] k (rJ k)),[]):=by
 have h1:=fun z fr lh sh=>XP t c zT aT fT a7 a8 a9 aw aA az vs hT kN (rJ k) (by unfold adI rJ;exact⟨⟨Int.le_refl _,(by decide:(0:Int)≤100)⟩,⟨Int.le_refl _,(by decide:(0:Int)≤100)⟩,⟨Int.le_refl _,(by decide:(0:Int)≤1099511640000)⟩,rfl,Nat.zero_le _⟩) k j r hk z fr lh sh
 have h2:j5 (rJ k)= .agg [.i .i64 k.1,.b k.2,.i .i64 0,.b false,.i .i64 0,.i .i64 0,.i .i64 0,.i .i64 0,.i .i64 1440,.nilsl]:=rfl
 rw[h2]at h1
 have h3:=(bU (kQ t.fl[j] k (rJ k)).ty).froz1
 rw[av asE (by simp[Mw])]
 generalize kQ t.fl[j] k (rJ k)=D at*
 unfold j5 nI stV at*
 generalize qm D.ty=yT at*
 simp(maxDischargeDepth:=6) only[qA,seval,Mw,h1,h3]
theorem adJ(s:rh)(hs:adI s)(k:Int×Bool)(i j:Nat)(hi:i<t.fl.length)(r:j<t.fl.length)(F:s.lf=i)(hk:k.1=j):
  ae pE 38 [stV c zT aT fT a7 a8 a9 aw aA az vs,j5 s,.agg [.i .i64 k.1,.b k.2]] []=some (j5 (sU t.fl[i] t.fl[j] k s),[]):=by
 obtain⟨r1,I⟩:=Xy t c zT aT fT a7 a8 a9 aw aA az vs hT i hi
 obtain⟨r2,J⟩:=Xy t c zT aT fT a7 a8 a9 aw aA az vs hT j r
 obtain⟨_,R,U,V,W⟩:=kN _ (List.getElem_mem hi)
 obtain⟨_,X,Y,Z,q4⟩:=kN _ (List.getElem_mem r)
 have K:wr .i64 (t.fl[j].dp-t.fl[i].ar)=t.fl[j].dp-t.fl[i].ar:=bI zZ
 have h1:=fun z fr lh sh=>XP t c zT aT fT a7 a8 a9 aw aA az vs hT kN {s with lo:=max s.lo (t.fl[j].dp-t.fl[i].ar),so:=min s.so (t.fl[j].dp-t.fl[i].ar)} hs k j r hk z fr lh sh
 rw[show kQ t.fl[j] k {s with lo:=max s.lo (t.fl[j].dp-t.fl[i].ar),so:=min s.so (t.fl[j].dp-t.fl[i].ar)}=sU t.fl[i] t.fl[j] k s from rfl]at h1
 have h3:=(bU (sU t.fl[i] t.fl[j] k s).ty).froz1
 have h4:=(bU s.ty).froz1
 rw[av asF (by simp[c38])]
 rw[hk]at h1 ⊢
 generalize sU t.fl[i] t.fl[j] k s=O at*
 have D:=E9 c zT aT fT a7 a8 a9 aw aA az vs
 unfold j5 nI at*
 rw[F]at h1 ⊢
 generalize t.fl[i]=f at*
 generalize t.fl[j]=g at*
 generalize qm O.ty=yT at*
 generalize qm s.ty=zT' at*
 simp(maxDischargeDepth:=6) only[qA,seval,bj,aH,c38,I,J,aaD,aAQ,K,D,h1,h3,h4,I3,Xr]
end
theorem uX.tail{k:Int×Bool}{r:List (Int×Bool)}{v:T}(h:uX (k::r) v): ∃D,sI 2 v 1 (r.length+1)=some D∧uX r D:=by
 obtain⟨I,h1,h2⟩:=h
 obtain⟨p,q,rfl,e,h3⟩:=h2
 have F:=aC.len ZX.len h3
 rw[ZX]at e
 subst e
 rcases h1 with⟨_,h1,_⟩|⟨ex,rfl⟩
 ·simp at h1
 ·refine⟨_, ?_,q,.inr ⟨(ex&&decide (r.length+1=(k::r).length)),rfl⟩,h3⟩
  unfold sI
  simp only[List.length_cons]
  rw[if_pos ⟨by omega,by omega,by simp[F];omega⟩]
  simp only[Option.some.injEq,T.sl.injEq,and_true]
  exact⟨List.take_of_length_le (by simp[F]),by omega⟩
section
variable(t:Tt)(c:Ct)(zT aT fT a7 a8 a9 aw aA az:T)(hT:ky t zT aT fT)
include hT
theorem aw7(vs:List T)(kN: ∀f∈t.fl,nJ f)(hc:0≤c.cn∧c.st≤1440)(x:Int×Bool)(r:List (Int×Bool))(h6:(x::r).length≤6)(bH: ∀k∈x::r,lK t.fl.length k.1=true)(K:pM c t.fl (x::r)=true)(v':T)(hv:uX r v')(O:ah)(fr:Fr)(lh:aE ah)(sh:List ah)
  (h8:aa fr 8=stV c zT aT fT a7 a8 a9 aw aA az vs) (R:aa fr 11= .ptr .L 11 1 0) (vM:aa fr 37=v') (I:aa fr 38= .i .i64 (r.length:Int)) (U:aa fr 39= .i .i64 0) (J:ab lh 6=O) (GB:ab lh 11=⟨1,.cells (nI (vN t.fl (x::r) 1) (qm (vN t.fl (x::r) 1).ty)) 0 true⟩):
  Lp pE 49 vO fr lh sh (.ext 0) fun f l s=>s=sh∧ab l 6=O∧ab l 11=⟨1,.cells (nI (vN t.fl (x::r) (r.length+1)) (qm (vN t.fl (x::r) (r.length+1)).ty)) 0 true⟩:=by
 have D:=Fo hc kN h6 bH K
 refine cm GK (fun k f l s=>aa f 39= .i .i64 (k:Int)∧s=sh∧ab l 6=O∧ab l 11=⟨1,.cells (nI (vN t.fl (x::r) (k+1)) (qm (vN t.fl (x::r) (k+1)).ty)) 0 true⟩) r.length ⟨U,rfl,J,GB⟩ ?_ ?_
 ·rintro k f l _ hk V ⟨F,rfl,J,GB⟩
  have W:(k:Int)<r.length:=zZ
  have hr6:r.length≤5:=by simpa using h6
  have hw:=aG (k:=k) zZ
  obtain⟨rr,X⟩:=pk hv k hk
  have Y:=D k (by simp;omega)
  have hJ:=D (k+1) (by simp;omega)
  obtain⟨i,hi,e,ef,_⟩:=fy kN bH (k:=k) (by simp;omega)
  obtain⟨j,hj,e2,eg,_⟩:=fy kN bH (k:=k+1) (by simp;omega)
  have hx:=adJ t c zT aT fT a7 a8 a9 aw aA az vs hT kN _ (Y.w zZ) r[k] i j hi hj (by rw[Y.2.2.2.1,wW (by simp;omega),e]) (by simpa using e2)
  have hs:vN t.fl (x::r) (k+1+1)=sU t.fl[i] t.fl[j] r[k] (vN t.fl (x::r) (k+1)):=by
   rw[←ef,←eg,vN,if_neg zZ,wW (by simp;omega)]
   rfl
  rw[←hs]at hx
  have Z:=E9 c zT aT fT a7 a8 a9 aw aA az vs
  have RM:=yG (vN t.fl (x::r) (k+1))
  have hy:=(bU (vN t.fl (x::r) (k+1+1)).ty).froz1
  have hy0:=(bU (vN t.fl (x::r) (k+1)).ty).froz1
  clear Y hJ hs D
  generalize vN t.fl (x::r) (k+1)=s0 at*
  generalize vN t.fl (x::r) (k+1+1)=s1 at*
  generalize r[k]=y at*
  unfold j5 nI at*
  generalize qm s0.ty=y0 at*
  generalize qm s1.ty=y1 at*
  simp(maxDischargeDepth:=6) only[qA,seval,gd,vO,V,h8,R,vM,I,F,J,GB,W,hw,X,Z,hx,aAB,hy0,hy,RM]
 ·rintro f l _ V ⟨F,rfl,J,GB⟩
  simp only[qA,seval,gd,vO,V,I,F,J,GB,Int.lt_irrefl]
theorem adL(hC:kP c a7 a8 a9 aw aA az)(hA:Ds c)(hk:eb t c=0)(d:List (Int×Bool))(dT:T)(hd:uX d dT)(hE:fx c t.fl d=0): ∃s,ae pE 10 [.agg [zT,aT,fT],.agg (aV c a7 a8 a9 aw aA az),dT] []=some (.tup [j5 (vN t.fl d d.length),.i .i64 0],s):=by
 have hz:=Dt t c zT aT fT a7 a8 a9 aw aA az hT hC
 obtain⟨g1,g2,U,g4⟩:=kU hE
 have I:=hd.sl.froz
 obtain⟨s0,vs,nE,_⟩:=ahv t c zT aT fT a7 a8 a9 aw aA az hT hC hA hk
 obtain⟨ht,hc⟩:=Fa t c zT aT fT a7 a8 a9 aw aA az hT hC hA hk
 have kN:=(j0 t ht).1
 have V:=A6 c hc
 have J:=E9 c zT aT fT a7 a8 a9 aw aA az vs
 have K:froz1 (stV c zT aT fT a7 a8 a9 aw aA az vs)=true:=rfl
 have XQ:=alk t c zT aT fT a7 a8 a9 aw aA az vs hT d dT hd zZ
 rw[hE]at XQ
 cases d with
 |nil=>simp at g1
 |cons x r=>
  obtain⟨v',zN,hv⟩:=hd.tail
  have O:kH dT=some (r.length+1):=hd.choose_spec.1.len
  obtain⟨rr,F⟩:=pk hd 0 zP
  obtain⟨j,hj,e,ef,_⟩:=fy kN U (k:=0) zP
  have W:=QX t c zT aT fT a7 a8 a9 aw aA az vs hT kN x j hj (by simpa using e)
  have rU:vN t.fl (x::r) 1=kQ t.fl[j] x (rJ x):=by rw[←ef];rfl
  rw[←rU]at W
  have F: ∀kk,iaV dT (.i kk (0:Int)) 2=some (.vp (.i .i64 x.1:: .b x.2::rr)):=F
  have rF:=hv.choose_spec.1.lenI
  have hL:=fun e6=>aw7 t c zT aT fT a7 a8 a9 aw aA az hT vs kN ⟨V.1,V.2.2.1⟩ x r g2 U g4 v' hv e6
  have BS:=(bU (vN t.fl (x::r) 1).ty).froz1
  have hy:=(bU (vN t.fl (x::r) (r.length+1)).ty).froz1
  rw[List.length_cons]
  generalize vN t.fl (x::r) 1=s1 at*
  generalize vN t.fl (x::r) (r.length+1)=s2 at*
  unfold j5 nI at*
  unfold aV at*
  generalize qm s1.ty=y1 at*
  generalize qm s2.ty=y2 at*
  rw[av aiD (by simp[ti])]
  simp(maxDischargeDepth:=6) only[qA,seval,U6,dx,ti,nE,asC,J,K,XQ,aAz,F,W,aAA,O,zN,rF,hz,I,BS]
  generalize hD:DC pE 49 (.loop vO) _=D
  obtain⟨X,l2,s2',rfl,⟨rfl,Y,GB⟩,Z⟩:=sa GK hD (hL _ _ _ _ yW yW yW yW yW rfl yW)
  have p6:aa X 6= .ptr .L 6 1 0:=by rw[Z 6 zz];simp only[qA,seval]
  have R:aa X 11= .ptr .L 11 1 0:=by rw[Z 11 zz];simp only[qA,seval]
  simp only[qA,seval]at Y
  simp(maxDischargeDepth:=6) only[qA,seval,p6,R,Y,GB,hy]
  exact⟨_,rfl⟩
end
section
variable(t:Tt)(c:Ct)(zT aT fT a7 a8 a9 aw aA az:T)(vs:List T)(hT:ky t zT aT fT)(hV:Lv t c vs)(ht:pG t=0)(hc:eV c=0)
include hT hV ht hc
end
section
variable(t:Tt)(c:Ct)(zT aT fT a7 a8 a9 aw aA az:T)(hT:ky t zT aT fT)(hC:kP c a7 a8 a9 aw aA az)(hA:Ds c)(hk:eb t c=0)(d:List (Int×Bool))(dT:T)(hd:uX d dT)(hE:fx c t.fl d=0)
include hT hC hA hk hd hE
theorem alq:StI t.fl d (d.length-1) (vN t.fl d d.length):=by
 have _:=hd
 obtain⟨ht,hc⟩:=Fa t c zT aT fT a7 a8 a9 aw aA az hT hC hA hk
 have D:=A6 c hc
 obtain⟨h1,h6,bH,r⟩:=kU hE
 have h:=Fo ⟨D.1,D.2.2.1⟩ (j0 t ht).1 h6 bH r (d.length-1) zZ
 rwa [Nat.sub_add_cancel h1]at h
end
end Go.Proofs.YtnkgnjecmfkcfaaGreat
