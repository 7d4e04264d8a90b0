/- Walks of functions of the program and of the reference, and their plain laws, part 15. Conditions: the theorems' own. -/
import Derived.Test.YtnkgnjecmfkcfaaGreatGS
import Derived.Test.YtnkgnjecmfkcfaaGreatM6
import Derived.Test.YtnkgnjecmfkcfaaGreatM10
import Derived.Test.YtnkgnjecmfkcfaaGreatM13
import Derived.Test.YtnkgnjecmfkcfaaGreatM14
import Derived.KernelRfl
set_option maxRecDepth 100000
set_option linter.unusedSimpArgs false
set_option linter.unusedVariables false
set_option maxHeartbeats 16000000
namespace Go.Proofs.YtnkgnjecmfkcfaaGreat
open Go Go.Ev
def nh(fl:List Fl)(d:List (Int×Bool)):Nat→wk
 |0=>se (JI d 0)
 |k+1=>if k=0 then ll (db fl d k) (JI d k) (nh fl d k)else tu (db fl d (k-1)) (db fl d k) (JI d k) (nh fl d k)
theorem JO(s x:List Nat): ∀l:List (List Nat),x∈insS s l↔x=s∨x∈l
 | []=>by simp[insS]
 |y::r=>by
  rw[insS]
  have:=JO s x r
  grind
theorem BP: ∀a b c:List Nat,lessN a b=true→lessN b c=true→lessN a c=true
 | [],[],_,h,_=>by simp[lessN]at h
 | [],_::_,[],_,h=>by simp[lessN]at h
 | [],_::_,_::_,_,_=>rfl
 |_::_,[],_,h,_=>by simp[lessN]at h
 |_::_,_::_,[],_,h=>by simp[lessN]at h
 |x::a,y::b,z::c,h1,h2=>by
  have:=BP a b c
  simp[lessN]at h1 h2 ⊢
  grind
theorem Y5(s:List Nat): ∀(r:List (List Nat)) (y:List Nat),ascN (y::r)=true→lessN s y=true→s∉y::r
 | [],y,_,h1,h2=>by
   rw[List.mem_singleton.1 h2,qH]at h1;cases h1
 |z::r,y,h,h1,h2=>by
  rw[ascN,Bool.and_eq_true]at h
  rcases List.mem_cons.1 h2 with rfl|h2
  ·rw[qH]at h1;cases h1
  ·exact Y5 s r z h.2 (BP _ _ _ h1 h.1) h2
theorem al9{y:List Nat}: ∀{r:List (List Nat)},ascN (y::r)=true→ascN r=true
 | [],_=>rfl
 |_::_,h=>by
  rw[ascN,Bool.and_eq_true]at h
  exact h.2
theorem Ei(s:List Nat): ∀l:List (List Nat),ascN l=true→(insS s l).length=if s∈l then l.length else l.length+1
 | [],_=>by simp[insS]
 |y::r,h=>by
  have ih:=Ei s r (al9 h)
  have D:=Y5 s r y h
  rw[insS]
  by_cases h1:lessN y s=true
  ·have:s≠y:=fun e=>by rw[e,qH]at h1;cases h1
   rw[if_pos h1,List.length_cons,ih]
   simp only[List.mem_cons,this,false_or]
   split <;> rfl
  ·rw[if_neg h1]
   by_cases h2:y=s
   ·rw[if_pos h2,if_pos (by rw[h2];exact List.mem_cons_self ..)]
   ·rw[if_neg h2]
    have h3:lessN s y=true:=by
     cases hc:lessN s y with
     |true=>rfl
     |false=>exact absurd (vw y s (by simpa using h1) hc) h2
    rw[if_neg (D h3)]
    rfl
def RO(s:wk)(c:Cn):Prop:=s.lg=c.lg∧s.hd=c.hd∧s.bl=c.bk∧s.lo=c.lo∧s.so=c.so∧(∀x,x∈s.ty↔x∈c.ks)∧s.ty.length=c.ks.length
theorem JP{f:Fl}{k:Int×Bool}{s:wk}{c:Cn}(h:RO s c)(r:ascN s.ty=true):RO (ll f k s) (F2 f k.2 c):=by
 obtain⟨h1,h2,h3,h4,h5,h6,D⟩:=h
 have:=JO f.ty
 have F:=Ei f.ty s.ty r
 unfold RO ll F2
 cases k.2
 ·simp only[Bool.false_eq_true,if_false]
  refine⟨by omega,h2,by omega,h4,h5,fun x=> ?_, ?_⟩
  ·rw[this,adK];grind
  ·rw[F,adK];grind
 ·simp only[if_true]
  exact⟨h1,by omega,h3,h4,h5,h6,D⟩
theorem Y6{f g:Fl}{k:Int×Bool}{s:wk}{c:Cn}(h:RO s c)(r:ascN s.ty=true):RO (tu f g k s) (RI f g (F2 g k.2 c)):=by
 rw[←aDO]
 obtain⟨h1,h2,h3,h4,h5,h6,D⟩:=h
 exact JP ⟨h1,h2,h3,by rw[RI,h4],by rw[RI,h5],h6,D⟩ r
theorem JQ{c:Ct}{fl:List Fl}{d:List (Int×Bool)}(h:qc c fl d=true): ∀i,i<d.length→qc c fl (d.drop i)=true
 |0,_=>h
 |i+1,hi=>by
  have:=JQ h i yv
  rw[FZ c fl hi,Bool.and_eq_true]at this
  exact this.2
def StI(fl:List Fl)(d:List (Int×Bool))(k:Nat)(s:wk):Prop:=Jr fl.length s=true∧s.lg+s.hd=(k:Int)+1∧s.bl≤1440*((k:Int)+1)∧s.lf=(JI d k).1∧s.ff=(JI d 0).1∧s.ty.length≤k+1∧RO s (kE fl d (k+1))
theorem StI.asc{fl:List Fl}{d:List (Int×Bool)}{k:Nat}{s:wk}(h:StI fl d k s):ascN s.ty=true:=Js _ _ (qJ.1 h.1).2.2.2.2.2.2.2.2
theorem axr(f:Fl)(k:Int×Bool)(s:wk):(ll f k s).ty.length≤s.ty.length+1:=by
 unfold ll
 split
 ·exact Nat.le_succ _
 ·exact Jt _ _
theorem OR(f:Fl)(k:Int×Bool)(s:wk):(ll f k s).ff=s.ff:=by
 unfold ll;split <;> rfl
theorem Ga{c:Ct}(hc:0≤c.cn∧c.st≤1440){fl:List Fl}(D: ∀f∈fl,nW f){d:List (Int×Bool)}(h6:d.length≤6)(bo: ∀k∈d,lj fl.length k.1=true)(F:qc c fl d=true): ∀k,k<d.length→StI fl d k (nh fl d (k+1))
 |0,hk=>by
  obtain⟨i,hi,e,H,_⟩:=dR D bo hk
  rw[←pk hk]at e
  have hs:nh fl d (0+1)=ll (db fl d 0) (JI d 0) (se (JI d 0)):=rfl
  have r:kE fl d (0+1)=F2 (db fl d 0) (JI d 0).2 cn0:=rfl
  rw[hs,H]
  unfold StI
  obtain⟨I,J,U,K⟩:=ad6 fl D (JI d 0) i hi e
  refine⟨I,by rw[J];rfl,by simpa using U,by rw[K,e],by rw[OR];rfl,axr _ _ _, ?_⟩
  rw[r,H]
  exact JP ⟨rfl,rfl,rfl,rfl,rfl,fun x=>by simp[se,cn0],rfl⟩ rfl
 |k+1,hk=>by
  have ih:=Ga hc D h6 bo F k yv
  obtain⟨i,hi,e,H,_⟩:=dR D bo (k:=k) yv
  obtain⟨j,V,e2,W,_⟩:=dR D bo hk
  have hs:nh fl d (k+1+1)=tu (db fl d k) (db fl d (k+1)) (JI d (k+1)) (nh fl d (k+1)):=by rw[nh,if_neg yv];rfl
  have r:kE fl d (k+1+1)=RI (db fl d k) (db fl d (k+1)) (F2 (db fl d (k+1)) (JI d (k+1)).2 (kE fl d (k+1))):=by rw[kE,if_neg yv];rfl
  have N:yI c fl[i] fl[j]=true:=by
   have:=JQ F k yv
   rw[FZ c fl hk,Bool.and_eq_true,e,e2,nX c fl hi V]at this
   exact this.1
  have O:=ih.asc
  obtain⟨X,Y,p3,p4,Z,p6,p7⟩:=ih
  rw[hs]
  unfold StI
  rw[r]
  rw[←pk hk]at e2
  obtain⟨I,J,U,K⟩:=ad7 c hc fl D (JI d (k+1)) _ i j hi V e2 X N yv (by unfold SS;omega)
  rw[H,W]
  refine⟨I,by rw[J,Y];simp,by simp;omega,by rw[K,e2],by rw[tu,OR];exact Z,Nat.le_trans (axr _ _ _) (Nat.succ_le_succ p6), ?_⟩
  exact Y6 p7 O
def aev(t:Tt)(c:Ct)(s:wk):List Int:=
 [s.lg,s.hd,s.ty.length,s.bl,pj c (YA t.fl s.lf)-ph c (YA t.fl s.ff),CY t c (YA t.fl s.ff) (YA t.fl s.lf),s.lo,s.so,F1 t c (YA t.fl s.ff) (YA t.fl s.lf),JE t c (YA t.fl s.ff),JF t c (YA t.fl s.lf)]
theorem RP{t:Tt}{c:Ct}{d:List (Int×Bool)}(h1:1≤d.length){s:wk}(h:StI t.fl d (d.length-1) s):aev t c s=aN t c d:=by
 obtain⟨_,_,_,h4,h5,_,h6,F,H,I,r,_,D⟩:=h
 rw[Nat.sub_add_cancel h1]at*
 unfold aev aN db
 rw[h4,h5,h6,F,H,I,r,D]
theorem Ej: ∀L:List (List Nat),strsE (L.map T.s)=some L
 | []=>rfl
 |x::L=>by rw[List.map_cons,strsE,Ej L];rfl
def Cp(L:List (List Nat)):T:=bA L.length (L.map T.s)
theorem gp(L:List (List Nat)):IsSl (Cp L) L.length (L.map T.s):=fe fun h=>by rw[List.length_eq_zero_iff.1 h];rfl
theorem Y7(L:List (List Nat)):tysL (Cp L)=some L:=by
 cases L with
 |nil=>rfl
 |cons x r=>show(if(List.map T.s (x::r)).length=(x::r).length then strsE (List.map T.s (x::r))else none)=_;rw[if_pos xv,Ej]
theorem aew(L:List (List Nat)):slS (Cp L) L=Cp L:=by cases L <;> rfl
theorem aex(s:List Nat)(L:List (List Nat)):T.sl ((insS s L).map T.s) (insS s L).length false=Cp (insS s L):=by
 cases L with
 |nil=>rfl
 |cons x r=>unfold Cp bA;rw[if_neg];rw[insS];split <;> simp;split <;> simp
def ln(s:wk):T:= .agg (pW s (Cp s.ty))
theorem vP(s:wk):froz (ln s)=true:=by unfold ln pW Cp bA;split <;> rfl
def aey(s:wk):Prop:=(0≤s.lg∧s.lg≤100)∧(0≤s.hd∧s.hd≤100)∧(0≤s.bl∧s.bl≤1099511640000)∧ascN s.ty=true∧s.ty.length≤1000
theorem StI.w{fl:List Fl}{d:List (Int×Bool)}{k:Nat}{s:wk}(h:StI fl d k s)(hk:k≤900):aey s:=by
 have r:=h.asc
 obtain⟨h1,_,_,_,_,h6,_⟩:=h
 obtain⟨_,_,D,F,_,H,_⟩:=qJ.1 h1
 unfold SS at*
 exact⟨⟨D.1,by omega⟩,⟨F.1,by omega⟩,⟨H.1,by omega⟩,r,by omega⟩
section
variable(t:Tt)(c:Ct)(zT aT fT a7 a8 a9 aw aA az:T)(vs:List T)(hT:kN t zT aT fT)(jb: ∀f∈t.fl,nW f)
include hT jb
theorem Y8(s:wk)(hs:aey s)(k:Int×Bool)(j:Nat)(J:j<t.fl.length)(hk:k.1=j)(z:Nat)(fr:Fr)(lh:aD ah)(sh:List ah):
  bu pE (ae pE) z ⟨fr,lh,sh⟩ 76 [stV c zT aT fT a7 a8 a9 aw aA az vs,ln s,.agg [.i .i64 k.1,.b k.2]]=some (ln (ll t.fl[j] k s),⟨fr,lh,sh⟩):=by
 obtain⟨Y,O,U⟩:=hT.f
 obtain⟨r,F⟩:=mI O U j J
 have V:=jb _ (List.getElem_mem J)
 generalize t.fl[j]=f at*
 obtain⟨Z,q1,q2,q3,q4⟩:=V
 obtain⟨b1,b2,b3,K,N⟩:=hs
 obtain⟨kf,W⟩:=k
 simp only at hk
 subst hk
 rw[V1 (g:=countE) rfl rfl,uU (by simp only[List.all_cons,List.all_nil,vP];rfl)]
 simp only[Option.bind_some]
 have D:=Y7 s.ty
 have X:flAt fT (j:Int)=some (f.dp,f.ar,f.ty):=by unfold flAt;rw[F]
 have H:=aew s.ty
 have I:=aex f.ty s.ty
 cases W with
 |true=>
  unfold ln pW stV ll
  simp only[countE,D,K,decide_eq_true N,Bool.and_self,if_true,H,Option.bind_some]
  rw[bj yv]
 |false=>
  unfold ln pW stV ll
  simp only[countE,D,K,decide_eq_true N,Bool.and_self,if_true,X,Bool.false_eq_true,if_false,I,Option.bind_some]
  rw[bj (n:=s.lg+1) yv,bj (n:=f.ar-f.dp) yv,bj yv]
theorem RQ(k:Int×Bool)(j:Nat)(r:j<t.fl.length)(hk:k.1=j):
  ae pE 37 [stV c zT aT fT a7 a8 a9 aw aA az vs,.agg [.i .i64 k.1,.b k.2]] []=some (ln (ll t.fl[j] k (se k)),[]):=by
 have h1:=fun z fr lh sh=>Y8 t c zT aT fT a7 a8 a9 aw aA az vs hT jb (se k) (by unfold aey se;exact⟨⟨Int.le_refl _,(by decide:(0:Int)≤100)⟩,⟨Int.le_refl _,(by decide:(0:Int)≤100)⟩,⟨Int.le_refl _,(by decide:(0:Int)≤1099511640000)⟩,rfl,Nat.zero_le _⟩) k j r hk z fr lh sh
 have h2:ln (se k)= .agg [.i .i64 k.1,.b k.2,.i .i64 0,.b false,.i .i64 0,.i .i64 0,.i .i64 0,.i .i64 0,.i .i64 1440,.nilsl]:=rfl
 rw[h2]at h1
 have h3:=(gp (ll t.fl[j] k (se k)).ty).froz1
 rw[au asA (by simp[M0])]
 generalize ll t.fl[j] k (se k)=D at*
 unfold ln pW stV at*
 generalize Cp D.ty=yT at*
 simp(maxDischargeDepth:=6) only[qA,seval,M0,h1,h3]
theorem aez(s:wk)(hs:aey s)(k:Int×Bool)(i j:Nat)(hi:i<t.fl.length)(r:j<t.fl.length)(hl:s.lf=i)(hk:k.1=j):
  ae pE 38 [stV c zT aT fT a7 a8 a9 aw aA az vs,ln s,.agg [.i .i64 k.1,.b k.2]] []=some (ln (tu t.fl[i] t.fl[j] k s),[]):=by
 obtain⟨J,D⟩:=qN t c zT aT fT a7 a8 a9 aw aA az vs hT i hi
 obtain⟨K,F⟩:=qN t c zT aT fT a7 a8 a9 aw aA az vs hT j r
 obtain⟨_,N,O,U,V⟩:=jb _ (List.getElem_mem hi)
 obtain⟨_,W,X,Y,Z⟩:=jb _ (List.getElem_mem r)
 have H:wr .i64 (t.fl[j].dp-t.fl[i].ar)=t.fl[j].dp-t.fl[i].ar:=bj yv
 have h1:=fun z fr lh sh=>Y8 t c zT aT fT a7 a8 a9 aw aA az vs hT jb {s with lo:=max s.lo (t.fl[j].dp-t.fl[i].ar),so:=min s.so (t.fl[j].dp-t.fl[i].ar)} hs k j r hk z fr lh sh
 rw[show ll t.fl[j] k {s with lo:=max s.lo (t.fl[j].dp-t.fl[i].ar),so:=min s.so (t.fl[j].dp-t.fl[i].ar)}=tu t.fl[i] t.fl[j] k s from rfl]at h1
 have h3:=(gp (tu t.fl[i] t.fl[j] k s).ty).froz1
 have h4:=(gp s.ty).froz1
 rw[au asB (by simp[c38])]
 rw[hk]at h1 ⊢
 generalize tu t.fl[i] t.fl[j] k s=I at*
 have Cm:=lS c zT aT fT a7 a8 a9 aw aA az vs
 unfold ln pW at*
 rw[hl]at h1 ⊢
 generalize t.fl[i]=f at*
 generalize t.fl[j]=g at*
 generalize Cp I.ty=yT at*
 generalize Cp s.ty=zT' at*
 simp(maxDischargeDepth:=6) only[qA,seval,bp,aH,c38,D,F,EN,ajF,H,Cm,h1,h3,h4,mM,pM]
end
theorem tw.tail{k:Int×Bool}{r:List (Int×Bool)}{v:T}(h:tw (k::r) v): ∃D,te 2 v 1 (r.length+1)=some D∧tw r D:=by
 obtain⟨F,h1,h2⟩:=h
 obtain⟨p,q,rfl,e,h3⟩:=h2
 have hl:=aB.len TkR.len h3
 rw[TkR]at e
 subst e
 rcases h1 with⟨_,h1,_⟩|⟨ex,rfl⟩
 ·simp at h1
 ·refine⟨_, ?_,q,.inr ⟨(ex&&decide (r.length+1=(k::r).length)),rfl⟩,h3⟩
  unfold te
  simp only[List.length_cons]
  rw[if_pos ⟨by omega,by omega,by simp[hl];omega⟩]
  simp only[Option.some.injEq,T.sl.injEq,and_true]
  exact⟨List.take_of_length_le (by simp[hl]),by omega⟩
section
variable(t:Tt)(c:Ct)(zT aT fT a7 a8 a9 aw aA az:T)(hT:kN t zT aT fT)
include hT
theorem axs(vs:List T)(jb: ∀f∈t.fl,nW f)(hc:0≤c.cn∧c.st≤1440)(x:Int×Bool)(r:List (Int×Bool))(h6:(x::r).length≤6)(bo: ∀k∈x::r,lj t.fl.length k.1=true)(J:qc c t.fl (x::r)=true)(Z:T)(hv:tw r Z)(K:ah)(fr:Fr)(lh:aD ah)(sh:List ah)
  (h8:aa fr 8=stV c zT aT fT a7 a8 a9 aw aA az vs) (N:aa fr 11= .ptr .L 11 1 0) (yG:aa fr 37=Z) (H:aa fr 38= .i .i64 (r.length:Int)) (O:aa fr 39= .i .i64 0) (I:ab lh 6=K) (Hd:ab lh 11=⟨1,.cells (pW (nh t.fl (x::r) 1) (Cp (nh t.fl (x::r) 1).ty)) 0 true⟩):
  Lp pE 49 wo fr lh sh (.ext 0) fun f l s=>s=sh∧ab l 6=K∧ab l 11=⟨1,.cells (pW (nh t.fl (x::r) (r.length+1)) (Cp (nh t.fl (x::r) (r.length+1)).ty)) 0 true⟩:=by
 have D:=Ga hc jb h6 bo J
 refine cV Hi (fun k f l s=>aa f 39= .i .i64 (k:Int)∧s=sh∧ab l 6=K∧ab l 11=⟨1,.cells (pW (nh t.fl (x::r) (k+1)) (Cp (nh t.fl (x::r) (k+1)).ty)) 0 true⟩) r.length ⟨O,rfl,I,Hd⟩ ?_ ?_
 ·rintro k f l _ hk U ⟨F,rfl,I,Hd⟩
  have V:(k:Int)<r.length:=yv
  have hr6:r.length≤5:=by simpa using h6
  have hw:=aG (k:=k) yv
  obtain⟨rr,W⟩:=kO hv k hk
  have X:=D k (by simp;omega)
  have hJ:=D (k+1) (by simp;omega)
  obtain⟨i,hi,e,ef,_⟩:=dR jb bo (k:=k) (by simp;omega)
  obtain⟨j,hj,e2,eg,_⟩:=dR jb bo (k:=k+1) (by simp;omega)
  have hx:=aez t c zT aT fT a7 a8 a9 aw aA az vs hT jb _ (X.w yv) r[k] i j hi hj (by rw[X.2.2.2.1,pk (by simp;omega),e]) (by simpa using e2)
  have hs:nh t.fl (x::r) (k+1+1)=tu t.fl[i] t.fl[j] r[k] (nh t.fl (x::r) (k+1)):=by
   rw[←ef,←eg,nh,if_neg yv,pk (by simp;omega)]
   rfl
  rw[←hs]at hx
  have Cm:=lS c zT aT fT a7 a8 a9 aw aA az vs
  have SQ:=vP (nh t.fl (x::r) (k+1))
  have hy:=(gp (nh t.fl (x::r) (k+1+1)).ty).froz1
  have Y:=(gp (nh t.fl (x::r) (k+1)).ty).froz1
  clear X hJ hs D
  generalize nh t.fl (x::r) (k+1)=s0 at*
  generalize nh t.fl (x::r) (k+1+1)=s1 at*
  generalize r[k]=y at*
  unfold ln pW at*
  generalize Cp s0.ty=y0 at*
  generalize Cp s1.ty=y1 at*
  simp(maxDischargeDepth:=6) only[qA,seval,gd,wo,U,h8,N,yG,H,F,I,Hd,V,hw,W,Cm,hx,aAM,Y,hy,SQ]
 ·rintro f l _ U ⟨F,rfl,I,Hd⟩
  simp only[qA,seval,gd,wo,U,H,F,I,Hd,Int.lt_irrefl]
theorem aeA(hC:mG c a7 a8 a9 aw aA az)(hA:Hb c)(hk:eK t c=0)(d:List (Int×Bool))(dT:T)(hd:tw d dT)(hE:ev c t.fl d=0): ∃s,ae pE 10 [.agg [zT,aT,fT],.agg (aY c a7 a8 a9 aw aA az),dT] []=some (.tup [ln (nh t.fl d d.length),.i .i64 0],s):=by
 have W:=yJ t c zT aT fT a7 a8 a9 aw aA az hT hC
 obtain⟨X,Y,K,Z⟩:=fJ hE
 have H:=hd.sl.froz
 obtain⟨s0,vs,nP,_⟩:=Ov t c zT aT fT a7 a8 a9 aw aA az hT hC hA hk
 obtain⟨ht,hc⟩:=ng t c zT aT fT a7 a8 a9 aw aA az hT hC hA hk
 have jb:=(eP t ht).1
 have Cg:=BG c hc
 have Cm:=lS c zT aT fT a7 a8 a9 aw aA az vs
 have yN:froz1 (stV c zT aT fT a7 a8 a9 aw aA az vs)=true:=rfl
 have Y9:=Mo t c zT aT fT a7 a8 a9 aw aA az vs hT d dT hd yv
 rw[hE]at Y9
 cases d with
 |nil=>simp at X
 |cons x r=>
  obtain⟨v',Av,hv⟩:=hd.tail
  have I:kU dT=some (r.length+1):=hd.choose_spec.1.len
  obtain⟨rr,F⟩:=kO hd 0 xv
  obtain⟨j,hj,e,ef,_⟩:=dR jb K (k:=0) xv
  have N:=RQ t c zT aT fT a7 a8 a9 aw aA az vs hT jb x j hj (by simpa using e)
  have sw:nh t.fl (x::r) 1=ll t.fl[j] x (se x):=by rw[←ef];rfl
  rw[←sw]at N
  have F: ∀kk,iaV dT (.i kk (0:Int)) 2=some (.vp (.i .i64 x.1:: .b x.2::rr)):=F
  have p9:=hv.choose_spec.1.lenI
  have hL:=fun e6=>axs t c zT aT fT a7 a8 a9 aw aA az hT vs jb ⟨Cg.1,Cg.2.2.1⟩ x r Y K Z v' hv e6
  have K7:=(gp (nh t.fl (x::r) 1).ty).froz1
  have hy:=(gp (nh t.fl (x::r) (r.length+1)).ty).froz1
  rw[List.length_cons]
  generalize nh t.fl (x::r) 1=s1 at*
  generalize nh t.fl (x::r) (r.length+1)=s2 at*
  unfold ln pW at*
  unfold aY at*
  generalize Cp s1.ty=y1 at*
  generalize Cp s2.ty=y2 at*
  rw[au aso (by simp[wh])]
  simp(maxDischargeDepth:=6) only[qA,seval,V0,dD,wh,nP,Uy,Cm,yN,Y9,ajs,F,N,aAL,I,Av,p9,W,H,K7]
  generalize hD:DC pE 49 (.loop wo) _=D
  obtain⟨O,l2,s2',rfl,⟨rfl,U,Hd⟩,V⟩:=yq Hi hD (hL _ _ _ _ wW wW wW wW wW rfl wW)
  have p6:aa O 6= .ptr .L 6 1 0:=by rw[V 6 xW];simp only[qA,seval]
  have J:aa O 11= .ptr .L 11 1 0:=by rw[V 11 xW];simp only[qA,seval]
  simp only[qA,seval]at U
  simp(maxDischargeDepth:=6) only[qA,seval,p6,J,U,Hd,hy]
  exact⟨_,rfl⟩
end
def Za(A:List Int):List T:=(bw.zip A).flatMap fun p=> [.s p.1,.i .i64 p.2]
theorem JR(A:List Int)(hA:A.length=11)(ex:Bool):ae pE 40 [.i .i64 1,.sl (ints A) 11 ex] []=some (.sl (Za A) 11 false,[]):=by
 match A,hA with
 | [a0,a1,a2,D,F,H,I,a7,a8,a9,aw],_=>
   have r:=axt
   have hU: ∀st,DC pE 30 zS st=DC pE 30 zS st:=fun _=>rfl
   conv at hU=>enter [st,2];unfold zS
   have YR:(11:Nat)*24≤roomy∧(11:Nat)≤roomy:=by unfold roomy;omega
   rw[au asE (by simp[c40])]
   unfold Za bw ints at*
   unfold strs at r
   simp only[List.map_cons,List.map_nil]at*
   simp(maxDischargeDepth:=6) only[qA,seval,cO,repl,c40,YR,r,UA,tg zS,hU,List.zip_cons_cons,List.zip_nil_left,List.flatMap_cons,List.flatMap_nil]
theorem aDY{s:List Nat}{x:Int}:Option.map (fun r=>T.b (r != true)) (pP (.flat [.str,.int]) (.agg [.s s,.i .i64 x]) (.agg [.s s,.i .i64 x]))=some (.b false):=by
 simp[pP,bV,dU]
theorem aeB(A:List Int)(hA:A.length=11)(ex r:Bool):ae pE 15 [.sl (Za A) 11 ex,.sl (Za A) 11 r] []=some (.b true,[]):=by
 match A,hA with
 | [a0,a1,a2,D,F,H,I,a7,a8,a9,aw],_=>
   have hU: ∀st,DC pE 26 zO st=DC pE 26 zO st:=fun _=>rfl
   conv at hU=>enter [st,2];unfold zO
   rw[au ass (by simp[c15])]
   unfold Za bw
   simp(maxDischargeDepth:=6) only[qA,seval,cO,bp,aH,aDY,c15,tg zO,hU,List.zip_cons_cons,List.zip_nil_left,List.flatMap_cons,List.flatMap_nil]
section
variable(t:Tt)(c:Ct)(zT aT fT a7 a8 a9 aw aA az:T)(vs:List T)(hT:kN t zT aT fT)(hV:yH t c vs)(ht:nR t=0)(hc:fi c=0)
include hT hV ht hc
theorem Zb(s:wk)(i j:Nat)(hi:i<t.fl.length)(H:j<t.fl.length)(I:s.ff=i)(hl:s.lf=j): ∃r,ae pE 41 [stV c zT aT fT a7 a8 a9 aw aA az vs,ln s] []=some (.sl (ints (aev t c s)) 11 false,r):=by
 have D:kept (stV c zT aT fT a7 a8 a9 aw aA az vs)=true:=nr rfl
 have J:=JH t c zT aT fT a7 a8 a9 aw aA az vs hT hV ht hc i j hi H
 have YR:(11:Nat)*8≤roomy∧(11:Nat)≤roomy:=by unfold roomy;omega
 have K:=(gp s.ty).lenI
 have F:=(gp s.ty).froz1
 unfold aev
 rw[au asG (by simp[c41])]
 unfold ln pW
 rw[I,hl,Mb hi,Mb H]
 generalize t.fl[i]=f at*
 generalize t.fl[j]=g at*
 generalize Cp s.ty=yT at*
 simp only[qA,seval,repl,eJ,dx,c41,vM,YR,K,F,D,Eg,J,as4]
 exact⟨_,rfl⟩
end
section
variable(t:Tt)(c:Ct)(zT aT fT a7 a8 a9 aw aA az:T)(hT:kN t zT aT fT)(hC:mG c a7 a8 a9 aw aA az)(hA:Hb c)(hk:eK t c=0)(d:List (Int×Bool))(dT:T)(hd:tw d dT)(hE:ev c t.fl d=0)
include hT hC hA hk hd hE
theorem aeC: ∃s,ae pE 12 [.agg [zT,aT,fT],.agg (aY c a7 a8 a9 aw aA az),dT] []=some (.tup [.sl (Za (aN t c d)) 11 false,.i .i64 0],s):=by
 obtain⟨h1,h6,bo,_⟩:=fJ hE
 obtain⟨vs,e1,hS⟩:=aes t c zT aT fT a7 a8 a9 aw aA az hT hC hA hk d dT hd yv
 rw[if_pos hE]at e1
 have F:=yJ t c zT aT fT a7 a8 a9 aw aA az hT hC
 have Y4:=hd.sl.froz
 have Cm:=lS c zT aT fT a7 a8 a9 aw aA az vs
 have H:froz1 (stV c zT aT fT a7 a8 a9 aw aA az vs)=true:=rfl
 obtain⟨ht,hc⟩:=ng t c zT aT fT a7 a8 a9 aw aA az hT hC hA hk
 obtain⟨K,r⟩:=YQ t c zT aT fT a7 a8 a9 aw aA az vs hT hS ht hc d dT hd h1 yv bo
 have SX:=lX (t:=t) (c:=c) ht hc h1 (show d.length≤100 by omega) bo
 have dh:=JR (aN t c d) SX.1 false
 have D:froz (.sl (ints (aN t c d)) 11 false)=true:=rfl
 generalize stV c zT aT fT a7 a8 a9 aw aA az vs=S at*
 generalize ints (aN t c d)=I at*
 generalize Za (aN t c d)=J at*
 unfold aY at*
 rw[au asq (by simp[Ce])]
 simp(maxDischargeDepth:=6) only[qA,seval,Ce,F,e1,r,dh,aAN,asK,asF,Y4,Cm,H,D]
 exact⟨_,rfl⟩
theorem amb:StI t.fl d (d.length-1) (nh t.fl d d.length):=by
 have _:=hd
 obtain⟨ht,hc⟩:=ng t c zT aT fT a7 a8 a9 aw aA az hT hC hA hk
 have Cg:=BG c hc
 obtain⟨h1,h6,bo,r⟩:=fJ hE
 have h:=Ga ⟨Cg.1,Cg.2.2.1⟩ (eP t ht).1 h6 bo r (d.length-1) yv
 rwa [Nat.sub_add_cancel h1]at h
theorem Zc: ∃vs F r,ae pE 35 [.agg [zT,aT,fT],.agg (aY c a7 a8 a9 aw aA az)] []=some (.tup [stV c zT aT fT a7 a8 a9 aw aA az vs,.i .i64 0],F)∧yH t c vs∧ae pE 39 [stV c zT aT fT a7 a8 a9 aw aA az vs,ln (nh t.fl d d.length)] []=some (.b true,[])∧ae pE 41 [stV c zT aT fT a7 a8 a9 aw aA az vs,ln (nh t.fl d d.length)] []=some (.sl (ints (aN t c d)) 11 false,r):=by
 obtain⟨h1,h6,bo,_⟩:=fJ hE
 have D:=amb t c zT aT fT a7 a8 a9 aw aA az hT hC hA hk d dT hd hE
 obtain⟨F,vs,I,hS⟩:=Ov t c zT aT fT a7 a8 a9 aw aA az hT hC hA hk
 obtain⟨ht,hc⟩:=ng t c zT aT fT a7 a8 a9 aw aA az hT hC hA hk
 obtain⟨J,K,V⟩:=hT.f
 have hv:=aeb zT aT fT (aY c a7 a8 a9 aw aA az++vs) J t.fl.length K _ _ (gp (nh t.fl d d.length).ty) (by have:=D.2.2.2.2.2.1;omega)
 obtain⟨i,hi,N,_⟩:=dR (eP t ht).1 bo (k:=0) yv
 obtain⟨j,O,U,_⟩:=dR (eP t ht).1 bo (k:=d.length-1) yv
 obtain⟨r,H⟩:=Zb t c zT aT fT a7 a8 a9 aw aA az vs hT hS ht hc (nh t.fl d d.length) i j hi O (by rw[D.2.2.2.2.1,pk yv,N]) (by rw[D.2.2.2.1,pk yv,U])
 rw[RP h1 D]at H
 rw[D.1]at hv
 exact⟨vs,F,r,I,hS,hv,H⟩
theorem amc: ∃s,ae pE 11 [.agg [zT,aT,fT],.agg (aY c a7 a8 a9 aw aA az),ln (nh t.fl d d.length)] []=some (.tup [.sl (Za (aN t c d)) 11 false,.i .i64 0],s):=by
 obtain⟨h1,h6,bo,_⟩:=fJ hE
 obtain⟨vs,O,r,e1,hS,e2,e3⟩:=Zc t c zT aT fT a7 a8 a9 aw aA az hT hC hA hk d dT hd hE
 have K:=yJ t c zT aT fT a7 a8 a9 aw aA az hT hC
 have Cm:=lS c zT aT fT a7 a8 a9 aw aA az vs
 have N:froz1 (stV c zT aT fT a7 a8 a9 aw aA az vs)=true:=rfl
 obtain⟨ht,hc⟩:=ng t c zT aT fT a7 a8 a9 aw aA az hT hC hA hk
 have SX:=lX (t:=t) (c:=c) ht hc h1 (show d.length≤100 by omega) bo
 have dh:=JR (aN t c d) SX.1 false
 have D:froz (.sl (ints (aN t c d)) 11 false)=true:=rfl
 have F:=vP (nh t.fl d d.length)
 have H:=(gp (nh t.fl d d.length).ty).froz1
 generalize stV c zT aT fT a7 a8 a9 aw aA az vs=S at*
 generalize ints (aN t c d)=I at*
 generalize Za (aN t c d)=J at*
 generalize nh t.fl d d.length=s at*
 unfold ln pW at*
 generalize Cp s.ty=yT at*
 unfold aY at*
 rw[au asp (by simp[yS])]
 simp(maxDischargeDepth:=6) only[qA,seval,yS,K,e1,e2,e3,dh,Uy,asD,asF,asH,Cm,N,D,F,H]
 exact⟨_,rfl⟩
theorem amd: ∃s,ae pE 13 [.agg [zT,aT,fT],.agg (aY c a7 a8 a9 aw aA az),ln (nh t.fl d d.length)] []=some (.tup [.b (iI t c d),.i .i64 0],s):=by
 obtain⟨h1,h6,bo,_⟩:=fJ hE
 obtain⟨vs,s0,r,e1,hS,e2,e3⟩:=Zc t c zT aT fT a7 a8 a9 aw aA az hT hC hA hk d dT hd hE
 have Z:=yJ t c zT aT fT a7 a8 a9 aw aA az hT hC
 have Cm:=lS c zT aT fT a7 a8 a9 aw aA az vs
 have yN:froz1 (stV c zT aT fT a7 a8 a9 aw aA az vs)=true:=rfl
 obtain⟨ht,hc⟩:=ng t c zT aT fT a7 a8 a9 aw aA az hT hC hA hk
 have SX:=lX (t:=t) (c:=c) ht hc h1 (show d.length≤100 by omega) bo
 obtain⟨g1,g2,g3,g4,g5⟩:=aiv (t:=t) hc SX
 have dh:IsSl (.sl (ints (aN t c d)) 11 false) (aN t c d).length (ints (aN t c d)):= .inr ⟨false,by rw[SX.1]⟩
 obtain⟨q,O,U,V,W,X,c3,cr,Y,D,_,_,F,_,_,ko1,_,_,cro⟩:=hS
 have D:vs=YV (.vm (q.map fun p=>sK p.1) (q.map fun p=>T.agg p.2)) O U V W X c3 cr (.b Y):=D
 have H:=YW c zT aT fT a7 a8 a9 aw aA az (.vm (q.map fun p=>sK p.1) (q.map fun p=>T.agg p.2)) O U V W X c3 cr (.b Y) _ _ dh (sg c) F g1 yv
 rw[←D]at H
 rw[show jk (aN t c d) (sg c)=iI t c d from rfl]at H
 have J:froz (.sl (ints (aN t c d)) 11 false)=true:=rfl
 have K:=vP (nh t.fl d d.length)
 have N:=(gp (nh t.fl d d.length).ty).froz1
 generalize stV c zT aT fT a7 a8 a9 aw aA az vs=S at*
 generalize ints (aN t c d)=I at*
 generalize nh t.fl d d.length=s at*
 generalize iI t c d=b at*
 unfold ln pW at*
 generalize Cp s.ty=yT at*
 unfold aY at*
 rw[au asr (by simp[c13])]
 simp(maxDischargeDepth:=6) only[qA,seval,c13,Z,e1,e2,e3,H,Uy,asD,asH,aAO,Cm,yN,J,K,N]
 exact⟨_,rfl⟩
end
mutual
def Ex.al:Ex→Prop
 | .mk _ _ _ args=>args.length≤gm∧alL args
def alL:List Ex→Prop
 | []=>True
 |x::xs=>x.al∧alL xs
end
structure CtA (c:Ct):Prop where
 a7:(∀u∈c.cs,u.2.al)∧c.cs.length≤gm
 a8:(∀u∈c.ru,u.x.al)∧c.ru.length≤gm
 a9:(∀u∈c.co,u.x.al)∧c.co.length≤gm
 aw:(∀u∈c.cr,u.al)∧c.cr.length≤gm
 aA:c.li.length≤gm
 az:c.fs.length≤gm
theorem Gb{s:List Nat}: ∀{l:List (List Nat)} {k:Nat},s∈l→ ∃i,∃hi:i<l.length,ixA s l k=((k+i:Nat):Int)∧l[i]=s
 | [],k,h=>by cases h
 |x::r,k,h=>by
  rw[ixA]
  by_cases e:x=s
  ·rw[if_pos e];exact⟨0,by simp,rfl,e⟩
  ·rw[if_neg e]
   rcases List.mem_cons.1 h with h|h
   ·grind
   ·obtain⟨i,hi,h1,h2⟩:=Gb (k:=k+1) h
    exact⟨i+1,by simpa using hi,by rw[h1];congr 1;omega,by simpa using h2⟩
section
variable(t:Tt)(c:Ct)(zT aT fT a7 a8 a9 aw aA az:T)(hT:kN t zT aT fT)(hC:mG c a7 a8 a9 aw aA az)(ht:nR t=0)(hc:fi c=0)
theorem OS(hT:kN t zT aT fT)(ht:nR t=0){s:List Nat}(hs:s∈t.ap.map Ap.cd): ∃a,ae pE 97 [.agg [zT,aT,fT],.s s] []=some (.agg (l9 (yM t s) a),[])∧ZoT (yM t s) a:=by
 obtain⟨⟨O,r,J⟩,⟨ac,D,K⟩,⟨Y,U,Z⟩⟩:=hT
 obtain⟨_,l1,_,l2⟩:=L7 t ht
 have h1:=aii s t.ap aT ac D K yv
 obtain⟨i,hi,e1,e2⟩:=Gb (k:=0) hs
 rw[List.length_map]at hi
 rw[List.getElem_map]at e2
 have F:=(vH t ht).2.1 t.ap[i] (List.getElem_mem hi)
 have h2:=aif t.ap[i].zn t.zo zT O r J yv
 obtain⟨j,H,e3,e4⟩:=Gb (k:=0) F
 rw[List.length_map]at H
 rw[List.getElem_map]at e4
 rw[e1,Nat.zero_add]at h1
 rw[e3,Nat.zero_add]at h2
 have V:=Mi ht (List.getElem_mem hi) (List.getElem_mem H) e2 e4
 obtain⟨r1,h3⟩:=Jc D K i hi
 obtain⟨N,W,r2,h4,I,s2⟩:=Jb r J j H
 rw[V]
 refine⟨N, ?_,W,I,s2⟩
 have X: ¬((i:Nat):Int)<0:=yv
 generalize t.ap[i]=u at*
 generalize t.zo[j]=z at*
 have h5:ae pE 170 [.agg [zT,aT,fT],.s s] []=some (.tup [.agg (l9 z N),.b true],[]):=by
  unfold l9
  rw[au agx (by simp[TJ])]
  simp only[qA,seval,bp,aH,TJ,h1,h2,h3,h4,X,I.froz1,r.froz,D.froz,Nb,UT,agq]
 unfold l9 at*
 rw[au ajI (by simp[c97])]
 simp only[qA,seval,c97,h5,I.froz1,r.froz1,D.froz1,U.froz1,atQ]
end
theorem Ek(z:Zo)(a:T)(D:ZoT z a)(hv:gv z=0)(t:Int)(ht:nQ t=true):ae pE 100 [.agg (l9 z a),.i .i64 t] []=some (.i .i64 (z.clk t),[]):=by
 have h1:=YF z a D hv t ht
 have r:froz1 a=true:=by obtain⟨H,F,_⟩:=D;exact F.froz1
 unfold l9 at*
 rw[au UE (by simp[Th])]
 simp only[qA,seval,Th,h1,r,atU]
section
variable(t:Tt)(c:Ct)(zT aT fT a7 a8 a9 aw aA az:T)(hT:kN t zT aT fT)(hC:mG c a7 a8 a9 aw aA az)(ht:nR t=0)(hc:fi c=0)
include hT hC ht hc
theorem Zd(f g:Fl)(X:f∈t.fl)(Y:g∈t.fl):ae pE 54 [.agg [zT,aT,fT],.agg (aY c a7 a8 a9 aw aA az),.s f.fr,.s g.to,.agg [.i .i64 (ph c f),.i .i64 (pj c g)]] []=some (.tup [.i .i64 (pj c g-ph c f),.i .i64 (CY t c f g),.i .i64 (F1 t c f g),.i .i64 (JE t c f),.i .i64 (JF t c g)],[]):=by
 have I:=yJ t c zT aT fT a7 a8 a9 aw aA az hT hC
 obtain⟨b1,b2,_,_,w3⟩:=JG hc ((eP t ht).1 _ X) ((eP t ht).1 _ Y)
 obtain⟨Z,J,KA⟩:=OS t zT aT fT hT ht (ij ht X).1
 obtain⟨zb,K,D⟩:=OS t zT aT fT hT ht (ij ht Y).2
 have N:=xu ht (ij ht X).1
 have W:=xu ht (ij ht Y).2
 have nf:=OG hc
 have i1:=zx (x:=ph c f) yv
 have i2:=zx (x:=pj c g) yv
 have o1:=pf _ Z KA (iq N).2.1 N (ph c f)
 have o2:=pf _ zb D (iq W).2.1 W (pj c g)
 have l1:=Ek _ Z KA N _ i1
 have l2:=Ek _ zb D W _ i2
 have d1:=Zo.off_bd N (ph c f)
 have d2:=Zo.off_bd W (pj c g)
 have bm:ph c f≤pj c g→_:=fun h=>alW _ Z KA N (ph c f) (pj c g) c.nf c.nt ⟨by omega,by omega,by omega,by omega,by omega,by omega,by omega⟩
 have hni:CY t c f g=if ph c f≤pj c g then(yM t f.fr).bandM (ph c f) (pj c g) c.nf c.nt else 0:=by
  grind [CY,Zo.bandM,rR]
 have O:=KA.choose_spec.1.froz1
 have U:=D.choose_spec.1.froz1
 have ca:=KA.choose_spec.1.cells
 have cb:=D.choose_spec.1.cells
 rw[hni]
 unfold F1 JE JF
 generalize ph c f=S at*
 generalize pj c g=E at*
 generalize yM t f.fr=F at*
 generalize yM t g.to=H at*
 have w4:wr .i64 (H.off E-F.off S)=H.off E-F.off S:=bj yv
 have w5:wr .i64 (0-(H.off E-F.off S))=F.off S-H.off E:=by rw[bj yv];omega
 have V:max (H.off E-F.off S) (F.off S-H.off E)=max (F.off S-H.off E) (H.off E-F.off S):=yv
 generalize F.off S=p1 at*
 generalize H.off E=p2 at*
 unfold l9 aY at*
 rw[au ajt (by simp[c54])]
 by_cases r:S≤E
 ·have bm:=bm r
  rw[if_pos r]
  simp only[qA,seval,bp,Bj,aH,c54,J,K,w3,w4,w5,r,bm,o1,o2,l1,l2,mM,V,O,U,I,atf,atg,ati,UD,atj,afH,afI]
 ·rw[if_neg r]
  simp only[qA,seval,bp,Bj,aH,c54,J,K,w3,w4,w5,r,o1,o2,l1,l2,mM,V,O,U,I,atf,atg,ati,UD,atj,afH,afI]
end
def jB(l:List (List Nat×Int)):List T:=l.flatMap fun p=> [.s p.1,.i .i64 p.2]
theorem Ze(l:List (List Nat×Int)):(jB l).length=l.length*2:=iT (sz:=2) (fun _=>rfl) l
theorem Zf(l:List (List Nat×Int))(p:List Nat×Int):jB l++ [.s p.1,.i .i64 p.2]=jB (l++ [p]):=by unfold jB;rw[List.flatMap_append];rfl
def fD(A:List Int):List (List Nat×Int):=bw.zip A
theorem ints_at{A:List Int}{v:T}(h:IsSl v A.length (ints A))(k:Nat)(hk:k<A.length): ∃r,∀kk,iaV v (.i kk (k:Int)) 1=some (.vp (.i .i64 A[k]::r)):=by
 refine⟨(ints A).drop (k+1),fun kk=> ?_⟩
 rw[h.ia (sz:=1) (by rw[dX];omega) hk,Nat.mul_one,lB A k hk]
theorem Zg(k:Nat)(hk:k<11): ∃r,∀kk,iaV (.sl (strs bw) 11 true) (.i kk (k:Int)) 1=some (.vp (.s (bw[k]'(by show k<11;exact hk))::r)):=by
 have hs:IsSl (.sl (strs bw) 11 true) 11 (strs bw):= .inr ⟨true,rfl⟩
 refine⟨(strs bw).drop (k+1),fun kk=> ?_⟩
 rw[hs.ia (sz:=1) rfl hk,Nat.mul_one,List.drop_eq_getElem_cons (by show k<11;exact hk)]
 unfold strs
 rw[List.getElem_map]
theorem aDZ(A:List Int)(v:T)(hA:A.length=11)(hv:IsSl v A.length (ints A))(fr:Fr)(lh:aD ah)(sh:List ah)(h1:aa fr 1=v)(h5:aa fr 5= .nilsl)(h6:aa fr 6= .sl (strs bw) 11 true)(D:aa fr 7= .i .i64 0):
  pT 29 oC fr lh sh (.ext 0)∧
  (bg (im pE 29 oC fr lh sh) (aa (mY pE 29 oC fr lh sh) 5) 27 2 11 (jB (fD A))∧iH pE 29 oC fr lh sh=sh):=by
 refine eu (fun k st=> ∃(fr:Fr) (lh:aD ah),st=⟨fr,lh,sh⟩∧aa fr 1=v∧aa fr 6= .sl (strs bw) 11 true∧aa fr 7= .i .i64 (k:Int)∧bg lh (aa fr 5) 27 2 k (jB ((fD A).take k)))
  (fun K N O=>bg N (aa K 5) 27 2 11 (jB (fD A))∧O=sh) _ 11 ?_ ?_ fr lh sh ⟨fr,lh,rfl,h1,h6,D,by rw[h5];exact bg.nil⟩
 ·rintro k _ hk ⟨fr,lh,rfl,h1,h6,D,r⟩
  have H:(k:Int)<11:=yv
  have U:=aG (k:=k) yv
  obtain⟨X,He⟩:=Zg k hk
  obtain⟨Y,CG⟩:=ints_at hv k yv
  have V:(fD A).length=11:=by unfold fD;rw[List.length_zip,hA];rfl
  have W:jB ((fD A).take (k+1))=jB ((fD A).take k)++ [.s (bw[k]'(by show k<11;exact hk)),.i .i64 (A[k]' yv)]:=by
   rw[List.take_succ_eq_append_getElem yv,←Zf]
   unfold fD
   rw[List.getElem_zip]
  rw[W]
  generalize bw[k]'(by show k<11;exact hk)=nm at*
  generalize A[k]' yv=x at*
  have I:=dO (sh:=sh) r [.s nm,.i .i64 x] rfl (bytes:=24) (by unfold roomy;omega) true
  have J:=r.notS
  have F:=LS r rfl
  generalize h5:aa fr 5=v5 at r I J F
  simp only[qA,seval,repl,bp,aH,fK,oC,h1,h5,h6,D,H,He,CG,U,J,F,I.1]
  exact cU ⟨_,_,rfl,by simp only[qA,seval,h1],by simp only[qA,seval,h6],by simp only[qA,seval],by simp only[qA,seval];exact I.2.1⟩
 ·rintro _ ⟨fr,lh,rfl,h1,h6,D,r⟩
  have V:(fD A).length=11:=by unfold fD;rw[List.length_zip,hA];rfl
  rw[List.take_of_length_le yv]at r
  simp only[qA,seval,oC,h6,D,Int.lt_irrefl]
  exact fv ⟨rfl,by simp only[qA,seval];exact r,rfl⟩
theorem RR(A:List Int)(v:T)(hA:A.length=11)(hv:IsSl v A.length (ints A)):ae pE 285 [.i .i64 1,v] []=some (.sl (jB (fD A)) 11 false,[]):=by
 have hL:=fun fr lh sh h1 h5 h6 r=>aDZ A v hA hv fr lh sh h1 h5 h6 r
 have D:=fun m keep fr lh sh h1 h5 h6 r=>bg.fzW (m:=m) (keep:=keep) (sh:=sh) (hL fr lh sh h1 h5 h6 r).2.1
 have SU:=fun keep fr lh sh h1 h5 h6 r=>bg.fzV (keep:=keep) (sh:=sh) (hL fr lh sh h1 h5 h6 r).2.1
 have F:bA 11 (jB (fD A))= .sl (jB (fD A)) 11 false:=rfl
 rw[F]at D SU
 rw[au ahD (by simp[Ur])]
 simp only[qA,seval,Ur,Bm,hL,SU,xk,K2]
theorem aeD(l:List (List Nat))(k:Nat)(hk:k<l.length):(l.map T.s)[k]? =some (.s l[k]):=by rw[List.getElem?_map,List.getElem?_eq_getElem hk];rfl
theorem aD0(f:Fl)(ks:List (List Nat))(hlen:ks.length≤1000)(g:Nat)(fr:Fr)(lh:aD ah)(sh:List ah)(r:bg lh (aa fr 12) 98 1 ks.length (ks.map T.s))(O:aa fr 14= .ptr .L 14 g 0)(U:aa fr 16= .b false)(V:aa fr 17= .i .i64 0)(F:ab lh 14=⟨g,.cells (ti f) 0 true⟩):
  Lp pE 134 uk fr lh sh (.ext 2) fun D l s=>aa D 16= .b (decide (f.ty∈ks))∧l=lh∧s=sh:=by
 unfold ti at F
 have I:=r.lenI
 refine cV wO (fun k D l s=>aa D 16= .b (decide (f.ty∈ks.take k))∧aa D 17= .i .i64 (k:Int)∧l=lh∧s=sh) ks.length ⟨by rw[U];simp,V,rfl,rfl⟩ ?_ ?_
 ·rintro k D _ _ hk J ⟨H,Mp,rfl,rfl⟩
  have K:(k:Int)<ks.length:=yv
  have W:=aG (k:=k) yv
  rcases r with⟨h,_,_⟩|⟨g2,wm,r,o98,hl,hp⟩
  ·omega
  have AV:=aeD ks k hk
  have X:decide (f.ty∈ks.take (k+1))=(decide (f.ty∈ks.take k)||decide (ks[k]=f.ty)):=by
   rw[List.take_succ_eq_append_getElem hk]
   grind
  rw[r]at I
  cases N:decide (f.ty∈ks.take k) <;> rw[N]at H <;> simp only[qA,seval,gd,uk,J,r,O,H,Mp,F,o98,I,K,hk,AV,W,X,N,Bool.false_or,Bool.true_or]
 ·rintro D _ _ J ⟨H,Mp,rfl,rfl⟩
  rw[List.take_length]at H
  simp only[qA,seval,gd,uk,J,H,Mp,I,Int.lt_irrefl]
section
variable(t:Tt)(c:Ct)(zT aT fT a7 a8 a9 aw aA az:T)(hT:kN t zT aT fT)(hC:mG c a7 a8 a9 aw aA az)(ht:nR t=0)(hc:fi c=0)
theorem aD1(hT:kN t zT aT fT)(ht:nR t=0)(d:List (Int×Bool))(dT:T)(hd:tw d dT)(hlen:d.length≤100)(bo: ∀k∈d,lj t.fl.length k.1=true)(E4:ah)(fr:Fr)(lh:aD ah)(sh:List ah)(h2:aa fr 2=dT)(h3:aa fr 3= .ptr .L 3 1 0)(h4:aa fr 4= .ptr .L 4 1 0)(J:aa fr 7= .i .i64 0)(K:aa fr 8= .i .i64 0)(N:aa fr 9= .i .i64 0)(r:aa fr 10= .i .i64 0)(D:aa fr 11= .i .i64 1440)(h12:aa fr 12= .nilsl)(O:aa fr 13= .i .i64 0)(U:ab lh 3=⟨1,.cells [zT,aT,fT] 0 true⟩)(V:ab lh 4=E4):
  Lp pE 134 rj fr lh sh (.ext 0) fun f l s=>aa f 7= .i .i64 (kE t.fl d d.length).lg∧aa f 8= .i .i64 (kE t.fl d d.length).hd∧aa f 9= .i .i64 (kE t.fl d d.length).bk∧aa f 10= .i .i64 (kE t.fl d d.length).lo∧aa f 11= .i .i64 (kE t.fl d d.length).so∧lenI (aa f 12)=some (.i .i64 ((kE t.fl d d.length).ks.length:Int))∧ab l 3=⟨1,.cells [zT,aT,fT] 0 true⟩∧ab l 4=E4∧s=sh:=by
 have eF:=hd.sl.lenI
 refine cV Dp (fun k f l s=>aa f 7= .i .i64 (kE t.fl d k).lg∧aa f 8= .i .i64 (kE t.fl d k).hd∧aa f 9= .i .i64 (kE t.fl d k).bk∧aa f 10= .i .i64 (kE t.fl d k).lo∧aa f 11= .i .i64 (kE t.fl d k).so∧aa f 13= .i .i64 (k:Int)∧bg l (aa f 12) 98 1 (kE t.fl d k).ks.length ((kE t.fl d k).ks.map T.s)∧ab l 3=⟨1,.cells [zT,aT,fT] 0 true⟩∧ab l 4=E4∧s=sh) d.length ⟨J,K,N,r,D,O,by rw[h12];exact bg.nil,U,V,rfl⟩ ?_ ?_
 ·rintro k W l _ hk pr ⟨J,K,N,r,D,O,F,U,V,rfl⟩
  have X:(k:Int)<d.length:=yv
  have hw:=aG (k:=k) yv
  have jU:=(eP t ht).1
  obtain⟨rr,H⟩:=kO hd k hk
  obtain⟨i,hi,ei,ef,Y⟩:=dR jU bo hk
  obtain⟨fc,Z,fc2⟩:=hT.f
  obtain⟨r2,I⟩:=mI Z fc2 i hi
  rw[←ef]at I
  obtain⟨c1,c2,c3,c4,c5,c6⟩:=F4 jU bo k yv
  have iw:kE t.fl d (k+1)=if k=0 then F2 (db t.fl d k) d[k].2 (kE t.fl d k)else RI (db t.fl d (k-1)) (db t.fl d k) (F2 (db t.fl d k) d[k].2 (kE t.fl d k)):=by rw[kE,pk hk]
  have eU:=fun(aU:aD ah) (aX:List ah) (e:ab aU 98=ab l 98)=>dO (sh:=aX) (F.congr e) [.s (db t.fl d k).ty] rfl (bytes:=16) (ais yv) true
  have mN:=F.notS
  rw[ei]at H
  obtain⟨_,f1,f2,f3,f4⟩:=id Y
  obtain⟨G,hG⟩: ∃G,(ab l 14).g+1=G:=⟨_,rfl⟩
  have hD:=aD0 (db t.fl d k) (kE t.fl d k).ks yv G
  unfold ti at hD
  generalize axx:aa W 12=v12 at F eU mN
  generalize kE t.fl d k=s at*
  have w1:wr .i64 (s.lg+1)=s.lg+1:=bj yv
  have w2:wr .i64 (s.hd+1)=s.hd+1:=bj yv
  have w3:wr .i64 (s.bk+(db t.fl d k).ar)=s.bk+(db t.fl d k).ar:=bj yv
  have w4:wr .i64 (s.bk+(db t.fl d k).ar-(db t.fl d k).dp)=s.bk+((db t.fl d k).ar-(db t.fl d k).dp):=by rw[bj yv];omega
  have hks:adK (db t.fl d k).ty s.ks=if(db t.fl d k).ty∈s.ks then s.ks else s.ks++ [(db t.fl d k).ty]:=rfl
  by_cases yF:k=0
  ·have Mk: ¬(0:Int)<(k:Int):=yv
   rw[iw,if_pos yF]
   generalize db t.fl d k=f at*
   generalize d[k].2=b at*
   cases b <;> by_cases hm:f.ty∈s.ks <;> simp only[qA,seval,gd,bp,Bj,aH,repl,rj,wO,pr,h2,h3,J,K,N,r,D,O,axx,U,V,eF,X,hw,H,I,w1,w2,w3,w4,Mk,hG,hD,eG,F,hm,hks,F2,mN,eU,List.length_append,List.map_append]
  ·have Mk:(0:Int)<(k:Int):=yv
   have zi:=iY (k:=k) yv yv
   obtain⟨r3,KI⟩:=kO hd (k-1) yv
   obtain⟨j,hj,ej,eg,gok⟩:=dR jU bo (k:=k-1) yv
   obtain⟨r4,hfb⟩:=mI Z fc2 j hj
   rw[←eg]at hfb
   rw[ej]at KI
   have gap:=Mj Y gok
   have w5:wr .i64 ((db t.fl d k).dp-(db t.fl d (k-1)).ar)=(db t.fl d k).dp-(db t.fl d (k-1)).ar:=bj yv
   rw[iw,if_neg yF]
   generalize db t.fl d k=f at*
   generalize db t.fl d (k-1)=g at*
   generalize d[k].2=b at*
   cases b <;> by_cases hm:f.ty∈s.ks <;> simp only[qA,seval,gd,bp,Bj,aH,repl,rj,wO,pr,h2,h3,J,K,N,r,D,O,axx,U,V,eF,X,hw,H,I,w1,w2,w3,w4,Mk,hG,hD,eG,F,hm,hks,RI,F2,mN,eU,List.length_append,List.map_append,mM,pM,KI,hfb,zi,w5]
 ·rintro W l _ pr ⟨J,K,N,r,D,O,F,U,V,rfl⟩
  simp only[qA,seval,gd,rj,pr,h2,J,K,N,r,D,O,F.lenI,U,V,eF,Int.lt_irrefl]
end
section
variable(t:Tt)(c:Ct)(zT aT fT a7 a8 a9 aw aA az:T)(hT:kN t zT aT fT)(hC:mG c a7 a8 a9 aw aA az)(ht:nR t=0)(hc:fi c=0)(d:List (Int×Bool))(dT:T)(hd:tw d dT)(h1:1≤d.length)(hlen:d.length≤100)(bo: ∀k∈d,lj t.fl.length k.1=true)
include hT ht hd h1 hlen bo
theorem El:ae pE 204 [.agg [zT,aT,fT],dT] []=some (.agg (ti (db t.fl d 0)),[]):=by
 obtain⟨i,j,J,K,hi,N,r,O,D,U⟩:=YY t zT aT fT hT ht d dT hd h1 hlen bo
 obtain⟨⟨V,W,X⟩,⟨ac,Y,Z⟩,⟨fc,F,H⟩⟩:=hT
 obtain⟨r3,I⟩:=mI F H i hi
 rw[r]
 generalize t.fl[i]=f at*
 unfold ti
 rw[au Va (by simp[TW])]
 simp only[qA,seval,bp,aH,TW,D,I]
theorem JS:ae pE 205 [.agg [zT,aT,fT],dT] []=some (.agg (ti (db t.fl d (d.length-1))),[]):=by
 obtain⟨i,j,O,U,hi,r,V,D,W,F⟩:=YY t zT aT fT hT ht d dT hd h1 hlen bo
 obtain⟨⟨X,Y,Z⟩,⟨ac,b1,b2⟩,⟨fc,H,I⟩⟩:=hT
 obtain⟨r3,J⟩:=mI H I j r
 rw[D]
 generalize t.fl[j]=f at*
 have K:=iY (k:=d.length) yv yv
 have N:=hd.sl.lenI
 unfold ti
 rw[au Vb (by simp[TX])]
 simp only[qA,seval,bp,aH,TX,N,K,F,J]
include hC hc
theorem JT:ae pE 123 [.agg [zT,aT,fT],.agg (aY c a7 a8 a9 aw aA az),dT] []=some (.agg [.i .i64 (ph c (db t.fl d 0)),.i .i64 (pj c (db t.fl d (d.length-1)))],[]):=by
 have H:=yJ t c zT aT fT a7 a8 a9 aw aA az hT hC
 have Bh:=El t zT aT fT hT ht d dT hd h1 hlen bo
 have XD:=JS t zT aT fT hT ht d dT hd h1 hlen bo
 obtain⟨_,_,_,_,r⟩:=dR (eP t ht).1 bo (k:=0) yv
 obtain⟨_,_,_,_,D⟩:=dR (eP t ht).1 bo (k:=d.length-1) yv
 obtain⟨_,_,I,J,_⟩:=JG hc r D
 generalize db t.fl d 0=f at*
 generalize db t.fl d (d.length-1)=g at*
 generalize ph c f=S at*
 generalize pj c g=E at*
 have F:=hd.sl.froz
 unfold ti aY at*
 rw[au UI (by simp[Tn])]
 simp only[qA,seval,bp,aH,Tn,Bh,XD,I,J,H,F,agN,agO,agP,agQ]
theorem ame:ae pE 255 [.agg [zT,aT,fT],.agg (aY c a7 a8 a9 aw aA az),dT] []=some (.sl (jB (fD (aN t c d))) 11 false,[]):=by
 have K:=yJ t c zT aT fT a7 a8 a9 aw aA az hT hC
 have Bh:=El t zT aT fT hT ht d dT hd h1 hlen bo
 have XD:=JS t zT aT fT hT ht d dT hd h1 hlen bo
 have r:=JT t c zT aT fT a7 a8 a9 aw aA az hT hC ht hc d dT hd h1 hlen bo
 obtain⟨i,hi,_,N,_⟩:=dR (eP t ht).1 bo (k:=0) yv
 obtain⟨j,O,_,U,_⟩:=dR (eP t ht).1 bo (k:=d.length-1) yv
 have D:=Zd t c zT aT fT a7 a8 a9 aw aA az hT hC ht hc (db t.fl d 0) (db t.fl d (d.length-1)) (by rw[N];exact List.getElem_mem hi) (by rw[U];exact List.getElem_mem O)
 have hL:=fun E4 fr lh sh h2 h3 h4 V W X F H I Y Z o4=>aD1 t zT aT fT hT ht d dT hd hlen bo E4 fr lh sh h2 h3 h4 V W X F H I Y Z o4
 have dh:=RR (aN t c d) (.sl (ints (aN t c d)) 11 true) rfl (.inr ⟨true,rfl⟩)
 have J:=hd.sl.froz
 unfold aN at*
 generalize kE t.fl d d.length=s at*
 generalize db t.fl d 0=f at*
 generalize db t.fl d (d.length-1)=g at*
 unfold ints at dh
 simp only[List.map_cons,List.map_nil]at dh
 generalize jB _=AC at*
 unfold ti aY at*
 rw[au ahr (by simp[Ui])]
 simp only[qA,seval,repl,bp,aH,Ui,Dp,hL,Bh,XD,r,D,dh,K,J,agN,agO,agP,agQ,afV,atv,aAQ,aAR,auB]
end
section
variable(t:Tt)(c:Ct)(zT aT fT a7 a8 a9 aw aA az:T)(hT:kN t zT aT fT)(hC:mG c a7 a8 a9 aw aA az)(hN:Hb c)(hL: ∀f∈t.fl,f.nu.length≤gm)(d:List (Int×Bool))(dT:T)(hd:tw d dT)(hlen:d.length≤1000)
include hT hC hN hL hd hlen
theorem OT: ∃v,ae pE 202 [.agg [zT,aT,fT],.agg (aY c a7 a8 a9 aw aA az),dT] []=some (.tup [v,.i .i64 (if eK t c≠0 then eK t c else ev c t.fl d)],[])∧((if eK t c≠0 then eK t c else ev c t.fl d)=0→v= .sl (jB (fD (aN t c d))) 11 false)∧froz1 v=true:=by
 have I:=yJ t c zT aT fT a7 a8 a9 aw aA az hT hC
 have F:=aef t c zT aT fT a7 a8 a9 aw aA az hT hC hN hL d dT hd hlen
 have r:=hd.sl.froz
 by_cases h0:(if eK t c≠0 then eK t c else ev c t.fl d)=0
 ·have D:eK t c=0:=by
   by_cases h:eK t c=0
   ·exact h
   ·rw[if_pos h]at h0;exact h0
  have hs:ev c t.fl d=0:=by rw[if_neg (by simp[D])]at h0;exact h0
  obtain⟨ht,hc⟩:=ng t c zT aT fT a7 a8 a9 aw aA az hT hC hN D
  obtain⟨h1,h6,bo,_⟩:=fJ hs
  have H:=ame t c zT aT fT a7 a8 a9 aw aA az hT hC ht hc d dT hd h1 yv bo
  rw[h0]at F ⊢
  refine⟨_, ?_,fun _=>rfl,rfl⟩
  rw[au U9 (by simp[KY])]
  unfold aY at*
  simp only[qA,seval,KY,F,H,I,r,ahq,aus]
 ·generalize (if eK t c≠0 then eK t c else ev c t.fl d)=e at*
  refine⟨.nilsl, ?_,fun h=>absurd h h0,rfl⟩
  rw[au U9 (by simp[KY])]
  unfold aY at*
  simp only[qA,seval,KY,F,h0,I,r,ahq]
end
theorem Ge{l:List (List Nat×Int)}{v:T}(h:IsSl v l.length (jB l))(j:Nat)(D:j<l.length): ∃r,∀kk,iaV v (.i kk (j:Int)) 2=some (.vp (.s l[j].1:: .i .i64 l[j].2::r)):=by
 refine⟨jB (l.drop (j+1)),fun kk=> ?_⟩
 rw[h.ia (Ze l) D]
 simp_all[jB,xh]
theorem aD2(s:List Nat)(l:List (List Nat×Int))(a:T)(D:IsSl a l.length (jB l))(hlen:l.length≤1000)(r:Int)(hr:r=ixA s (l.map Prod.fst) 0)(o:Out)(J:o=if r<0 then .ext 0 else .ret)(fr:Fr)(lh:aD ah)(sh:List ah)(h0:aa fr 0=a)(h1:aa fr 1= .s s)(h5:aa fr 5= .i .i64 0):
  pT 20 qT fr lh sh o∧
  ((¬r<0→aa (mY pE 20 qT fr lh sh) 4= .i .i64 r)∧iH pE 20 qT fr lh sh=sh):=by
 refine eu (fun k st=> ∃(fr:Fr) (lh:aD ah),st=⟨fr,lh,sh⟩∧r=ixA s ((l.drop k).map Prod.fst) k∧aa fr 0=a∧aa fr 1= .s s∧aa fr 5= .i .i64 (k:Int))
  (fun K U N=>(¬r<0→aa K 4= .i .i64 r)∧N=sh) _ l.length ?_ ?_ fr lh sh ⟨fr,lh,rfl,hr,h0,h1,h5⟩
 ·rintro k _ hk ⟨fr,lh,rfl,hr,h0,h1,h5⟩
  have F:(k:Int)<l.length:=yv
  have O:=aG (k:=k) yv
  obtain⟨V,H⟩:=Ge D k hk
  have I:=D.lenI
  rw[List.drop_eq_getElem_cons hk,List.map_cons,ixA]at hr
  generalize l[k]=y at*
  simp only[qB,seval,qT,h0,h1,h5,I,F,H,O]
  refine qx (fun h=> ?_) (fun h=> ?_)
  ·rw[if_pos h]at hr
   exact qy ⟨by rw[J,if_neg yv],fun _=>(by simp only[qA,seval,hr]),rfl⟩
  ·rw[if_neg h]at hr
   exact cU ⟨_,_,rfl,hr,by simp only[qA,seval,h0],by simp only[qA,seval,h1],by simp only[qA,seval]⟩
 ·rintro _ ⟨fr,lh,rfl,hr,h0,h1,h5⟩
  rw[List.drop_length,List.map_nil,ixA]at hr
  have I:=D.lenI
  simp only[qA,seval,qT,h0,h5,I,Int.lt_irrefl]
  grind [fv]
theorem OU(s:List Nat)(l:List (List Nat×Int))(a:T)(r:IsSl a l.length (jB l))(hlen:l.length≤1000):ae pE 105 [a,.s s] []=some (.i .i64 (ixA s (l.map Prod.fst) 0),[]):=by
 have hL:=fun fr lh sh h0 h1 h5=>aD2 s l a r hlen _ rfl _ rfl fr lh sh h0 h1 h5
 have Yc:=Bx s (l.map Prod.fst) 0
 rw[au afM (by simp[PA])]
 generalize ixA s (l.map Prod.fst) 0=v at*
 by_cases h:v<0
 ·have e:=Yc h
  subst e
  simp only[qA,seval,PA,hL]
 ·simp only[h,if_false,not_false_eq_true,forall_const]at hL
  simp only[qA,seval,PA,hL]
theorem aeE(k n:Int)(h:BM k n)(hk:k≠4):ae pE 104 [.i .i64 k,.i .i64 n] []=some (.i .i64 n,[]):=by
 rw[au afL (by simp[KQ])]
 have hcl:bd n→ae pE 179 [.i .i64 n] []=some (.i .i64 n,[]):=by
  intro r
  have e:max (-1099511627776) (min 1099511627776 n)=n:=by unfold bd at r;omega
  rw[au U3 (by simp[KW])]
  simp only[qA,seval,KW,mM,pM,e]
 rcases h with⟨h1|h1,h2⟩|⟨h1,h2,h3⟩|⟨h1,h2⟩
 ·have hc:=hcl h2
  subst h1
  simp only[qA,seval,KQ,hc,Al]
 ·have hc:=hcl h2
  subst h1
  simp only[qA,seval,KQ,hc,Al]
 ·have hs:=xt n (by unfold yn;omega)
  have e:n%1440=n:=yv
  rw[e]at hs
  subst h1
  simp only[qA,seval,KQ,hs,Nc]
 ·grind
theorem RS(s:List Nat):kJ s≠4:=by
 grind [kJ]
theorem RT{l:List (List Nat)}(h:l.Nodup){i j:Nat}(hi:i<l.length)(r:j<l.length)(e:l[i]=l[j]):i=j:=by
 rcases Nat.lt_trichotomy i j with h1|h1|h1
 ·exact absurd e (List.pairwise_iff_getElem.1 h i j hi r h1)
 ·exact h1
 ·exact absurd e.symm (List.pairwise_iff_getElem.1 h j i r hi h1)
theorem RU{s:List Nat}{i:Nat}(h:KJ 1 s=some i):i<11∧ixA s bw 0=(i:Int):=by
 have h1:bw[i]? =some s:=Ml h
 obtain⟨hi,e⟩:=List.getElem?_eq_some_iff.1 h1
 obtain⟨j,r,e1,e2⟩:=Gb (k:=0) (List.mem_of_getElem? h1)
 have:j=i:=RT JU r hi (by rw[e2,e])
 exact⟨hi,by rw[e1,this];simp⟩
section
variable(l:Cs)(lT vT iA:T)(cl:List T)(A:List Int)(hl:IsSl lT l.length cl)(hcl:dn l cl)(hlen:l.length≤jY)(hv:IsSl vT l.length (ints (sF l l.length)))(hA:JJ A)(dh:IsSl iA 11 (jB (fD A)))
def axy(y:Ex):Prop:= ∀k cs,jA y cs→y.nodes≤100000→y.wf=true→y.ty (OI (FR l) 1) 0=(k,0)→ae pE 57 [vT,lT,.i .i64 1,iA,.agg cs] []=some (.i .i64 (y.val0 (pX (fC l) 1 A)),[])
include hl hv dh
theorem aD3(xs:List Ex)(ih: ∀y∈xs,axy l lT vT iA A y)(a:T)(X:List T)(J:IsSl a xs.length X)(hx:cu xs X)(hn:fW xs≤100000)(zD:FF xs=true)(ts:List Int)(K:kK (OI (FR l) 1) 0 xs= .ok ts)(op num:Int)(s:List Nat)(g:Nat)(fr:Fr)(lh:aD ah)(sh:List ah)
  (h0:aa fr 0=vT) (h1:aa fr 1=lT) (h2:aa fr 2= .i .i64 1) (h3:aa fr 3=iA) (D:aa fr 9= .ptr .L 9 g 0) (N:aa fr 13= .nilsl) (H:aa fr 14= .i .i64 0) (O:ab lh 9=⟨g,.cells [.i .i64 op,.i .i64 num,.s s,a] 0 true⟩):
  pT 70 oq fr lh sh (.ext 0)∧
  (bg (im pE 70 oq fr lh sh) (aa (mY pE 70 oq fr lh sh) 13) 63 1 xs.length (ints (fE (pX (fC l) 1 A) xs))∧ab (im pE 70 oq fr lh sh) 9=ab lh 9∧iH pE 70 oq fr lh sh=sh):=by
 refine cj (P:=fun bK Y aX=>bg Y (aa bK 13) 63 1 xs.length (ints (fE (pX (fC l) 1 A) xs))∧ab Y 9=ab lh 9∧aX=sh)
  (cT (fun k st=> ∃(fr:Fr) (I:aD ah),st=⟨fr,I,sh⟩∧aa fr 0=vT∧aa fr 1=lT∧aa fr 2= .i .i64 1∧aa fr 3=iA∧aa fr 9= .ptr .L 9 g 0∧aa fr 14= .i .i64 (k:Int)∧ab I 9=ab lh 9∧
    bg I (aa fr 13) 63 1 k (ints (fE (pX (fC l) 1 A) (xs.take k)))) _ xs.length ?_ ?_ 0 _ (Nat.zero_le _) ⟨fr,lh,rfl,h0,h1,h2,h3,D,H,rfl,by rw[N];exact bg.nil⟩)
 ·rintro k _ SY ⟨fr,I,rfl,h0,h1,h2,h3,D,H,r,F⟩
  left
  rw[O]at r
  have U:(k:Int)<xs.length:=yv
  have VL:=fX xs
  have hyk:=lP (List.getElem_mem SY)
  have hw:=be (k:=k) (gH yv)
  obtain⟨b,cb,rr,V,fL,rP,hb⟩:=oZ J hx k SY
  obtain⟨t,ht⟩:=OV K k SY
  have Z:=ih xs[k] (List.getElem_mem SY) t _ hb yv (zg.1 zD _ (List.getElem_mem SY)) ht
  have W:=Zh F (gH yv) (sh:=sh) (T.i .i64 (xs[k].val0 (pX (fC l) 1 A))) true
  have iw:fE (pX (fC l) 1 A) (xs.take (k+1))=fE (pX (fC l) 1 A) (xs.take k)++ [xs[k].val0 (pX (fC l) 1 A)]:=by
   grind [List.take_succ_eq_append_getElem,xx]
  generalize xs[k].val0 (pX (fC l) 1 A)=q at Z W iw
  generalize N:aa fr 13=v13 at F W
  simp only[qA,seval,repl,oq,h0,h1,h2,h3,D,N,H,r,J.lenI,U,V,hw,Z,Uz,fL.froz1,hv.froz,hl.froz,dh.froz,F.notS,W.1]
  refine⟨_,rfl,_,_,rfl, ?_, ?_, ?_, ?_, ?_, ?_, ?_, ?_⟩
  all_goals first|(simp only[qA,seval,h0,h1,h2,h3,D];done)|skip
  ·grind
  ·simp only[qA,seval]
   grind [JV]
 ·rintro _ ⟨fr,I,rfl,h0,h1,h2,h3,D,H,r,F⟩
  rw[O]at r
  rw[List.take_length]at F
  simp only[qA,seval,oq,D,H,r,J.lenI,Int.lt_irrefl]
  refine⟨_,_,sV,rfl,rfl, ?_,by rw[r,O],rfl⟩
  simp only[qA,seval]
  exact F
include hcl hlen hA
theorem amf(x:Ex):axy l lT vT iA A x:=by
 induction x using Ex.ind with
 |h x ih=>
  intro k cs hx hn zD ht
  obtain⟨a,cc,rfl,ha,SK⟩:=hx.cells
  obtain⟨h1,h2,r,C0,sG,yA⟩:=vQ zD
  have hnd:=x.nodes_eq
  rw[au ajv (by simp[c57]),Ex.val0_eq]
  by_cases h6:x.op=6
  ·rw[if_pos h6]
   have r:=I2 1 x.name
   unfold qz at r
   by_cases D:dB 1 x.name=0
   ·rw[if_pos D]at r
    rw[Ex.ty_eq,if_pos h6,if_neg (by simp[jL])]at ht
    unfold OI at ht
    rw[if_neg (by simp[D])]at ht
    rw[←xp]at ht
    obtain⟨i,lZ,H,JW,_⟩:=vR (Nat.le_refl _) ht
    have I:=aeF l x.name lT cl hl hcl hlen
    rw[Em JW]at I
    have e1:=fun kk=>BQ (ts:=sF l l.length) (by rw[lp];exact hv) (k:=i) (by rw[lp];exact H) kk
    have e2:pX (fC l) 1 A x.name=(sF l l.length)[i]'(by rw[lp];exact H):=by
     unfold pX
     rw[(lW 1 x.name).2 D]
     simp_all[VX,vxk,Zi,List.take_length,lp]
    rw[e2]
    simp only[qA,seval,c57,h6,D,r,Dt,I,atm,hl.froz,e1]
   ·rw[if_neg D]at r
    cases U:KJ 1 x.name with
    |none=>exact absurd ((lW 1 x.name).1 U) D
    |some i=>
     obtain⟨hi,Rk⟩:=RU U
     have V:(fD A).length=11:=by unfold fD;rw[List.length_zip,hA.1];rfl
     have W:(fD A).map Prod.fst=bw:=by unfold fD;exact List.map_fst_zip (by rw[hA.1];exact Nat.le_refl _)
     have J:=OU x.name (fD A) iA (by rw[V];exact dh) yv
     rw[W,Rk]at J
     obtain⟨rr,K⟩:=Ge (l:=fD A) (v:=iA) (by rw[V];exact dh) i yv
     have wS:(fD A)[i].2=A.getD i 0:=by
      grind [fD]
     rw[wS]at K
     have H:=hA.2 i x.name (Ml U)
     have Zj:dB 1 x.name=kJ x.name:=rfl
     rw[Zj]at r D
     have X:=aeE _ _ H (RS _)
     have e2:pX (fC l) 1 A x.name=A.getD i 0:=by unfold pX;rw[U]
     rw[e2]
     generalize A.getD i 0=q at*
     generalize kJ x.name=kk at*
     have Y:=dh.froz
     simp only[qA,seval,c57,h6,r,Dt,J,afN,K,X,atl,Y]
  ·rw[if_neg h6]
   obtain⟨ts,F,hr,hk⟩:=vS ht h6
   have hL:=fun fr lh sh h0 h1 h2 h3 Z ig cZ o9=>aD3 l lT vT iA cl A hl hv dh x.args (fun y hy=>ih y hy) a cc ha SK yv yA ts F x.op x.num x.name 1 fr lh sh h0 h1 h2 h3 Z ig cZ o9
   have hO:=fun fr lh sh h0 h1 h2 h3 Z ig cZ o9=>bg.fzV (sh:=sh) (keep:=false) (hL fr lh sh h0 h1 h2 h3 Z ig cZ o9).2.1
   have V:=fX x.args
   have H:=JX (YS l hA) (scope:=0) (fun s=>jL s) yA F
   have DH:=vU F
   have JY:(fE (pX (fC l) 1 A) x.args).length=x.args.length:=by rw[xx,List.length_map]
   by_cases h5:x.op≤5
   ·have kY:x.op=1∨x.op=2∨x.op=3∨x.op=4∨x.op=5:=yv
    have N:=Zk x.op x.num kY (bA x.args.length (ints (fE (pX (fC l) 1 A) x.args)))
    have O:(if x.op=1∨x.op=2∨x.op=3 then x.num else if x.op=4 then 1 else if x.op=5 then 0 else FH x.op (fE (pX (fC l) 1 A) x.args))=(if x.op=1∨x.op=2∨x.op=3 then x.num else if x.op=4 then 1 else 0):=by
     grind
    rw[O]
    generalize (if x.op=1∨x.op=2∨x.op=3 then x.num else if x.op=4 then 1 else 0)=q at N ⊢
    simp only[qA,seval,c57,Ht,h6,hL,hO,N,afP]
   ·have h7:7≤x.op:=yv
    have eU:=Zl H h7 h2 (by rw[DH];exact r) hr hk
    have N:=RV x.op x.num (fE (pX (fC l) 1 A) x.args) (bA x.args.length (ints (fE (pX (fC l) 1 A) x.args))) (by rw[JY];exact fe (fun h0=>by rw[h0]at JY;rw[List.length_eq_zero_iff.1 JY];rfl)) (by rw[JY];exact gH yv) h7 h2 (by rw[JY];exact r) eU.1
    rw[if_neg yv,if_neg yv,if_neg yv]
    generalize FH x.op (fE (pX (fC l) 1 A) x.args)=q at N ⊢
    simp only[qA,seval,c57,Ht,h6,hL,hO,N,afP]
end
def lY(c:Ct)(A:List Int)(k:Nat):List (List Nat):=((c.ru.take k).filter fun u=>u.sc==1&&decide (pn c.cs A u.x=0)).map Ru.nm
def C1(l:List (List Nat)):List T:=l.flatMap fun s=> [.i .i64 1,.i .i64 0,.s s]
theorem Zm(l:List (List Nat))(s:List Nat):C1 l++ [.i .i64 1,.i .i64 0,.s s]=C1 (l++ [s]):=by unfold C1;rw[List.flatMap_append];rfl
theorem RW(c:Ct)(A:List Int){k:Nat}(hk:k<c.ru.length):lY c A (k+1)=if c.ru[k].sc=1∧pn c.cs A c.ru[k].x=0 then lY c A k++ [c.ru[k].nm]else lY c A k:=by
 unfold lY
 rw[List.take_succ_eq_append_getElem hk,List.filter_append,List.map_append]
 by_cases h:c.ru[k].sc=1∧pn c.cs A c.ru[k].x=0
 ·rw[if_pos h];simp[h.1,h.2]
 ·rw[if_neg h]
  have:(c.ru[k].sc==1&&decide (pn c.cs A c.ru[k].x=0))=false:=by
   cases r:(c.ru[k].sc==1&&decide (pn c.cs A c.ru[k].x=0))with
   |false=>rfl
   |true=>exact absurd (by simpa using r) h
  simp[this]
theorem aeG(c:Ct)(A:List Int)(k:Nat):(lY c A k).length≤k:=by
 unfold lY
 rw[List.length_map]
 exact Nat.le_trans (List.length_filter_le _ _) (by rw[List.length_take];omega)
theorem Jl.ty0{l:Cs}{x:Ex}(h:Jl l 1 x):x.nodes≤100000∧x.wf=true∧ ∃k,x.ty (OI (FR l) 1) 0=(k,0):=by
 obtain⟨_,hv,k,hk⟩:=h
 have:=(iz hv).1
 exact⟨by omega,ic hv,k,by rw[←Zn];exact hk⟩
theorem amg{t:Tt}{c:Ct}(hc:fi c=0){A:List Int}(hA:JJ A):(lY c A c.ru.length= []↔jk A (sg c)=true):=by
 have h1:=(mL c hc).1
 have r: ∀l:List Ru,(∀u∈l,Jl c.cs u.sc u.x)→(((l.filter fun u=>u.sc==1&&decide (pn c.cs A u.x=0)).map Ru.nm= [])↔jk A ((l.filter fun u=>u.sc==1).map fun u=>(u.nm,comp (fC c.cs) u.sc u.x))=true):=by
  intro l
  induction l with
  |nil=>intro _;simp[jk]
  |cons u l ih=>
   intro h
   have ih:=ih fun v hv=>h v (by simp[hv])
   by_cases hs:u.sc=1
   ·have hx:=h u xv
    rw[hs]at hx
    have hv:=(RK hA hx).2.1
    have e1:((u::l).filter fun u=>u.sc==1).map (fun u=>(u.nm,comp (fC c.cs) u.sc u.x))=(u.nm,comp (fC c.cs) 1 u.x)::(l.filter fun u=>u.sc==1).map fun u=>(u.nm,comp (fC c.cs) u.sc u.x):=by simp[hs]
    rw[e1,show jk A ((u.nm,comp (fC c.cs) 1 u.x)::(l.filter fun u=>u.sc==1).map fun u=>(u.nm,comp (fC c.cs) u.sc u.x))=(decide ((comp (fC c.cs) 1 u.x).val A≠0)&&jk A ((l.filter fun u=>u.sc==1).map fun u=>(u.nm,comp (fC c.cs) u.sc u.x)))from rfl,hv]
    by_cases D:pn c.cs A u.x=0
    ·simp[hs,D]
    ·have e2:((u::l).filter fun u=>u.sc==1&&decide (pn c.cs A u.x=0))=l.filter fun u=>u.sc==1&&decide (pn c.cs A u.x=0):=by simp[D]
     rw[e2,ih]
     simp[D]
   ·have e1:((u::l).filter fun u=>u.sc==1)=l.filter fun u=>u.sc==1:=by simp[hs]
    have e2:((u::l).filter fun u=>u.sc==1&&decide (pn c.cs A u.x=0))=l.filter fun u=>u.sc==1&&decide (pn c.cs A u.x=0):=by simp[hs]
    rw[e1,e2,ih]
 have:=r c.ru h1
 unfold lY sg vD
 rw[List.take_length]
 exact this
section
variable(c:Ct)(a7 a8 a9 aw aA az vT iA:T)(A:List Int)(hC:mG c a7 a8 a9 aw aA az)(hS:vq c)(hc:fi c=0)(hv:IsSl vT c.cs.length (ints (sF c.cs c.cs.length)))(hA:JJ A)(dh:IsSl iA 11 (jB (fD A)))
include hC hc hv hA dh
theorem Mq{x:Ex}(hx:Jl c.cs 1 x){cs:List T}(h:jA x cs):ae pE 57 [vT,a7,.i .i64 1,iA,.agg cs] []=some (.i .i64 (pn c.cs A x),[]):=by
 obtain⟨⟨c7,r,D⟩,_⟩:=hC
 obtain⟨F,H,k,I⟩:=hx.ty0
 have:=(mL c hc).2.2.2.2.2.2
 exact amf c.cs a7 vT iA c7 A r D (gH yv) hv hA dh x k cs h F H I
theorem aD6(fr:Fr)(lh:aD ah)(sh:List ah)(h1:aa fr 1= .i .i64 1)(h2:aa fr 2= .i .i64 0)(h3:aa fr 3=iA)(h4:aa fr 4= .ptr .L 4 1 0)(h9:aa fr 9= .nilsl)(r:aa fr 10=vT)(D:aa fr 11= .i .i64 0)(F:ab lh 4=⟨1,.cells (aY c a7 a8 a9 aw aA az) 0 true⟩):
  pT 52 kQ fr lh sh (.ext 0)∧
  (bg (im pE 52 kQ fr lh sh) (aa (mY pE 52 kQ fr lh sh) 9) 50 3 (lY c A c.ru.length).length (C1 (lY c A c.ru.length))∧iH pE 52 kQ fr lh sh=sh):=by
 have hC':=hC
 obtain⟨⟨c7,i7,j7⟩,⟨c8,O,j8⟩,⟨c9,i9,j9⟩,⟨wh,i10,yD⟩,⟨yS,i11,Ch⟩,⟨Ce,i12,D1⟩⟩:=hC'
 obtain⟨jb,hl,_⟩:=mL c hc
 unfold aY at F
 refine eu (fun k st=> ∃(fr:Fr) (lh:aD ah),st=⟨fr,lh,sh⟩∧aa fr 1= .i .i64 1∧aa fr 2= .i .i64 0∧aa fr 3=iA∧aa fr 4= .ptr .L 4 1 0∧aa fr 10=vT∧aa fr 11= .i .i64 (k:Int)∧ab lh 4=⟨1,.cells [.i .i64 c.rp,.i .i64 c.rl,.i .i64 c.cn,.i .i64 c.st,.i .i64 c.ly,.i .i64 c.nf,.i .i64 c.nt,a7,a8,a9,aw,aA,az,.i .i64 c.gu] 0 true⟩∧bg lh (aa fr 9) 50 3 (lY c A k).length (C1 (lY c A k)))
  (fun bK N U=>bg N (aa bK 9) 50 3 (lY c A c.ru.length).length (C1 (lY c A c.ru.length))∧U=sh) _ c.ru.length ?_ ?_ fr lh sh ⟨fr,lh,rfl,h1,h2,h3,h4,r,D,F,by rw[h9];exact bg.nil⟩
 ·rintro k _ hk ⟨fr,lh,rfl,h1,h2,h3,h4,r,D,F,I⟩
  have J:(k:Int)<c.ru.length:=yv
  have hw:=aG (k:=k) yv
  obtain⟨b,cb,rr,K,fL,hb⟩:=Bp O j8 k hk
  have hx:=jb _ (List.getElem_mem hk)
  have p9:=aeG c A k
  have iw:=RW c A hk
  have X:=fun e:c.ru[k].sc=1=>Mq c a7 a8 a9 aw aA az vT iA A hC hc hv hA dh (e▸hx) hb
  rw[iw]
  generalize pn c.cs A c.ru[k].x=q at*
  generalize c.ru[k]=u at*
  have Y:=fun(N:aD ah) (U:List ah) (e:ab N 50=ab lh 50)=>(dO (sh:=U) (I.congr e) [.i .i64 1,.i .i64 0,.s u.nm] rfl (bytes:=32) (by unfold roomy;omega) true)
  have V:=fun(N:aD ah) (U:List ah) (e:ab N 50=ab lh 50)=>(Y N U e).1
  have mN:=I.notS
  generalize H:aa fr 9=v9 at I Y V mN
  have hz:=dh.froz
  have W:=hv.froz
  by_cases hs:u.sc=1
  ·have X:=X hs
   by_cases Z:q=0
   ·rw[if_pos ⟨hs,Z⟩]
    simp only[qA,seval,repl,kQ,h1,h2,h3,h4,H,r,D,F,O.lenI,J,hw,K,hs,X,Z,hz,W,i7.froz,fL.froz1,mN,V,Uz]
    exact cU ⟨_,_,rfl,by simp only[qA,seval,h1],by simp only[qA,seval,h2],by simp only[qA,seval,h3],by simp only[qA,seval,h4],by simp only[qA,seval,r],by simp only[qA,seval],by rw[(Y _ _ wW).2.2 4 xW];simp only[qA,seval,F],by simp only[qA,seval];rw[List.length_append,←Zm];exact(Y _ _ wW).2.1⟩
   ·rw[if_neg (fun h=>Z h.2)]
    simp only[qA,seval,repl,kQ,h1,h2,h3,h4,H,r,D,F,O.lenI,J,hw,K,hs,X,Z,hz,W,i7.froz,fL.froz1,Uz]
    exact cU ⟨_,_,rfl,by simp only[qA,seval,h1],by simp only[qA,seval,h2],by simp only[qA,seval,h3],by simp only[qA,seval,h4],by simp only[qA,seval,r],by simp only[qA,seval],by simp only[qA,seval,F],by simp only[qA,seval,H];exact I.congr wW⟩
  ·rw[if_neg (fun h=>hs h.1)]
   simp only[qA,seval,repl,kQ,h1,h2,h4,H,D,F,O.lenI,J,hw,K,hs]
   exact cU ⟨_,_,rfl,by simp only[qA,seval,h1],by simp only[qA,seval,h2],by simp only[qA,seval,h3],by simp only[qA,seval,h4],by simp only[qA,seval,r],by simp only[qA,seval],by simp only[qA,seval,F],by simp only[qA,seval,H];exact I.congr wW⟩
 ·rintro _ ⟨fr,lh,rfl,h1,h2,h3,h4,r,D,F,I⟩
  simp only[qA,seval,kQ,h4,D,F,O.lenI,Int.lt_irrefl]
  exact fv ⟨rfl,by simp only[qA,seval];exact I,rfl⟩
end
end Go.Proofs.YtnkgnjecmfkcfaaGreat
