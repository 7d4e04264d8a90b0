/- Walks of functions of the program and of the reference, and their plain laws, part 13. Conditions: the theorems' own. -/
import Derived.Test.YtcpceiclnbmgiaaGreatM12
import Derived.KernelRfl
set_option maxRecDepth 100000
set_option linter.unusedSimpArgs false
set_option linter.unusedVariables false
set_option maxHeartbeats 16000000
namespace Go.Proofs.YtcpceiclnbmgiaaGreat
open Go Go.Ev
def dvC(s:Cn):List T:= [.i .i64 s.lg,.i .i64 s.hd,.i .i64 0,.i .i64 s.bk,.i .i64 0,.i .i64 0,.i .i64 s.lo,.i .i64 s.so,.i .i64 0,.i .i64 0,.i .i64 0]
theorem ath{n:Nat}(h:n≤1000):(n+1)*16≤roomy:=by unfold roomy;omega
section
variable(t:Tt)(c:Ct)(zT aT fT a7 a8 a9 iq iy iv:T)(vs:List T)(hT:uf t zT aT fT)(ht:uo t=0)
include hT ht
theorem azz(d:List (Int×Bool))(dT:T)(hd:GG d dT)(hlen:d.length≤100)(jB: ∀k∈d,xq t.fl.length k.1=true)(fr:Fr)(lh:iw b8)(sh:List b8)(lQ:sh= [⟨1,.cells (dvC cn0) 0 false⟩])(h0:an fr 0=stV c zT aT fT a7 a8 a9 iq iy iv vs)(h1:an fr 1=dT)(h5:an fr 5= .isl .S 0 1 0 11 1)(h6:an fr 6= .nilsl)(jI:an fr 14=dT)(U:an fr 15= .i .i64 (d.length:Int))(H:an fr 16= .i .i64 0):
  Lp pE 117 zZ fr lh sh (.ext 0) fun f l s=>jO l (an f 6) 64 1 (BG t.fl d d.length).ks.length ((BG t.fl d d.length).ks.map T.s)∧s= [⟨1,.cells (dvC (BG t.fl d d.length)) 0 false⟩]:=by
 refine kE xT (fun k f l s=>an f 16= .i .i64 (k:Int)∧jO l (an f 6) 64 1 (BG t.fl d k).ks.length ((BG t.fl d k).ks.map T.s)∧s= [⟨1,.cells (dvC (BG t.fl d k)) 0 false⟩]) d.length ⟨H,by rw[h6];exact jO.nil,lQ⟩ ?_ ?_
 ·rintro k I l _ hk O ⟨H,r,rfl⟩
  have iW:(k:Int)<d.length:=by omega
  have hw:=iO (k:=k) (by omega)
  have V:=(rZ t ht).1
  obtain⟨rr,W⟩:=wL hd k hk
  obtain⟨i,hi,ei,ef,J⟩:=sa V jB hk
  obtain⟨r2,X⟩:=uR t c zT aT fT a7 a8 a9 iq iy iv vs hT i hi
  rw[←ef]at X
  obtain⟨c1,c2,c3,c4,c5,c6⟩:=Nd V jB k (by omega)
  have qv:BG t.fl d (k+1)=if k=0 then cnT (l8 t.fl d k) d[k].2 (BG t.fl d k)else cnG (l8 t.fl d (k-1)) (l8 t.fl d k) (cnT (l8 t.fl d k) d[k].2 (BG t.fl d k)):=by rw[BG,Xw hk]
  have K:=HX (l8 t.fl d k).ty (BG t.fl d k).ks (lN (BG t.fl d k).ks.length ((BG t.fl d k).ks.map T.s)) r.isl (by omega)
  have D:=fun(Y:iw b8) (Z:List b8) (keep:Bool) (e:b7 Y 64=b7 l 64)=>(r.congr e).fzV (sh:=Z) (keep:=keep)
  have pa:=fun(Y:iw b8) (Z:List b8) (e:b7 Y 64=b7 l 64)=>nq (sh:=Z) (r.congr e) [.s (l8 t.fl d k).ty] rfl (bytes:=16) (ath (by omega)) true
  have AW:=r.notS
  rw[ei]at W
  obtain⟨_,f1,f2,f3,f4⟩:=id J
  generalize S8:an I 6=v6 at r D pa AW
  generalize BG t.fl d k=s at*
  have w1:wr .i64 (s.lg+1)=s.lg+1:=jw (by omega)
  have w2:wr .i64 (s.hd+1)=s.hd+1:=jw (by omega)
  have w3:wr .i64 ((l8 t.fl d k).ar-(l8 t.fl d k).dp)=(l8 t.fl d k).ar-(l8 t.fl d k).dp:=jw (by omega)
  have w4:wr .i64 (s.bk+((l8 t.fl d k).ar-(l8 t.fl d k).dp))=s.bk+((l8 t.fl d k).ar-(l8 t.fl d k).dp):=jw (by omega)
  have FE:=qS c zT aT fT a7 a8 a9 iq iy iv vs
  have N:adK (l8 t.fl d k).ty s.ks=if(l8 t.fl d k).ty∈s.ks then s.ks else s.ks++ [(l8 t.fl d k).ty]:=rfl
  by_cases LX:k=0
  ·have F: ¬(0:Int)<(k:Int):=by omega
   rw[qv,if_pos LX]
   generalize l8 t.fl d k=f at*
   generalize d[k].2=b at*
   cases b <;> by_cases hm:f.ty∈s.ks <;> simp only[qA,seval,gd,repl,jG,iE,jm,zZ,xT,O,h0,h1,h5,S8,jI,U,H,iW,hw,W,X,w1,w2,w3,w4,FE,BD,pN,lz,F,AW,D,pa,K,hm,mC,r,N,cnT,dvC,List.length_append,List.map_append,Fb,apN]
  ·have F:(0:Int)<(k:Int):=by omega
   have S7:=tQ (k:=k) (by omega) (by omega)
   obtain⟨r3,FF⟩:=wL hd (k-1) (by omega)
   obtain⟨j,hj,ej,eg,gok⟩:=sa V jB (k:=k-1) (by omega)
   obtain⟨r4,AB⟩:=uR t c zT aT fT a7 a8 a9 iq iy iv vs hT j hj
   rw[←eg]at AB
   rw[ej]at FF
   have gap:=Xv J gok
   have w5:wr .i64 ((l8 t.fl d k).dp-(l8 t.fl d (k-1)).ar)=(l8 t.fl d k).dp-(l8 t.fl d (k-1)).ar:=jw (by omega)
   rw[qv,if_neg LX]
   generalize l8 t.fl d k=f at*
   generalize l8 t.fl d (k-1)=g at*
   generalize d[k].2=b at*
   cases b <;> by_cases hm:f.ty∈s.ks <;> simp only[qA,seval,gd,repl,jG,iE,jm,zZ,xT,O,h0,h1,h5,S8,jI,U,H,iW,hw,W,X,w1,w2,w3,w4,FE,BD,pN,lz,F,AW,D,pa,K,hm,mC,r,N,cnT,dvC,List.length_append,List.map_append,Fb,apL,apN,cnG,zk,zl,FF,AB,S7,w5]
 ·rintro I l _ O ⟨H,r,rfl⟩
  simp only[qA,seval,gd,zZ,O,U,H,r,Int.lt_irrefl]
end
theorem Sc{k g o n s:Nat}:kept (.isl .S k g o n s)=true:=nr rfl
def jS(t:Tt)(c:Ct)(d:List (Int×Bool)):List Int:=
 [(BG t.fl d d.length).lg,(BG t.fl d d.length).hd,(BG t.fl d d.length).ks.length,(BG t.fl d d.length).bk,xD c (l8 t.fl d (d.length-1))-xz c (l8 t.fl d 0),Sa t c (l8 t.fl d 0) (l8 t.fl d (d.length-1)),(BG t.fl d d.length).lo,(BG t.fl d d.length).so,Sb t c (l8 t.fl d 0) (l8 t.fl d (d.length-1)),Xq t c (l8 t.fl d 0),Xr t c (l8 t.fl d (d.length-1))]
section
variable(t:Tt)(c:Ct)(zT aT fT a7 a8 a9 iq iy iv:T)(vs:List T)(hT:uf t zT aT fT)(hV:FB t c vs)(ht:uo t=0)(hc:mI c=0)
include hT hV ht hc
theorem HY(d:List (Int×Bool))(dT:T)(hd:GG d dT)(h1:1≤d.length)(hlen:d.length≤100)(jB: ∀k∈d,xq t.fl.length k.1=true): ∃s,be pE 42 [stV c zT aT fT a7 a8 a9 iq iy iv vs,dT] []=some (.sl (ints (jS t c d)) 11 false,s):=by
 have W:=fun fr lh sh r D h1 F H I J K=>azz t c zT aT fT a7 a8 a9 iq iy iv vs hT ht d dT hd hlen jB fr lh sh r D h1 F H I J K
 have Z:=fun fr lh sh r D h1 F H I J K=>(W fr lh sh r D h1 F H I J K).2.1.lenI
 obtain⟨i,hi,ei,ef,_⟩:=sa (rZ t ht).1 jB (k:=0) (by omega)
 obtain⟨j,hj,ej,eg,_⟩:=sa (rZ t ht).1 jB (k:=d.length-1) (by omega)
 obtain⟨r1,X⟩:=wL hd 0 (by omega)
 obtain⟨r2,Y⟩:=wL hd (d.length-1) (by omega)
 have hw:=tQ (k:=d.length) (by omega) (by omega)
 have N:=hd.choose_spec.1.lenI
 have O:kept (stV c zT aT fT a7 a8 a9 iq iy iv vs)=true:=nr rfl
 have Gg:=Xt t c zT aT fT a7 a8 a9 iq iy iv vs hT hV ht hc i j hi hj
 rw[←ef,←eg]at Gg
 rw[ei]at X
 rw[ej]at Y
 have U: ∀kk,lR dT (.i kk 0) 2=_:=X
 have V:(11:Nat)*8≤roomy∧(11:Nat)≤roomy:=by unfold roomy;omega
 unfold jS
 generalize BG t.fl d d.length=s at*
 generalize l8 t.fl d 0=f at*
 generalize l8 t.fl d (d.length-1)=g at*
 rw[il apk (by simp[c42])]
 unfold dvC cn0 at*
 simp only[qA,seval,repl,jG,iE,jm,j2,c42,xT,Pk,V,W,Z,U,Y,hw,N,O,Sc,Gg,axD,axE]
 exact⟨_,rfl⟩
end
theorem ai6{scope:Int}{s:List Nat}{i:Nat}(h:Pm scope s=some i):(S9 scope)[i]? =some s:=by
 unfold Pm kV at h
 have:=zq h
 rw[List.take_length]at this
 exact List.mk_mem_zipIdx_iff_getElem?.1 this
def Nf(A:List Int):Prop:=A.length=11∧ ∀i s,kb[i]? =some s→E3 (ze s) (A.getD i 0)
theorem ai7(l:Cs){A:List Int}(h:Nf A):Sd (ZM (LY l) 1) (IQ (pX l) 1 A):=by
 intro s t hs
 unfold ZM at hs
 by_cases r:lX 1 s≠0
 ·rw[if_pos r]at hs
  injection hs with hs _
  subst hs
  unfold IQ
  cases D:Pm 1 s with
  |none=>exact absurd ((uS 1 s).1 D) r
  |some i=>exact h.2 i s (ai6 D)
 ·rw[if_neg r]at hs
  have D:=(uS 1 s).2 (by simpa using r)
  unfold IQ
  rw[D]
  exact HZ l s t hs
theorem Ea{k k' v:Int}(h:k=k')(i:E3 k' v):E3 k v:=h▸i
theorem ai8{v:Int}(h:bd v):E3 1 v:= .inl ⟨.inl rfl,h⟩
theorem Se{v:Int}(h:bd v):E3 2 v:= .inl ⟨.inr rfl,h⟩
theorem atl{v:Int}(h:0≤v∧v≤1439):E3 3 v:= .inr (.inl ⟨rfl,h⟩)
theorem bdE{v:Int}(h: -1000000000≤v∧v≤1000000000):bd v:=by unfold bd;omega
theorem Xy(z:Zo)(x:Int):0≤z.clk x∧z.clk x≤1439:=by unfold Zo.clk;omega
theorem Xz{z:Zo}{A B f t:Int}(h1:0≤A)(i:B≤52596000):0≤z.bandM A B f t∧z.bandM A B f t≤52596000:=by
 have:=HS (fun x=>nn (z.clk x) f t) A (B-A).toNat
 unfold Zo.bandM uO
 omega
theorem Eb{t:Tt}{c:Ct}(ht:uo t=0)(hc:mI c=0){d:List (Int×Bool)}(h1:1≤d.length)(hlen:d.length≤100)(jB: ∀k∈d,xq t.fl.length k.1=true):Nf (jS t c d):=by
 have F:=(rZ t ht).1
 obtain⟨c1,c2,c3,c4,c5,c6⟩:=Nd F jB d.length (Nat.le_refl _)
 obtain⟨i,hi,O,H,r⟩:=sa F jB (k:=0) (by omega)
 obtain⟨j,I,U,J,D⟩:=sa F jB (k:=d.length-1) (by omega)
 obtain⟨b1,b2,_,_,_⟩:=Xs hc r D
 have K:oD (GK t (l8 t.fl d 0).fr)=0:=by rw[H];exact HV ht (sU ht (List.getElem_mem hi)).1
 have N:oD (GK t (l8 t.fl d (d.length-1)).to)=0:=by rw[J];exact HV ht (sU ht (List.getElem_mem I)).2
 have V:=Zo.off_bd K (xz c (l8 t.fl d 0))
 have W:=Zo.off_bd N (xD c (l8 t.fl d (d.length-1)))
 have nb: -1000000000≤Sa t c (l8 t.fl d 0) (l8 t.fl d (d.length-1))∧Sa t c (l8 t.fl d 0) (l8 t.fl d (d.length-1))≤1000000000:=by
  unfold Sa
  split
  ·have:=Xz (z:=GK t (l8 t.fl d 0).fr) (A:=xz c (l8 t.fl d 0)) (B:=xD c (l8 t.fl d (d.length-1))) (f:=c.nf) (t:=c.nt) (by omega) (by omega)
   omega
  ·omega
 have X: -1000000000≤Sb t c (l8 t.fl d 0) (l8 t.fl d (d.length-1))∧Sb t c (l8 t.fl d 0) (l8 t.fl d (d.length-1))≤1000000000:=by
  unfold Sb;omega
 have Y:0≤Xq t c (l8 t.fl d 0)∧Xq t c (l8 t.fl d 0)≤1439:=Xy _ _
 have Z:0≤Xr t c (l8 t.fl d (d.length-1))∧Xr t c (l8 t.fl d (d.length-1))≤1439:=Xy _ _
 refine⟨rfl,fun i s h=> ?_⟩
 unfold jS
 generalize BG t.fl d d.length=q at*
 clear V W K N O H U J hi I r D F
 match i,h with
 |0,h=>cases h;exact Ea (by decide) (ai8 (bdE (by show _≤q.lg∧q.lg≤_;omega)))
 |1,h=>cases h;exact Ea (by decide) (ai8 (bdE (by show _≤q.hd∧q.hd≤_;omega)))
 |2,h=>cases h;exact Ea (by decide) (ai8 (bdE (by show _≤(q.ks.length:Int)∧(q.ks.length:Int)≤_;omega)))
 |3,h=>cases h;exact Ea (by decide) (Se (bdE (by show _≤q.bk∧q.bk≤_;omega)))
 |4,h=>cases h;exact Ea (by decide) (Se (bdE (by show _≤xD c (l8 t.fl d (d.length-1))-xz c (l8 t.fl d 0)∧xD c (l8 t.fl d (d.length-1))-xz c (l8 t.fl d 0)≤_;omega)))
 |5,h=>cases h;exact Ea (by decide) (Se (bdE nb))
 |6,h=>cases h;exact Ea (by decide) (Se (bdE (by show _≤q.lo∧q.lo≤_;omega)))
 |7,h=>cases h;exact Ea (by decide) (Se (bdE (by show _≤q.so∧q.so≤_;omega)))
 |8,h=>cases h;exact Ea (by decide) (Se (bdE X))
 |9,h=>cases h;exact Ea (by decide) (atl Y)
 |10,h=>cases h;exact Ea (by decide) (atl Z)
 |n+11,h=>cases h
def atm(l:Cs)(A:List Int)(x:Ex):Int:=x.val0 (IQ (pX l) 1 A)
theorem ai9{l:Cs}{A:List Int}(i:Nf A){x:Ex}(hx:RS l 1 x):E4 A (comp (pX l) 1 x)∧(comp (pX l) 1 x).val A=atm l A x∧ ∃k,E3 k (atm l A x):=by
 obtain⟨_,r,k,hk⟩:=hx
 have H:=(oZ r).1
 have I:=x.nodes_eq
 obtain⟨h1,D,F⟩:=Pn (ai7 l i) (show A.length=(S9 1).length from i.1) x k (oj r) (by omega) hk
 exact⟨h1,D,k,F⟩
def wM(A:List Int)(l:RL):Bool:=l.all fun u=>decide (u.2.val A≠0)
def XA(n:Int):List Int→Int
 | []=>n
 |v::r=>XA (wr .i64 (n+v)) r
def zr(A:List Int)(l:RL):Int:=XA 0 (l.map fun u=>u.2.val A)
def uT(A:List Int)(l:RL):Int:=match l with| []=>A.getD 3 0|u::_=>u.2.val A
theorem H2{l:RL}{v:T}(h:IM 4 l v):lenI v=some (.i .i64 (l.length:Int))∧ ∀k (hk:k<l.length),∃b D r,(∀kk,lR v (.i kk (k:Int)) 4=some (.vp (.s l[k].1:: .i .i64 l[k].2.op:: .i .i64 l[k].2.num::b::r)))∧IsSl b l[k].2.args.length D∧iR l[k].2.args D:=by
 obtain⟨n,cs,h1,N,F,O⟩:=h
 rw[if_pos rfl]at F
 have U:=iA.len ZH.len F
 have e:n=l.length:=by omega
 subst e
 refine⟨h1.lenI,fun k hk=> ?_⟩
 obtain⟨c,r,H,V,rfl,I⟩:=pt (k:=4) ZH.len h1 F k hk
 obtain⟨b,D,rfl,J,K⟩:=I.cells
 exact⟨b,D,r,H,J,K⟩
theorem H3{l:RL}{v:T}(h:IM 3 l v):lenI v=some (.i .i64 (l.length:Int))∧ ∀k (hk:k<l.length),∃b D r,(∀kk,lR v (.i kk (k:Int)) 3=some (.vp (.i .i64 l[k].2.op:: .i .i64 l[k].2.num::b::r)))∧IsSl b l[k].2.args.length D∧iR l[k].2.args D:=by
 obtain⟨n,cs,h1,N,F,O⟩:=h
 rw[if_neg (by decide)]at F
 have K:=iR.len F
 rw[List.length_map]at K
 have e:n=l.length:=by omega
 subst e
 refine⟨h1.lenI,fun k hk=> ?_⟩
 have WR:k<(l.map Prod.snd).length:=by simpa using hk
 obtain⟨b,D,r,H,I,J⟩:=XB (xs:=l.map Prod.snd) (by rw[List.length_map];exact h1) F k WR
 rw[List.getElem_map]at H I J
 exact⟨b,D,r,H,I,J⟩
def E5(m r1 r2 r3 c1 c2 c3 cr nb:T):List T:= [m,.nilsl,r1,r2,r3,.nilsl,c1,c2,c3,cr,nb]
section
variable(c:Ct)(zT aT fT a7 a8 a9 iq iy iv m r1 r2 r3 c1 c2 c3 cr nb:T)(A:List Int)(qn:T)(kM:IsSl qn A.length (ints A))
theorem H4(kM:IsSl qn A.length (ints A)):be pE 71 [.i .i64 1,qn] []=some (qn,[]):=by
 rw[il apJ (by simp[c71])]
 simp only[qA,seval,c71,kM.froz]
include kM
theorem azB(l:RL)(hr:IM 4 l r1)(K: ∀u∈l,E4 A u.2)(hlen:l.length≤1000)(r:Bool)(Ox:r=wM A l)(o:Out)(J:o=if r=true then .ext 0 else .ret)(fr:Fr)(lh:iw b8)(sh:List b8)(D:an fr 0=stV c zT aT fT a7 a8 a9 iq iy iv (E5 m r1 r2 r3 c1 c2 c3 cr nb))(h1:an fr 1= .i .i64 1)(H:an fr 2=qn)(F:an fr 17= .i .i64 (l.length:Int))(I:an fr 18= .i .i64 0):
  wJ 34 Ao fr lh sh o∧
  ((r=false→an (tD pE 34 Ao fr lh sh) 6= .b false)∧ow pE 34 Ao fr lh sh=sh):=by
 refine ny (fun k st=> ∃(fr:Fr) (lh:iw b8),st=⟨fr,lh,sh⟩∧r=wM A (l.drop k)∧an fr 0=stV c zT aT fT a7 a8 a9 iq iy iv (E5 m r1 r2 r3 c1 c2 c3 cr nb)∧an fr 1= .i .i64 1∧an fr 2=qn∧an fr 17= .i .i64 (l.length:Int)∧an fr 18= .i .i64 (k:Int))
  (fun N iU O=>(r=false→an N 6= .b false)∧O=sh) _ l.length ?_ ?_ fr lh sh ⟨fr,lh,rfl,Ox,D,h1,H,F,I⟩
 ·rintro k _ hk ⟨fr,lh,rfl,Ox,D,h1,H,F,I⟩
  have U:(k:Int)<l.length:=by omega
  have V:=iO (k:=k) (by omega)
  obtain⟨b,W,X,Y,Z,sg⟩:=(H2 hr).2 k hk
  have hv:=Ec A qn kM l[k].2 b W X Z sg (K _ (List.getElem_mem hk))
  rw[List.drop_eq_getElem_cons hk]at Ox
  rw[show wM A (l[k]::l.drop (k+1))=(decide (l[k].2.val A≠0)&&wM A (l.drop (k+1)))from rfl]at Ox
  generalize l[k]=u at*
  generalize u.2.val A=x at*
  have hz:=kM.froz
  unfold stV jz E5 at D ⊢
  simp only[List.cons_append,List.nil_append]at D ⊢
  simp only[qB,seval,kZ,Ao,D,h1,H,F,I,U,Y,V,hv,hz,Ar]
  refine DV (fun h=> ?_) (fun h=> ?_)
  ·rw[decide_eq_false (by simpa using h),Bool.false_and]at Ox
   exact AM ⟨by rw[J,Ox];rfl,fun _=>(by simp only[qA,seval]),rfl⟩
  ·rw[decide_eq_true h,Bool.true_and]at Ox
   exact mR ⟨_,_,rfl,Ox,by simp only[qA,seval,D],by simp only[qA,seval,h1],by simp only[qA,seval,H],by simp only[qA,seval,F],by simp only[qA,seval]⟩
 ·rintro _ ⟨fr,lh,rfl,Ox,D,h1,H,F,I⟩
  rw[List.drop_length]at Ox
  simp only[qA,seval,Ao,F,I,Int.lt_irrefl]
  exact oS ⟨by rw[J,Ox];rfl,fun h=>(by rw[Ox]at h;cases h),rfl⟩
theorem XD(l:RL)(hr:IM 4 l r1)(D: ∀u∈l,E4 A u.2)(hlen:l.length≤1000):be pE 98 [stV c zT aT fT a7 a8 a9 iq iy iv (E5 m r1 r2 r3 c1 c2 c3 cr nb),.i .i64 1,qn] []=some (.b (wM A l),[]):=by
 have r:=fun fr lh sh F h1 H I J=>azB c zT aT fT a7 a8 a9 iq iy iv m r1 r2 r3 c1 c2 c3 cr nb A qn kM l hr D hlen _ rfl _ rfl fr lh sh F h1 H I J
 have BY:=H4 A qn kM
 have K:=(H2 hr).1
 have N:=kM.froz
 unfold stV jz E5 at*
 simp only[List.cons_append,List.nil_append]at*
 rw[il aqc (by simp[c98])]
 cases O:wM A l <;> rw[O]at r
 all_goals simp only[qA,seval,kZ,c98,BY,K,r,N,agV]
theorem azC(l:RL)(hr:IM 3 l c1)(J: ∀u∈l,E4 A u.2)(hlen:l.length≤1000)(fr:Fr)(lh:iw b8)(sh:List b8)(r:an fr 0=stV c zT aT fT a7 a8 a9 iq iy iv (E5 m r1 r2 r3 c1 c2 c3 cr nb))(h1:an fr 1= .i .i64 1)(F:an fr 2=qn)(H:an fr 7= .i .i64 0)(D:an fr 18= .i .i64 (l.length:Int))(E6:an fr 19= .i .i64 0):
  wJ 36 zY fr lh sh (.ext 0)∧
  (an (tD pE 36 zY fr lh sh) 7= .i .i64 (zr A l)∧ow pE 36 zY fr lh sh=sh):=by
 refine ny (fun k st=> ∃(fr:Fr) (lh:iw b8) (n:Int),st=⟨fr,lh,sh⟩∧XA n ((l.drop k).map fun u=>u.2.val A)=zr A l∧an fr 0=stV c zT aT fT a7 a8 a9 iq iy iv (E5 m r1 r2 r3 c1 c2 c3 cr nb)∧an fr 1= .i .i64 1∧an fr 2=qn∧an fr 7= .i .i64 n∧an fr 18= .i .i64 (l.length:Int)∧an fr 19= .i .i64 (k:Int))
  (fun K iU N=>an K 7= .i .i64 (zr A l)∧N=sh) _ l.length ?_ ?_ fr lh sh ⟨fr,lh,0,rfl,rfl,r,h1,F,H,D,E6⟩
 ·rintro k _ hk ⟨fr,lh,n,rfl,I,r,h1,F,H,D,E6⟩
  have O:(k:Int)<l.length:=by omega
  have U:=iO (k:=k) (by omega)
  obtain⟨b,V,W,X,Y,Z⟩:=(H3 hr).2 k hk
  have hv:=Ec A qn kM l[k].2 b V W Y Z (J _ (List.getElem_mem hk))
  rw[List.drop_eq_getElem_cons hk,List.map_cons,XA]at I
  generalize l[k]=u at*
  generalize u.2.val A=x at*
  have hz:=kM.froz
  unfold stV jz E5 at r ⊢
  simp only[List.cons_append,List.nil_append]at r ⊢
  simp only[qB,seval,kZ,zY,r,h1,F,H,D,E6,O,X,U,hv,hz,Ar]
  exact mR ⟨_,_,_,rfl,I,by simp only[qA,seval,r],by simp only[qA,seval,h1],by simp only[qA,seval,F],by simp only[qA,seval],by simp only[qA,seval,D],by simp only[qA,seval]⟩
 ·rintro _ ⟨fr,lh,n,rfl,I,r,h1,F,H,D,E6⟩
  rw[List.drop_length,List.map_nil,XA]at I
  simp only[qA,seval,zY,D,E6,Int.lt_irrefl]
  exact oS ⟨rfl,by simp only[qA,seval,H,I],rfl⟩
theorem K1(l:RL)(hr:IM 3 l c1)(r: ∀u∈l,E4 A u.2)(hlen:l.length≤1000):be pE 41 [stV c zT aT fT a7 a8 a9 iq iy iv (E5 m r1 r2 r3 c1 c2 c3 cr nb),.i .i64 1,qn] []=some (.i .i64 (zr A l),[]):=by
 have D:=fun fr lh sh F h1 H I J E6=>azC c zT aT fT a7 a8 a9 iq iy iv m r1 r2 r3 c1 c2 c3 cr nb A qn kM l hr r hlen fr lh sh F h1 H I J E6
 have BY:=H4 A qn kM
 have K:=(H3 hr).1
 have N:=kM.froz
 unfold stV jz E5 at*
 simp only[List.cons_append,List.nil_append]at*
 rw[il agM (by simp[c41])]
 simp only[qA,seval,kZ,c41,BY,K,D,N,agV]
theorem azD(l:RL)(hr:IM 3 l cr)(I: ∀u∈l,E4 A u.2)(fr:Fr)(lh:iw b8)(sh:List b8)(F:an fr 0=stV c zT aT fT a7 a8 a9 iq iy iv (E5 m r1 r2 r3 c1 c2 c3 cr nb))(h1:an fr 1=qn)(r:an fr 10= .i .i64 (l.length:Int))(D:an fr 11= .i .i64 0):
  wJ 26 wP fr lh sh (if l= []then Out.ext 0 else Out.ret)∧
  ((l≠ []→an (tD pE 26 wP fr lh sh) 4= .i .i64 (uT A l))∧ow pE 26 wP fr lh sh=sh):=by
 refine ny (fun k st=>st=⟨fr,lh,sh⟩) (fun J iU K=>(l≠ []→an J 4= .i .i64 (uT A l))∧K=sh) _ 0 (fun k st hk=>absurd hk (by omega)) ?_ fr lh sh rfl
 rintro _ rfl
 have N:=kM.froz
 cases l with
 |nil=>
  rw[List.length_nil]at r
  have r:an fr 10= .i .i64 0:=r
  simp only[qA,seval,wP,r,D,Int.lt_irrefl]
  grind [oS]
 |cons u l=>
  obtain⟨b,O,H,U,V,W⟩:=(H3 hr).2 0 (by simp)
  have X:=Ec A qn kM u.2 b O H V W (I u (by simp))
  have Y: ∀kk,lR cr (.i kk 0) 3=some (.vp (.i .i64 u.2.op:: .i .i64 u.2.num::b::H)):=U
  have Z:(0:Int)<((l.length+1:Nat):Int):=by omega
  unfold stV jz E5 at F
  simp only[List.cons_append,List.nil_append]at F
  simp only[qA,seval,forall_const,wP,F,h1,r,D,Y,Z,X,N,Ar]
  exact AM ⟨rfl,(by unfold uT;simp only[qA,seval]),rfl⟩
theorem K2(l:RL)(hr:IM 3 l cr)(N: ∀u∈l,E4 A u.2)(V:A.length=11):be pE 44 [stV c zT aT fT a7 a8 a9 iq iy iv (E5 m r1 r2 r3 c1 c2 c3 cr nb),qn] []=some (.i .i64 (uT A l),[]):=by
 have D:=fun fr lh sh O h1 F H=>azD c zT aT fT a7 a8 a9 iq iy iv m r1 r2 r3 c1 c2 c3 cr nb A qn kM l hr N fr lh sh O h1 F H
 have K:=(H3 hr).1
 have U:=kM.froz1
 have I: ∃r,∀kk,lR qn (.i kk 3) 1=some (.vp (.i .i64 (A.getD 3 0)::r)):=by
  refine⟨(ints A).drop 4,fun kk=> ?_⟩
  have:=kM.ia (sz:=1) (k:=3) (kk:=kk) (by rw[kO];omega) (by omega)
  grind [oQ,List.getElem?_eq_getElem]
 obtain⟨W,I⟩:=I
 unfold stV jz E5 at*
 simp only[List.cons_append,List.nil_append]at*
 rw[il agN (by simp[c44])]
 by_cases J:l= []
 ·simp only[J,if_true]at D
  subst J
  have e:uT A []=A.getD 3 0:=rfl
  rw[e]
  simp only[qA,seval,c44,Tm,K,D,I]
 ·simp only[J,if_false,ne_eq,not_false_eq_true,forall_const]at D
  generalize uT A l=x at*
  simp only[qA,seval,c44,K,D]
end
end Go.Proofs.YtcpceiclnbmgiaaGreat
namespace Go.Ev
open Go
theorem XE{lh:iw b8}{sh:List b8}{k g len sz wm:Nat}{cs:List T}{a b e f:Int}{s u:List Nat}{x:Bool}(h:b7 lh k=⟨g,.cells cs wm false⟩)(r:cs.length=len*sz)(D:len≠0):Rq lh sh 100 [.agg [.isl .L k g 0 len sz,.i .i64 a,.i .i64 b,.s s,.s u,.i .i64 e,.i .i64 f],.b x]=some (.tup [.agg [.sl cs len false,.i .i64 a,.i .i64 b,.s s,.s u,.i .i64 e,.i .i64 f],.b x],sh):=by
 have F:(St.mk .nil lh sh).get .L k=⟨g,.cells cs wm false⟩:=h
 have H:(fz false 8 (.tup [.agg [.nilsl,.i .i64 a,.i .i64 b,.s s,.s u,.i .i64 e,.i .i64 f],.b x])).run (St.mk .nil lh sh).get sh.length=some (.tup [.agg [.nilsl,.i .i64 a,.i .i64 b,.s s,.s u,.i .i64 e,.i .i64 f],.b x],[]):=rfl
 simp only[Rq,rq,lp,iI,iG,List.getElem?_cons_zero,List.set_cons_zero,show¬(100:Nat)<100 from by decide,if_false,show(100:Nat)/100-1=0 from rfl,show(100:Nat)%100=0 from rfl]
 rw[H]
 simp only[St.ups]
 rw[F]
 simp only
 rw[if_pos ⟨trivial,r,D,.inr rfl⟩]
 rfl
theorem Sf{lh:iw b8}{sh:List b8}{a b e f:Int}{s u:List Nat}{x:Bool}:Rq lh sh 100 [.agg [.nilsl,.i .i64 a,.i .i64 b,.s s,.s u,.i .i64 e,.i .i64 f],.b x]=some (.tup [.agg [.nilsl,.i .i64 a,.i .i64 b,.s s,.s u,.i .i64 e,.i .i64 f],.b x],sh):=rfl
end Go.Ev
namespace Go.Proofs.YtcpceiclnbmgiaaGreat
open Go Go.Ev
structure Lg where
 du:List (Int×Bool)
 rp:Int
 rl:Int
 fr:List Nat
 to:List Nat
 co:Int
 cr:Int
def sV(g:Lg)(v:T):List T:= [v,.i .i64 g.rp,.i .i64 g.rl,.s g.fr,.s g.to,.i .i64 g.co,.i .i64 g.cr]
def lg0:Lg:=⟨[],0,0,[],[],0,0⟩
def oE(d:List (Int×Bool)):List T:=d.flatMap fun k=> [.i .i64 k.1,.b k.2]
theorem zt(d:List (Int×Bool)):(oE d).length=d.length*2:=pJ (sz:=2) (fun _=>rfl) d
theorem Po(a b:List (Int×Bool)):oE (a++b)=oE a++oE b:=by grind [oE]
theorem K3: ∀d:List (Int×Bool),(oE d).all rk=true
 | []=>rfl
 |k::d=>by
  have:oE (k::d)= [T.i .i64 k.1,.b k.2]++oE d:=rfl
  rw[this,List.all_append,K3 d];rfl
theorem Pp: ∀{d:List (Int×Bool)} {i:List T},iA TkR d i→i=oE d
 | [],i,h=>h
 |k::d,i,h=>by
  obtain⟨c,r,rfl,h1,D⟩:=h
  rw[TkR]at h1
  rw[h1,Pp D];rfl
theorem K4: ∀d:List (Int×Bool),iA TkR d (oE d)
 | []=>rfl
 |k::d=>⟨[.i .i64 k.1,.b k.2],oE d,rfl,rfl,K4 d⟩
theorem GG.sl{d:List (Int×Bool)}{v:T}(h:GG d v):IsSl v d.length (oE d):=by
 obtain⟨r,h1,i⟩:=h
 rwa [Pp i]at h1
theorem GG.of{d:List (Int×Bool)}{v:T}(h:IsSl v d.length (oE d)):GG d v:=⟨_,h,K4 d⟩
def FG(c:Ct):RL:=zV c 1 c.ru.length
def ZN(c:Ct):RL:=BW c 1 c.co.length
def crS(c:Ct):RL:=SZ c c.cr.length
def Ng(t:Tt)(c:Ct)(d:List (Int×Bool)):Bool:=wM (jS t c d) (FG c)
def zu(t:Tt)(c:Ct)(d:List (Int×Bool)):Lg:=⟨d,xz c (l8 t.fl d 0),xD c (l8 t.fl d (d.length-1)),(l8 t.fl d 0).fr,(l8 t.fl d (d.length-1)).to,zr (jS t c d) (ZN c),uT (jS t c d) (crS c)⟩
theorem XF{t:Tt}{c:Ct}(hc:mI c=0){A:List Int}(r:Nf A):(∀u∈FG c,E4 A u.2)∧(∀u∈ZN c,E4 A u.2)∧(∀u∈crS c,E4 A u.2)∧(FG c).length≤40∧(ZN c).length≤40:=by
 obtain⟨h1,D,F,H,I,J,_⟩:=O5 c hc
 unfold FG ZN crS zV BW SZ
 rw[List.take_length,List.take_length,List.take_length]
 refine⟨fun u i=> ?_,fun u i=> ?_,fun u i=> ?_, ?_, ?_⟩
 ·obtain⟨x,hx,rfl⟩:=List.mem_map.1 i
  grind [List.mem_filter.1,ai9]
 ·obtain⟨x,hx,rfl⟩:=List.mem_map.1 i
  grind [List.mem_filter.1,ai9]
 ·grind [List.mem_map.1,ai9]
 ·grind
 ·grind
section
variable(t:Tt)(c:Ct)(zT aT fT a7 a8 a9 iq iy iv:T)(vs:List T)(hT:uf t zT aT fT)(hV:FB t c vs)(ht:uo t=0)(hc:mI c=0)(d:List (Int×Bool))(dT:T)(hd:GG d dT)(h1:1≤d.length)(hlen:d.length≤100)(jB: ∀k∈d,xq t.fl.length k.1=true)
include hT ht hd h1 hlen jB
theorem XG: ∃i j r1 r2:_,∃(hi:i<t.fl.length) (r:j<t.fl.length),l8 t.fl d 0=t.fl[i]∧l8 t.fl d (d.length-1)=t.fl[j]∧(∀kk,lR dT (.i kk 0) 2=some (.vp (.i .i64 (i:Int)::r1)))∧(∀kk,lR dT (.i kk ((d.length-1:Nat):Int)) 2=some (.vp (.i .i64 (j:Int)::r2))):=by
 have _:=hT
 obtain⟨i,hi,H,I,_⟩:=sa (rZ t ht).1 jB (k:=0) (by omega)
 obtain⟨j,r,J,K,_⟩:=sa (rZ t ht).1 jB (k:=d.length-1) (by omega)
 obtain⟨r1,D⟩:=wL hd 0 (by omega)
 obtain⟨r2,F⟩:=wL hd (d.length-1) (by omega)
 rw[H]at D
 rw[J]at F
 exact⟨i,j,_,_,hi,r,I,K,D,F⟩
theorem XH:be pE 99 [stV c zT aT fT a7 a8 a9 iq iy iv vs,dT] []=some (.s (l8 t.fl d 0).fr,[]):=by
 obtain⟨i,j,r1,r2,hi,H,r,I,D,J⟩:=XG t zT aT fT hT ht d dT hd h1 hlen jB
 obtain⟨r3,F⟩:=uR t c zT aT fT a7 a8 a9 iq iy iv vs hT i hi
 rw[r]
 generalize t.fl[i]=f at*
 have FE:=qS c zT aT fT a7 a8 a9 iq iy iv vs
 rw[il ag4 (by simp[c99])]
 simp only[qA,seval,c99,D,F,FE,Fb]
theorem ajb:be pE 100 [stV c zT aT fT a7 a8 a9 iq iy iv vs,dT] []=some (.s (l8 t.fl d (d.length-1)).to,[]):=by
 obtain⟨i,j,r1,r2,hi,r,K,D,N,F⟩:=XG t zT aT fT hT ht d dT hd h1 hlen jB
 obtain⟨r3,H⟩:=uR t c zT aT fT a7 a8 a9 iq iy iv vs hT j r
 rw[D]
 generalize t.fl[j]=f at*
 have I:=tQ (k:=d.length) (by omega) (by omega)
 have J:=hd.sl.lenI
 have FE:=qS c zT aT fT a7 a8 a9 iq iy iv vs
 rw[il Uj (by simp[TA])]
 simp only[qA,seval,TA,J,I,F,H,FE,Fb]
include hc
theorem GL:be pE 45 [stV c zT aT fT a7 a8 a9 iq iy iv vs,dT] []=some (.agg [.i .i64 (xz c (l8 t.fl d 0)),.i .i64 (xD c (l8 t.fl d (d.length-1)))],[]):=by
 obtain⟨i,j,r1,r2,hi,D,F,H,I,J⟩:=XG t zT aT fT hT ht d dT hd h1 hlen jB
 have r:=K0 t c zT aT fT a7 a8 a9 iq iy iv vs hT ht hc i j hi D
 rw[F,H]
 generalize xz c t.fl[i]=S at*
 generalize xD c t.fl[j]=E at*
 have K:=tQ (k:=d.length) (by omega) (by omega)
 have N:=hd.sl.lenI
 have FE:=qS c zT aT fT a7 a8 a9 iq iy iv vs
 rw[il apo (by simp[c45])]
 simp only[qA,seval,jG,iE,c45,N,K,I,J,r,FE,agZ,axF]
include hV
theorem acC:be pE 59 [stV c zT aT fT a7 a8 a9 iq iy iv vs,dT] []=some (if Ng t c d=true then .tup [.agg (sV (zu t c d) (.sl (oE d) d.length false)),.b true]else .tup [.agg (sV lg0 .nilsl),.b false],[]):=by
 obtain⟨s1,K5⟩:=HY t c zT aT fT a7 a8 a9 iq iy iv vs hT hV ht hc d dT hd h1 hlen jB
 have F:=Eb (t:=t) (c:=c) ht hc h1 hlen jB
 have H:=GL t c zT aT fT a7 a8 a9 iq iy iv vs hT ht hc d dT hd h1 hlen jB
 have X:=XH t c zT aT fT a7 a8 a9 iq iy iv vs hT ht d dT hd h1 hlen jB
 have H5:=ajb t c zT aT fT a7 a8 a9 iq iy iv vs hT ht d dT hd h1 hlen jB
 obtain⟨Y,Z,g3,g4,g5⟩:=XF (t:=t) hc F
 have kM:IsSl (.sl (ints (jS t c d)) 11 false) (jS t c d).length (ints (jS t c d)):= .inr ⟨false,by rw[F.1]⟩
 obtain⟨q,r1,r2,r3,c1,c2,c3,cr,nb,Oy,_,_,I,_,_,J,_,_,K⟩:=hV
 have Oy:vs=E5 (.vm (q.map fun p=>sK p.1) (q.map fun p=>T.agg p.2)) r1 r2 r3 c1 c2 c3 cr (.b nb):=Oy
 have i:=XD c zT aT fT a7 a8 a9 iq iy iv (.vm (q.map fun p=>sK p.1) (q.map fun p=>T.agg p.2)) r1 r2 r3 c1 c2 c3 cr (.b nb) _ _ kM (FG c) I Y (by omega)
 have hk:=K1 c zT aT fT a7 a8 a9 iq iy iv (.vm (q.map fun p=>sK p.1) (q.map fun p=>T.agg p.2)) r1 r2 r3 c1 c2 c3 cr (.b nb) _ _ kM (ZN c) J Z (by omega)
 have hr:=K2 c zT aT fT a7 a8 a9 iq iy iv (.vm (q.map fun p=>sK p.1) (q.map fun p=>T.agg p.2)) r1 r2 r3 c1 c2 c3 cr (.b nb) _ _ kM (crS c) K g3 F.1
 rw[←Oy]at i hk hr
 rw[show wM (jS t c d) (FG c)=Ng t c d from rfl]at i
 have FE:=qS c zT aT fT a7 a8 a9 iq iy iv vs
 have N:=fun lh sh=>hd.sl.slC (lh:=lh) (sh:=sh) (zt d)
 have r:=hd.sl.froz
 have E1:d.length*16≤roomy:=by unfold roomy;omega
 have O:=zt d
 have U:d.length≠0:=by omega
 have mr:isNe dT=true:=by
  rcases hd.sl with⟨_,h,_⟩|⟨ex,rfl⟩
  ·omega
  ·cases hq:d.length with
   |zero=>omega
   |succ m=>rfl
 obtain⟨n,W⟩: ∃n,d.length=n+1:=⟨d.length-1,by omega⟩
 have pa: ∀lh sh,appW lh sh 20 2 16 .nilsl dT=some (.isl .L 20 ((b7 lh 20).g+1) 0 d.length 2,nG lh 20 ⟨(b7 lh 20).g+1,.cells (oE d) 0 false⟩):=fun lh sh=>by
  unfold appW
  rw[N,Option.bind_some,W,DP,if_pos (by rw[←W];exact E1)]
 unfold sV zu lg0
 generalize xz c (l8 t.fl d 0)=x1 at*
 generalize xD c (l8 t.fl d (d.length-1))=x2 at*
 generalize (l8 t.fl d 0).fr=x3 at*
 generalize (l8 t.fl d (d.length-1)).to=x4 at*
 generalize zr (jS t c d) (ZN c)=x5 at*
 generalize uT (jS t c d) (crS c)=x6 at*
 generalize stV c zT aT fT a7 a8 a9 iq iy iv vs=V at*
 have D:froz (T.sl (ints (jS t c d)) 11 false)=true:=rfl
 generalize T.sl (ints (jS t c d)) 11 false=avT at*
 rw[ah6 apD (by simp[c59])]
 cases hb:Ng t c d <;> rw[hb]at i
 ·simp only[Bool.false_eq_true,if_false]
  simp only[qA,seval,c59,K5,i,D,FE,r,Sf,Ug,aqd]
 ·simp only[if_true]
  simp only[qA,seval,jG,sN,iE,mc,c59,K5,i,D,hk,hr,H,X,H5,FE,r,mr,pa,Ug,aqd,apq,axS,axT,aqe,aqf,apj,axp,apn,axq]
  exact XE (wm:=0) (by simp only[qA,seval]) O U
end
theorem zw{c:Ct}{fl:List Fl}{d:List (Int×Bool)}(h:tN c fl d=0):1≤d.length∧d.length≤6∧(∀k∈d,xq fl.length k.1=true)∧LV c fl d=true:=by
 unfold tN at h
 split at h
 ·cases h
 split at h
 ·cases h
 split at h
 ·rename_i a
  split at h
  ·rename_i b;exact⟨by omega,by omega,List.all_eq_true.1 a,b⟩
  ·cases h
 ·cases h
theorem H6(t:Tt)(c:Ct)(d:List (Int×Bool)):(zu t c d).du=d:=rfl
section
variable(t:Tt)(c:Ct)(zT aT fT a7 a8 a9 iq iy iv:T)(vs:List T)(hT:uf t zT aT fT)(hC:um c a7 a8 a9 iq iy iv)(hN:M4 c)(d:List (Int×Bool))(dT:T)(hd:GG d dT)(hlen:d.length≤1000)
include hT hd hlen
include hC hN
end
section
variable(t:Tt)(c:Ct)(zT aT fT a7 a8 a9 iq iy iv:T)(hT:uf t zT aT fT)(hC:um c a7 a8 a9 iq iy iv)(ht:uo t=0)(hc:mI c=0)
end
section
variable(t:Tt)(c:Ct)(zT aT fT a7 a8 a9 iq iy iv:T)(hT:uf t zT aT fT)(hC:um c a7 a8 a9 iq iy iv)(ht:uo t=0)(hc:mI c=0)
include hT hC ht hc
end
def ajc(l:List (List Nat×Int)):List T:=l.flatMap fun p=> [.s p.1,.i .i64 p.2]
def ajd(A:List Int):List (List Nat×Int):=kb.zip A
theorem ints_at{A:List Int}{v:T}(h:IsSl v A.length (ints A))(k:Nat)(hk:k<A.length): ∃r,∀kk,lR v (.i kk (k:Int)) 1=some (.vp (.i .i64 A[k]::r)):=by
 refine⟨(ints A).drop (k+1),fun kk=> ?_⟩
 rw[h.ia (sz:=1) (by rw[kO];omega) hk,Nat.mul_one,oQ A k hk]
section
variable(t:Tt)(c:Ct)(zT aT fT a7 a8 a9 iq iy iv:T)(hT:uf t zT aT fT)(hC:um c a7 a8 a9 iq iy iv)(ht:uo t=0)(hc:mI c=0)
end
end Go.Proofs.YtcpceiclnbmgiaaGreat
