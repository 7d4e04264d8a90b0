/- Walks of functions of the program and of the reference, and their plain laws, part 13. Conditions: the theorems' own. -/
import Derived.Test.YtcpceiclnbmgiaaGreatM12
import Derived.KernelRfl
set_option maxRecDepth 100000
set_option linter.unusedSimpArgs false
set_option linter.unusedVariables false
set_option maxHeartbeats 16000000
namespace Go.Proofs.YtcpceiclnbmgiaaGreat
open Go Go.Ev
def dvC(s:Cn):List T:= [.i .i64 s.lg,.i .i64 s.hd,.i .i64 0,.i .i64 s.bk,.i .i64 0,.i .i64 0,.i .i64 s.lo,.i .i64 s.so,.i .i64 0,.i .i64 0,.i .i64 0]
theorem atD{n:Nat}(h:n≤1000):(n+1)*16≤roomy:=by unfold roomy;omega
section
variable(t:Tt)(c:Ct)(zT aT fT a7 a8 a9 iv iy iw:T)(vs:List T)(hT:sZ t zT aT fT)(ht:uD t=0)
include hT ht
theorem azY(d:List (Int×Bool))(dT:T)(hd:H4 d dT)(hlen:d.length≤100)(jP: ∀k∈d,rS t.fl.length k.1=true)(fr:Fr)(lh:iq b8)(sh:List b8)(lU:sh= [⟨1,.cells (dvC cn0) 0 false⟩])(h0:an fr 0=stV c zT aT fT a7 a8 a9 iv iy iw vs)(h1:an fr 1=dT)(h5:an fr 5= .isl .S 0 1 0 11 1)(h6:an fr 6= .nilsl)(jH:an fr 14=dT)(U:an fr 15= .i .i64 (d.length:Int))(H:an fr 16= .i .i64 0):
  Lp pE 117 Ak fr lh sh (.ext 0) fun f l s=>jG l (an f 6) 64 1 (BT t.fl d d.length).ks.length ((BT t.fl d d.length).ks.map T.s)∧s= [⟨1,.cells (dvC (BT t.fl d d.length)) 0 false⟩]:=by
 refine ky yb (fun k f l s=>an f 16= .i .i64 (k:Int)∧jG l (an f 6) 64 1 (BT t.fl d k).ks.length ((BT t.fl d k).ks.map T.s)∧s= [⟨1,.cells (dvC (BT t.fl d k)) 0 false⟩]) d.length ⟨H,by rw[h6];exact jG.nil,lU⟩ ?_ ?_
 ·rintro k I l _ hk O ⟨H,r,rfl⟩
  have iX:(k:Int)<d.length:=by omega
  have hw:=iN (k:=k) (by omega)
  have V:=(sj t ht).1
  obtain⟨rr,W⟩:=wU hd k hk
  obtain⟨i,hi,ei,ef,J⟩:=sq V jP hk
  obtain⟨r2,X⟩:=vg t c zT aT fT a7 a8 a9 iv iy iw vs hT i hi
  rw[←ef]at X
  obtain⟨c1,c2,c3,c4,c5,c6⟩:=ND V jP k (by omega)
  have qG:BT t.fl d (k+1)=if k=0 then cnT (mA t.fl d k) d[k].2 (BT t.fl d k)else cnG (mA t.fl d (k-1)) (mA t.fl d k) (cnT (mA t.fl d k) d[k].2 (BT t.fl d k)):=by rw[BT,XV hk]
  have K:=Ia (mA t.fl d k).ty (BT t.fl d k).ks (lu (BT t.fl d k).ks.length ((BT t.fl d k).ks.map T.s)) r.isl (by omega)
  have D:=fun(Y:iq b8) (Z:List b8) (keep:Bool) (e:b7 Y 64=b7 l 64)=>(r.congr e).fzV (sh:=Z) (keep:=keep)
  have ng:=fun(Y:iq b8) (Z:List b8) (e:b7 Y 64=b7 l 64)=>m6 (sh:=Z) (r.congr e) [.s (mA t.fl d k).ty] rfl (bytes:=16) (atD (by omega)) true
  have ux:=r.notS
  rw[ei]at W
  obtain⟨_,f1,f2,f3,f4⟩:=id J
  generalize Tz:an I 6=v6 at r D ng ux
  generalize BT t.fl d k=s at*
  have w1:wr .i64 (s.lg+1)=s.lg+1:=js (by omega)
  have w2:wr .i64 (s.hd+1)=s.hd+1:=js (by omega)
  have w3:wr .i64 ((mA t.fl d k).ar-(mA t.fl d k).dp)=(mA t.fl d k).ar-(mA t.fl d k).dp:=js (by omega)
  have w4:wr .i64 (s.bk+((mA t.fl d k).ar-(mA t.fl d k).dp))=s.bk+((mA t.fl d k).ar-(mA t.fl d k).dp):=js (by omega)
  have Lj:=u9 c zT aT fT a7 a8 a9 iv iy iw vs
  have N:adK (mA t.fl d k).ty s.ks=if(mA t.fl d k).ty∈s.ks then s.ks else s.ks++ [(mA t.fl d k).ty]:=rfl
  by_cases Ml:k=0
  ·have F: ¬(0:Int)<(k:Int):=by omega
   rw[qG,if_pos Ml]
   generalize mA t.fl d k=f at*
   generalize d[k].2=b at*
   cases b <;> by_cases hm:f.ty∈s.ks <;> simp only[qA,seval,gd,repl,jI,iE,jl,Ak,yb,O,h0,h1,h5,Tz,jH,U,H,iX,hw,W,X,w1,w2,w3,w4,Lj,BP,pT,lE,F,ux,D,ng,K,hm,mG,r,N,cnT,dvC,List.length_append,List.map_append,Fu,ap9]
  ·have F:(0:Int)<(k:Int):=by omega
   have Ty:=uc (k:=k) (by omega) (by omega)
   obtain⟨r3,FR⟩:=wU hd (k-1) (by omega)
   obtain⟨j,hj,ej,eg,gok⟩:=sq V jP (k:=k-1) (by omega)
   obtain⟨r4,AN⟩:=vg t c zT aT fT a7 a8 a9 iv iy iw vs hT j hj
   rw[←eg]at AN
   rw[ej]at FR
   have gap:=XU J gok
   have w5:wr .i64 ((mA t.fl d k).dp-(mA t.fl d (k-1)).ar)=(mA t.fl d k).dp-(mA t.fl d (k-1)).ar:=js (by omega)
   rw[qG,if_neg Ml]
   generalize mA t.fl d k=f at*
   generalize mA t.fl d (k-1)=g at*
   generalize d[k].2=b at*
   cases b <;> by_cases hm:f.ty∈s.ks <;> simp only[qA,seval,gd,repl,jI,iE,jl,Ak,yb,O,h0,h1,h5,Tz,jH,U,H,iX,hw,W,X,w1,w2,w3,w4,Lj,BP,pT,lE,F,ux,D,ng,K,hm,mG,r,N,cnT,dvC,List.length_append,List.map_append,Fu,ap7,ap9,cnG,zE,zF,FR,AN,Ty,w5]
 ·rintro I l _ O ⟨H,r,rfl⟩
  simp only[qA,seval,gd,Ak,O,U,H,r,Int.lt_irrefl]
end
theorem Sv{k g o n s:Nat}:kept (.isl .S k g o n s)=true:=nr rfl
def kD(t:Tt)(c:Ct)(d:List (Int×Bool)):List Int:=
 [(BT t.fl d d.length).lg,(BT t.fl d d.length).hd,(BT t.fl d d.length).ks.length,(BT t.fl d d.length).bk,Af c (mA t.fl d (d.length-1))-Ae c (mA t.fl d 0),Ss t c (mA t.fl d 0) (mA t.fl d (d.length-1)),(BT t.fl d d.length).lo,(BT t.fl d d.length).so,Su t c (mA t.fl d 0) (mA t.fl d (d.length-1)),XO t c (mA t.fl d 0),XP t c (mA t.fl d (d.length-1))]
section
variable(t:Tt)(c:Ct)(zT aT fT a7 a8 a9 iv iy iw:T)(vs:List T)(hT:sZ t zT aT fT)(hV:H2 t c vs)(ht:uD t=0)(hc:mK c=0)
include hT hV ht hc
theorem XX(d:List (Int×Bool))(dT:T)(hd:H4 d dT)(h1:1≤d.length)(hlen:d.length≤100)(jP: ∀k∈d,rS t.fl.length k.1=true): ∃s,be pE 42 [stV c zT aT fT a7 a8 a9 iv iy iw vs,dT] []=some (.sl (ints (kD t c d)) 11 false,s):=by
 have W:=fun fr lh sh r D h1 F H I J K=>azY t c zT aT fT a7 a8 a9 iv iy iw vs hT ht d dT hd hlen jP fr lh sh r D h1 F H I J K
 have Z:=fun fr lh sh r D h1 F H I J K=>(W fr lh sh r D h1 F H I J K).2.1.lenI
 obtain⟨i,hi,ei,ef,_⟩:=sq (sj t ht).1 jP (k:=0) (by omega)
 obtain⟨j,hj,ej,eg,_⟩:=sq (sj t ht).1 jP (k:=d.length-1) (by omega)
 obtain⟨r1,X⟩:=wU hd 0 (by omega)
 obtain⟨r2,Y⟩:=wU hd (d.length-1) (by omega)
 have hw:=uc (k:=d.length) (by omega) (by omega)
 have N:=hd.choose_spec.1.lenI
 have O:kept (stV c zT aT fT a7 a8 a9 iv iy iw vs)=true:=nr rfl
 have Gp:=XS t c zT aT fT a7 a8 a9 iv iy iw vs hT hV ht hc i j hi hj
 rw[←ef,←eg]at Gp
 rw[ei]at X
 rw[ej]at Y
 have U: ∀kk,lY dT (.i kk 0) 2=_:=X
 have V:(11:Nat)*8≤roomy∧(11:Nat)≤roomy:=by unfold roomy;omega
 unfold kD
 generalize BT t.fl d d.length=s at*
 generalize mA t.fl d 0=f at*
 generalize mA t.fl d (d.length-1)=g at*
 rw[il apK (by simp[c42])]
 unfold dvC cn0 at*
 simp only[qA,seval,repl,jI,iE,jl,j3,c42,yb,PF,V,W,Z,U,Y,hw,N,O,Sv,Gp,ax2,ax3]
 exact⟨_,rfl⟩
end
theorem ajy{scope:Int}{s:List Nat}{i:Nat}(h:PH scope s=some i):(TA scope)[i]? =some s:=by
 unfold PH kW at h
 have:=zH h
 rw[List.take_length]at this
 exact List.mk_mem_zipIdx_iff_getElem?.1 this
def NF(A:List Int):Prop:=A.length=11∧ ∀i s,kb[i]? =some s→Fh (zt s) (A.getD i 0)
theorem ajz(l:Cs){A:List Int}(h:NF A):Sw (Z0 (Mm l) 1) (I5 (qd l) 1 A):=by
 intro s t hs
 unfold Z0 at hs
 by_cases r:l6 1 s≠0
 ·rw[if_pos r]at hs
  injection hs with hs _
  subst hs
  unfold I5
  cases D:PH 1 s with
  |none=>exact absurd ((vh 1 s).1 D) r
  |some i=>exact h.2 i s (ajy D)
 ·rw[if_neg r]at hs
  have D:=(vh 1 s).2 (by simpa using r)
  unfold I5
  rw[D]
  exact Ib l s t hs
theorem Et{k k' v:Int}(h:k=k')(i:Fh k' v):Fh k v:=h▸i
theorem ajA{v:Int}(h:bd v):Fh 1 v:= .inl ⟨.inl rfl,h⟩
theorem Sx{v:Int}(h:bd v):Fh 2 v:= .inl ⟨.inr rfl,h⟩
theorem atH{v:Int}(h:0≤v∧v≤1439):Fh 3 v:= .inr (.inl ⟨rfl,h⟩)
theorem bdE{v:Int}(h: -1000000000≤v∧v≤1000000000):bd v:=by unfold bd;omega
theorem XY(z:Zo)(x:Int):0≤z.clk x∧z.clk x≤1439:=by unfold Zo.clk;omega
theorem XZ{z:Zo}{A B f t:Int}(h1:0≤A)(i:B≤52596000):0≤z.bandM A B f t∧z.bandM A B f t≤52596000:=by
 have:=H5 (fun x=>nD (z.clk x) f t) A (B-A).toNat
 unfold Zo.bandM vd
 omega
theorem Lk{t:Tt}{c:Ct}(ht:uD t=0)(hc:mK c=0){d:List (Int×Bool)}(h1:1≤d.length)(hlen:d.length≤100)(jP: ∀k∈d,rS t.fl.length k.1=true):NF (kD t c d):=by
 have F:=(sj t ht).1
 obtain⟨c1,c2,c3,c4,c5,c6⟩:=ND F jP d.length (Nat.le_refl _)
 obtain⟨i,hi,O,H,r⟩:=sq F jP (k:=0) (by omega)
 obtain⟨j,I,U,J,D⟩:=sq F jP (k:=d.length-1) (by omega)
 obtain⟨b1,b2,_,_,_⟩:=XQ hc r D
 have K:oK (GP t (mA t.fl d 0).fr)=0:=by rw[H];exact H8 ht (tc ht (List.getElem_mem hi)).1
 have N:oK (GP t (mA t.fl d (d.length-1)).to)=0:=by rw[J];exact H8 ht (tc ht (List.getElem_mem I)).2
 have V:=Zo.off_bd K (Ae c (mA t.fl d 0))
 have W:=Zo.off_bd N (Af c (mA t.fl d (d.length-1)))
 have nb: -1000000000≤Ss t c (mA t.fl d 0) (mA t.fl d (d.length-1))∧Ss t c (mA t.fl d 0) (mA t.fl d (d.length-1))≤1000000000:=by
  unfold Ss
  split
  ·have:=XZ (z:=GP t (mA t.fl d 0).fr) (A:=Ae c (mA t.fl d 0)) (B:=Af c (mA t.fl d (d.length-1))) (f:=c.nf) (t:=c.nt) (by omega) (by omega)
   omega
  ·omega
 have X: -1000000000≤Su t c (mA t.fl d 0) (mA t.fl d (d.length-1))∧Su t c (mA t.fl d 0) (mA t.fl d (d.length-1))≤1000000000:=by
  unfold Su;omega
 have Y:0≤XO t c (mA t.fl d 0)∧XO t c (mA t.fl d 0)≤1439:=XY _ _
 have Z:0≤XP t c (mA t.fl d (d.length-1))∧XP t c (mA t.fl d (d.length-1))≤1439:=XY _ _
 refine⟨rfl,fun i s h=> ?_⟩
 unfold kD
 generalize BT t.fl d d.length=q at*
 clear V W K N O H U J hi I r D F
 match i,h with
 |0,h=>cases h;exact Et (by decide) (ajA (bdE (by show _≤q.lg∧q.lg≤_;omega)))
 |1,h=>cases h;exact Et (by decide) (ajA (bdE (by show _≤q.hd∧q.hd≤_;omega)))
 |2,h=>cases h;exact Et (by decide) (ajA (bdE (by show _≤(q.ks.length:Int)∧(q.ks.length:Int)≤_;omega)))
 |3,h=>cases h;exact Et (by decide) (Sx (bdE (by show _≤q.bk∧q.bk≤_;omega)))
 |4,h=>cases h;exact Et (by decide) (Sx (bdE (by show _≤Af c (mA t.fl d (d.length-1))-Ae c (mA t.fl d 0)∧Af c (mA t.fl d (d.length-1))-Ae c (mA t.fl d 0)≤_;omega)))
 |5,h=>cases h;exact Et (by decide) (Sx (bdE nb))
 |6,h=>cases h;exact Et (by decide) (Sx (bdE (by show _≤q.lo∧q.lo≤_;omega)))
 |7,h=>cases h;exact Et (by decide) (Sx (bdE (by show _≤q.so∧q.so≤_;omega)))
 |8,h=>cases h;exact Et (by decide) (Sx (bdE X))
 |9,h=>cases h;exact Et (by decide) (atH Y)
 |10,h=>cases h;exact Et (by decide) (atH Z)
 |n+11,h=>cases h
def atI(l:Cs)(A:List Int)(x:Ex):Int:=x.val0 (I5 (qd l) 1 A)
theorem ajB{l:Cs}{A:List Int}(i:NF A){x:Ex}(hx:Se l 1 x):Fi A (comp (qd l) 1 x)∧(comp (qd l) 1 x).val A=atI l A x∧ ∃k,Fh k (atI l A x):=by
 obtain⟨_,r,k,hk⟩:=hx
 have H:=(pg r).1
 have I:=x.nodes_eq
 obtain⟨h1,D,F⟩:=PI (ajz l i) (show A.length=(TA 1).length from i.1) x k (oz r) (by omega) hk
 exact⟨h1,D,k,F⟩
def wV(A:List Int)(l:RL):Bool:=l.all fun u=>decide (u.2.val A≠0)
def X0(n:Int):List Int→Int
 | []=>n
 |v::r=>X0 (wr .i64 (n+v)) r
def GQ(A:List Int)(l:RL):Int:=X0 0 (l.map fun u=>u.2.val A)
def BU(A:List Int)(l:RL):Int:=match l with| []=>A.getD 3 0|u::_=>u.2.val A
theorem Ic{l:RL}{v:T}(h:I2 4 l v):lenI v=some (.i .i64 (l.length:Int))∧ ∀k (hk:k<l.length),∃b D r,(∀kk,lY v (.i kk (k:Int)) 4=some (.vp (.s l[k].1:: .i .i64 l[k].2.op:: .i .i64 l[k].2.num::b::r)))∧IsSl b l[k].2.args.length D∧iS l[k].2.args D:=by
 obtain⟨n,cs,h1,N,F,O⟩:=h
 rw[if_pos rfl]at F
 have U:=iA.len ZW.len F
 have e:n=l.length:=by omega
 subst e
 refine⟨h1.lenI,fun k hk=> ?_⟩
 obtain⟨c,r,H,V,rfl,I⟩:=py (k:=4) ZW.len h1 F k hk
 obtain⟨b,D,rfl,J,K⟩:=I.cells
 exact⟨b,D,r,H,J,K⟩
theorem Ie{l:RL}{v:T}(h:I2 3 l v):lenI v=some (.i .i64 (l.length:Int))∧ ∀k (hk:k<l.length),∃b D r,(∀kk,lY v (.i kk (k:Int)) 3=some (.vp (.i .i64 l[k].2.op:: .i .i64 l[k].2.num::b::r)))∧IsSl b l[k].2.args.length D∧iS l[k].2.args D:=by
 obtain⟨n,cs,h1,N,F,O⟩:=h
 rw[if_neg (by decide)]at F
 have K:=iS.len F
 rw[List.length_map]at K
 have e:n=l.length:=by omega
 subst e
 refine⟨h1.lenI,fun k hk=> ?_⟩
 have Xg:k<(l.map Prod.snd).length:=by simpa using hk
 obtain⟨b,D,r,H,I,J⟩:=X1 (xs:=l.map Prod.snd) (by rw[List.length_map];exact h1) F k Xg
 rw[List.getElem_map]at H I J
 exact⟨b,D,r,H,I,J⟩
def GR(m r1 r2 r3 c1 c2 c3 cr nb:T):List T:= [m,.nilsl,r1,r2,r3,.nilsl,c1,c2,c3,cr,nb]
section
variable(c:Ct)(zT aT fT a7 a8 a9 iv iy iw m r1 r2 r3 c1 c2 c3 cr nb:T)(A:List Int)(qx:T)(kR:IsSl qx A.length (ints A))
theorem If(kR:IsSl qx A.length (ints A)):be pE 71 [.i .i64 1,qx] []=some (qx,[]):=by
 rw[il ap5 (by simp[c71])]
 simp only[qA,seval,c71,kR.froz]
include kR
theorem az0(l:RL)(hr:I2 4 l r1)(K: ∀u∈l,Fi A u.2)(hlen:l.length≤1000)(r:Bool)(OT:r=wV A l)(o:Out)(J:o=if r=true then .ext 0 else .ret)(fr:Fr)(lh:iq b8)(sh:List b8)(D:an fr 0=stV c zT aT fT a7 a8 a9 iv iy iw (GR m r1 r2 r3 c1 c2 c3 cr nb))(h1:an fr 1= .i .i64 1)(H:an fr 2=qx)(F:an fr 17= .i .i64 (l.length:Int))(I:an fr 18= .i .i64 0):
  wS 34 AA fr lh sh o∧
  ((r=false→an (tO pE 34 AA fr lh sh) 6= .b false)∧oH pE 34 AA fr lh sh=sh):=by
 refine nH (fun k st=> ∃(fr:Fr) (lh:iq b8),st=⟨fr,lh,sh⟩∧r=wV A (l.drop k)∧an fr 0=stV c zT aT fT a7 a8 a9 iv iy iw (GR m r1 r2 r3 c1 c2 c3 cr nb)∧an fr 1= .i .i64 1∧an fr 2=qx∧an fr 17= .i .i64 (l.length:Int)∧an fr 18= .i .i64 (k:Int))
  (fun N iR O=>(r=false→an N 6= .b false)∧O=sh) _ l.length ?_ ?_ fr lh sh ⟨fr,lh,rfl,OT,D,h1,H,F,I⟩
 ·rintro k _ hk ⟨fr,lh,rfl,OT,D,h1,H,F,I⟩
  have U:(k:Int)<l.length:=by omega
  have V:=iN (k:=k) (by omega)
  obtain⟨b,W,X,Y,Z,sx⟩:=(Ic hr).2 k hk
  have hv:=Eu A qx kR l[k].2 b W X Z sx (K _ (List.getElem_mem hk))
  rw[List.drop_eq_getElem_cons hk]at OT
  rw[show wV A (l[k]::l.drop (k+1))=(decide (l[k].2.val A≠0)&&wV A (l.drop (k+1)))from rfl]at OT
  generalize l[k]=u at*
  generalize u.2.val A=x at*
  have hz:=kR.froz
  unfold stV jB GR at D ⊢
  simp only[List.cons_append,List.nil_append]at D ⊢
  simp only[qB,seval,k9,AA,D,h1,H,F,I,U,Y,V,hv,hz,AD]
  refine Ed (fun h=> ?_) (fun h=> ?_)
  ·rw[decide_eq_false (by simpa using h),Bool.false_and]at OT
   exact AY ⟨by rw[J,OT];rfl,fun _=>(by simp only[qA,seval]),rfl⟩
  ·rw[decide_eq_true h,Bool.true_and]at OT
   exact mW ⟨_,_,rfl,OT,by simp only[qA,seval,D],by simp only[qA,seval,h1],by simp only[qA,seval,H],by simp only[qA,seval,F],by simp only[qA,seval]⟩
 ·rintro _ ⟨fr,lh,rfl,OT,D,h1,H,F,I⟩
  rw[List.drop_length]at OT
  simp only[qA,seval,AA,F,I,Int.lt_irrefl]
  exact oZ ⟨by rw[J,OT];rfl,fun h=>(by rw[OT]at h;cases h),rfl⟩
theorem X2(l:RL)(hr:I2 4 l r1)(D: ∀u∈l,Fi A u.2)(hlen:l.length≤1000):be pE 98 [stV c zT aT fT a7 a8 a9 iv iy iw (GR m r1 r2 r3 c1 c2 c3 cr nb),.i .i64 1,qx] []=some (.b (wV A l),[]):=by
 have r:=fun fr lh sh F h1 H I J=>az0 c zT aT fT a7 a8 a9 iv iy iw m r1 r2 r3 c1 c2 c3 cr nb A qx kR l hr D hlen _ rfl _ rfl fr lh sh F h1 H I J
 have Cd:=If A qx kR
 have K:=(Ic hr).1
 have N:=kR.froz
 unfold stV jB GR at*
 simp only[List.cons_append,List.nil_append]at*
 rw[il aqw (by simp[c98])]
 cases O:wV A l <;> rw[O]at r
 all_goals simp only[qA,seval,k9,c98,Cd,K,r,N,ahn]
theorem az1(l:RL)(hr:I2 3 l c1)(J: ∀u∈l,Fi A u.2)(hlen:l.length≤1000)(fr:Fr)(lh:iq b8)(sh:List b8)(r:an fr 0=stV c zT aT fT a7 a8 a9 iv iy iw (GR m r1 r2 r3 c1 c2 c3 cr nb))(h1:an fr 1= .i .i64 1)(F:an fr 2=qx)(H:an fr 7= .i .i64 0)(D:an fr 18= .i .i64 (l.length:Int))(CI:an fr 19= .i .i64 0):
  wS 36 Aj fr lh sh (.ext 0)∧
  (an (tO pE 36 Aj fr lh sh) 7= .i .i64 (GQ A l)∧oH pE 36 Aj fr lh sh=sh):=by
 refine nH (fun k st=> ∃(fr:Fr) (lh:iq b8) (n:Int),st=⟨fr,lh,sh⟩∧X0 n ((l.drop k).map fun u=>u.2.val A)=GQ A l∧an fr 0=stV c zT aT fT a7 a8 a9 iv iy iw (GR m r1 r2 r3 c1 c2 c3 cr nb)∧an fr 1= .i .i64 1∧an fr 2=qx∧an fr 7= .i .i64 n∧an fr 18= .i .i64 (l.length:Int)∧an fr 19= .i .i64 (k:Int))
  (fun K iR N=>an K 7= .i .i64 (GQ A l)∧N=sh) _ l.length ?_ ?_ fr lh sh ⟨fr,lh,0,rfl,rfl,r,h1,F,H,D,CI⟩
 ·rintro k _ hk ⟨fr,lh,n,rfl,I,r,h1,F,H,D,CI⟩
  have O:(k:Int)<l.length:=by omega
  have U:=iN (k:=k) (by omega)
  obtain⟨b,V,W,X,Y,Z⟩:=(Ie hr).2 k hk
  have hv:=Eu A qx kR l[k].2 b V W Y Z (J _ (List.getElem_mem hk))
  rw[List.drop_eq_getElem_cons hk,List.map_cons,X0]at I
  generalize l[k]=u at*
  generalize u.2.val A=x at*
  have hz:=kR.froz
  unfold stV jB GR at r ⊢
  simp only[List.cons_append,List.nil_append]at r ⊢
  simp only[qB,seval,k9,Aj,r,h1,F,H,D,CI,O,X,U,hv,hz,AD]
  exact mW ⟨_,_,_,rfl,I,by simp only[qA,seval,r],by simp only[qA,seval,h1],by simp only[qA,seval,F],by simp only[qA,seval],by simp only[qA,seval,D],by simp only[qA,seval]⟩
 ·rintro _ ⟨fr,lh,n,rfl,I,r,h1,F,H,D,CI⟩
  rw[List.drop_length,List.map_nil,X0]at I
  simp only[qA,seval,Aj,D,CI,Int.lt_irrefl]
  exact oZ ⟨rfl,by simp only[qA,seval,H,I],rfl⟩
theorem X3(l:RL)(hr:I2 3 l c1)(r: ∀u∈l,Fi A u.2)(hlen:l.length≤1000):be pE 41 [stV c zT aT fT a7 a8 a9 iv iy iw (GR m r1 r2 r3 c1 c2 c3 cr nb),.i .i64 1,qx] []=some (.i .i64 (GQ A l),[]):=by
 have D:=fun fr lh sh F h1 H I J CI=>az1 c zT aT fT a7 a8 a9 iv iy iw m r1 r2 r3 c1 c2 c3 cr nb A qx kR l hr r hlen fr lh sh F h1 H I J CI
 have Cd:=If A qx kR
 have K:=(Ie hr).1
 have N:=kR.froz
 unfold stV jB GR at*
 simp only[List.cons_append,List.nil_append]at*
 rw[il ahd (by simp[c41])]
 simp only[qA,seval,k9,c41,Cd,K,D,N,ahn]
theorem az2(l:RL)(hr:I2 3 l cr)(I: ∀u∈l,Fi A u.2)(fr:Fr)(lh:iq b8)(sh:List b8)(F:an fr 0=stV c zT aT fT a7 a8 a9 iv iy iw (GR m r1 r2 r3 c1 c2 c3 cr nb))(h1:an fr 1=qx)(r:an fr 10= .i .i64 (l.length:Int))(D:an fr 11= .i .i64 0):
  wS 26 wY fr lh sh (if l= []then Out.ext 0 else Out.ret)∧
  ((l≠ []→an (tO pE 26 wY fr lh sh) 4= .i .i64 (BU A l))∧oH pE 26 wY fr lh sh=sh):=by
 refine nH (fun k st=>st=⟨fr,lh,sh⟩) (fun J iR K=>(l≠ []→an J 4= .i .i64 (BU A l))∧K=sh) _ 0 (fun k st hk=>absurd hk (by omega)) ?_ fr lh sh rfl
 rintro _ rfl
 have N:=kR.froz
 cases l with
 |nil=>
  rw[List.length_nil]at r
  have r:an fr 10= .i .i64 0:=r
  simp only[qA,seval,wY,r,D,Int.lt_irrefl]
  grind [oZ]
 |cons u l=>
  obtain⟨b,O,H,U,V,W⟩:=(Ie hr).2 0 (by simp)
  have X:=Eu A qx kR u.2 b O H V W (I u (by simp))
  have Y: ∀kk,lY cr (.i kk 0) 3=some (.vp (.i .i64 u.2.op:: .i .i64 u.2.num::b::H)):=U
  have Z:(0:Int)<((l.length+1:Nat):Int):=by omega
  unfold stV jB GR at F
  simp only[List.cons_append,List.nil_append]at F
  simp only[qA,seval,forall_const,wY,F,h1,r,D,Y,Z,X,N,AD]
  exact AY ⟨rfl,(by unfold BU;simp only[qA,seval]),rfl⟩
theorem X4(l:RL)(hr:I2 3 l cr)(N: ∀u∈l,Fi A u.2)(V:A.length=11):be pE 44 [stV c zT aT fT a7 a8 a9 iv iy iw (GR m r1 r2 r3 c1 c2 c3 cr nb),qx] []=some (.i .i64 (BU A l),[]):=by
 have D:=fun fr lh sh O h1 F H=>az2 c zT aT fT a7 a8 a9 iv iy iw m r1 r2 r3 c1 c2 c3 cr nb A qx kR l hr N fr lh sh O h1 F H
 have K:=(Ie hr).1
 have U:=kR.froz1
 have I: ∃r,∀kk,lY qx (.i kk 3) 1=some (.vp (.i .i64 (A.getD 3 0)::r)):=by
  refine⟨(ints A).drop 4,fun kk=> ?_⟩
  have:=kR.ia (sz:=1) (k:=3) (kk:=kk) (by rw[kO];omega) (by omega)
  grind [oX,List.getElem?_eq_getElem]
 obtain⟨W,I⟩:=I
 unfold stV jB GR at*
 simp only[List.cons_append,List.nil_append]at*
 rw[il ahf (by simp[c44])]
 by_cases J:l= []
 ·simp only[J,if_true]at D
  subst J
  have e:BU A []=A.getD 3 0:=rfl
  rw[e]
  simp only[qA,seval,c44,TO,K,D,I]
 ·simp only[J,if_false,ne_eq,not_false_eq_true,forall_const]at D
  generalize BU A l=x at*
  simp only[qA,seval,c44,K,D]
end
end Go.Proofs.YtcpceiclnbmgiaaGreat
namespace Go.Ev
open Go
theorem X5{lh:iq b8}{sh:List b8}{k g len sz wm:Nat}{cs:List T}{a b e f:Int}{s u:List Nat}{x:Bool}(h:b7 lh k=⟨g,.cells cs wm false⟩)(r:cs.length=len*sz)(D:len≠0):RI lh sh 100 [.agg [.isl .L k g 0 len sz,.i .i64 a,.i .i64 b,.s s,.s u,.i .i64 e,.i .i64 f],.b x]=some (.tup [.agg [.sl cs len false,.i .i64 a,.i .i64 b,.s s,.s u,.i .i64 e,.i .i64 f],.b x],sh):=by
 have F:(St.mk .nil lh sh).get .L k=⟨g,.cells cs wm false⟩:=h
 have H:(fz false 8 (.tup [.agg [.nilsl,.i .i64 a,.i .i64 b,.s s,.s u,.i .i64 e,.i .i64 f],.b x])).run (St.mk .nil lh sh).get sh.length=some (.tup [.agg [.nilsl,.i .i64 a,.i .i64 b,.s s,.s u,.i .i64 e,.i .i64 f],.b x],[]):=rfl
 simp only[RI,rF,lA,iI,iG,List.getElem?_cons_zero,List.set_cons_zero,show¬(100:Nat)<100 from by decide,if_false,show(100:Nat)/100-1=0 from rfl,show(100:Nat)%100=0 from rfl]
 rw[H]
 simp only[St.ups]
 rw[F]
 simp only
 rw[if_pos ⟨trivial,r,D,.inr rfl⟩]
 rfl
theorem Sy{lh:iq b8}{sh:List b8}{a b e f:Int}{s u:List Nat}{x:Bool}:RI lh sh 100 [.agg [.nilsl,.i .i64 a,.i .i64 b,.s s,.s u,.i .i64 e,.i .i64 f],.b x]=some (.tup [.agg [.nilsl,.i .i64 a,.i .i64 b,.s s,.s u,.i .i64 e,.i .i64 f],.b x],sh):=rfl
end Go.Ev
namespace Go.Proofs.YtcpceiclnbmgiaaGreat
open Go Go.Ev
structure Lg where
 du:List (Int×Bool)
 rp:Int
 rl:Int
 fr:List Nat
 to:List Nat
 co:Int
 cr:Int
def td(g:Lg)(v:T):List T:= [v,.i .i64 g.rp,.i .i64 g.rl,.s g.fr,.s g.to,.i .i64 g.co,.i .i64 g.cr]
def lg0:Lg:=⟨[],0,0,[],[],0,0⟩
def oD(d:List (Int×Bool)):List T:=d.flatMap fun k=> [.i .i64 k.1,.b k.2]
theorem zI(d:List (Int×Bool)):(oD d).length=d.length*2:=pO (sz:=2) (fun _=>rfl) d
theorem Ig(a b:List (Int×Bool)):oD (a++b)=oD a++oD b:=by grind [oD]
theorem Ll: ∀d:List (Int×Bool),(oD d).all pH=true
 | []=>rfl
 |k::d=>by
  have:oD (k::d)= [T.i .i64 k.1,.b k.2]++oD d:=rfl
  rw[this,List.all_append,Ll d];rfl
theorem PJ: ∀{d:List (Int×Bool)} {i:List T},iA TkR d i→i=oD d
 | [],i,h=>h
 |k::d,i,h=>by
  obtain⟨c,r,rfl,h1,D⟩:=h
  rw[TkR]at h1
  rw[h1,PJ D];rfl
theorem Lm: ∀d:List (Int×Bool),iA TkR d (oD d)
 | []=>rfl
 |k::d=>⟨[.i .i64 k.1,.b k.2],oD d,rfl,rfl,Lm d⟩
theorem H4.sl{d:List (Int×Bool)}{v:T}(h:H4 d v):IsSl v d.length (oD d):=by
 obtain⟨r,h1,i⟩:=h
 rwa [PJ i]at h1
theorem H4.of{d:List (Int×Bool)}{v:T}(h:IsSl v d.length (oD d)):H4 d v:=⟨_,h,Lm d⟩
def CJ(c:Ct):RL:=Ad c 1 c.ru.length
def coS(c:Ct):RL:=Ca c 1 c.co.length
def crS(c:Ct):RL:=Tn c c.cr.length
def FT(t:Tt)(c:Ct)(d:List (Int×Bool)):Bool:=wV (kD t c d) (CJ c)
def ue(t:Tt)(c:Ct)(d:List (Int×Bool)):Lg:=⟨d,Ae c (mA t.fl d 0),Af c (mA t.fl d (d.length-1)),(mA t.fl d 0).fr,(mA t.fl d (d.length-1)).to,GQ (kD t c d) (coS c),BU (kD t c d) (crS c)⟩
theorem af6{t:Tt}{c:Ct}(hc:mK c=0){A:List Int}(r:NF A):(∀u∈CJ c,Fi A u.2)∧(∀u∈coS c,Fi A u.2)∧(∀u∈crS c,Fi A u.2)∧(CJ c).length≤40∧(coS c).length≤40:=by
 obtain⟨h1,D,F,H,I,J,_⟩:=Pq c hc
 unfold CJ coS crS Ad Ca Tn
 rw[List.take_length,List.take_length,List.take_length]
 refine⟨fun u i=> ?_,fun u i=> ?_,fun u i=> ?_, ?_, ?_⟩
 ·obtain⟨x,hx,rfl⟩:=List.mem_map.1 i
  grind [List.mem_filter.1,ajB]
 ·obtain⟨x,hx,rfl⟩:=List.mem_map.1 i
  grind [List.mem_filter.1,ajB]
 ·grind [List.mem_map.1,ajB]
 ·grind
 ·grind
section
variable(t:Tt)(c:Ct)(zT aT fT a7 a8 a9 iv iy iw:T)(vs:List T)(hT:sZ t zT aT fT)(hV:H2 t c vs)(ht:uD t=0)(hc:mK c=0)(d:List (Int×Bool))(dT:T)(hd:H4 d dT)(h1:1≤d.length)(hlen:d.length≤100)(jP: ∀k∈d,rS t.fl.length k.1=true)
include hT ht hd h1 hlen jP
theorem X6: ∃i j r1 r2:_,∃(hi:i<t.fl.length) (r:j<t.fl.length),mA t.fl d 0=t.fl[i]∧mA t.fl d (d.length-1)=t.fl[j]∧(∀kk,lY dT (.i kk 0) 2=some (.vp (.i .i64 (i:Int)::r1)))∧(∀kk,lY dT (.i kk ((d.length-1:Nat):Int)) 2=some (.vp (.i .i64 (j:Int)::r2))):=by
 have _:=hT
 obtain⟨i,hi,H,I,_⟩:=sq (sj t ht).1 jP (k:=0) (by omega)
 obtain⟨j,r,J,K,_⟩:=sq (sj t ht).1 jP (k:=d.length-1) (by omega)
 obtain⟨r1,D⟩:=wU hd 0 (by omega)
 obtain⟨r2,F⟩:=wU hd (d.length-1) (by omega)
 rw[H]at D
 rw[J]at F
 exact⟨i,j,_,_,hi,r,I,K,D,F⟩
theorem X7:be pE 99 [stV c zT aT fT a7 a8 a9 iv iy iw vs,dT] []=some (.s (mA t.fl d 0).fr,[]):=by
 obtain⟨i,j,r1,r2,hi,H,r,I,D,J⟩:=X6 t zT aT fT hT ht d dT hd h1 hlen jP
 obtain⟨r3,F⟩:=vg t c zT aT fT a7 a8 a9 iv iy iw vs hT i hi
 rw[r]
 generalize t.fl[i]=f at*
 have Lj:=u9 c zT aT fT a7 a8 a9 iv iy iw vs
 rw[il ahw (by simp[c99])]
 simp only[qA,seval,c99,D,F,Lj,Fu]
theorem ajD:be pE 100 [stV c zT aT fT a7 a8 a9 iv iy iw vs,dT] []=some (.s (mA t.fl d (d.length-1)).to,[]):=by
 obtain⟨i,j,r1,r2,hi,r,K,D,N,F⟩:=X6 t zT aT fT hT ht d dT hd h1 hlen jP
 obtain⟨r3,H⟩:=vg t c zT aT fT a7 a8 a9 iv iy iw vs hT j r
 rw[D]
 generalize t.fl[j]=f at*
 have I:=uc (k:=d.length) (by omega) (by omega)
 have J:=hd.sl.lenI
 have Lj:=u9 c zT aT fT a7 a8 a9 iv iy iw vs
 rw[il UK (by simp[T0])]
 simp only[qA,seval,T0,J,I,F,H,Lj,Fu]
include hc
theorem Sz:be pE 45 [stV c zT aT fT a7 a8 a9 iv iy iw vs,dT] []=some (.agg [.i .i64 (Ae c (mA t.fl d 0)),.i .i64 (Af c (mA t.fl d (d.length-1)))],[]):=by
 obtain⟨i,j,r1,r2,hi,D,F,H,I,J⟩:=X6 t zT aT fT hT ht d dT hd h1 hlen jP
 have r:=Lh t c zT aT fT a7 a8 a9 iv iy iw vs hT ht hc i j hi D
 rw[F,H]
 generalize Ae c t.fl[i]=S at*
 generalize Af c t.fl[j]=E at*
 have K:=uc (k:=d.length) (by omega) (by omega)
 have N:=hd.sl.lenI
 have Lj:=u9 c zT aT fT a7 a8 a9 iv iy iw vs
 rw[il apL (by simp[c45])]
 simp only[qA,seval,jI,iE,c45,N,K,I,J,r,Lj,ahr,ax4]
include hV
theorem acS:be pE 59 [stV c zT aT fT a7 a8 a9 iv iy iw vs,dT] []=some (if FT t c d=true then .tup [.agg (td (ue t c d) (.sl (oD d) d.length false)),.b true]else .tup [.agg (td lg0 .nilsl),.b false],[]):=by
 obtain⟨s1,PK⟩:=XX t c zT aT fT a7 a8 a9 iv iy iw vs hT hV ht hc d dT hd h1 hlen jP
 have H:=Lk (t:=t) (c:=c) ht hc h1 hlen jP
 have I:=Sz t c zT aT fT a7 a8 a9 iv iy iw vs hT ht hc d dT hd h1 hlen jP
 have Y:=X7 t c zT aT fT a7 a8 a9 iv iy iw vs hT ht d dT hd h1 hlen jP
 have Ih:=ajD t c zT aT fT a7 a8 a9 iv iy iw vs hT ht d dT hd h1 hlen jP
 obtain⟨Z,g2,g3,g4,g5⟩:=af6 (t:=t) hc H
 have kR:IsSl (.sl (ints (kD t c d)) 11 false) (kD t c d).length (ints (kD t c d)):= .inr ⟨false,by rw[H.1]⟩
 obtain⟨q,r1,r2,r3,c1,c2,c3,cr,nb,i,_,_,J,_,_,K,_,_,N⟩:=hV
 have i:vs=GR (.vm (q.map fun p=>sK p.1) (q.map fun p=>T.agg p.2)) r1 r2 r3 c1 c2 c3 cr (.b nb):=i
 have r:=X2 c zT aT fT a7 a8 a9 iv iy iw (.vm (q.map fun p=>sK p.1) (q.map fun p=>T.agg p.2)) r1 r2 r3 c1 c2 c3 cr (.b nb) _ _ kR (CJ c) J Z (by omega)
 have hk:=X3 c zT aT fT a7 a8 a9 iv iy iw (.vm (q.map fun p=>sK p.1) (q.map fun p=>T.agg p.2)) r1 r2 r3 c1 c2 c3 cr (.b nb) _ _ kR (coS c) K g2 (by omega)
 have hr:=X4 c zT aT fT a7 a8 a9 iv iy iw (.vm (q.map fun p=>sK p.1) (q.map fun p=>T.agg p.2)) r1 r2 r3 c1 c2 c3 cr (.b nb) _ _ kR (crS c) N g3 H.1
 rw[←i]at r hk hr
 rw[show wV (kD t c d) (CJ c)=FT t c d from rfl]at r
 have Lj:=u9 c zT aT fT a7 a8 a9 iv iy iw vs
 have O:=fun lh sh=>hd.sl.slC (lh:=lh) (sh:=sh) (zI d)
 have D:=hd.sl.froz
 have Ff:d.length*16≤roomy:=by unfold roomy;omega
 have U:=zI d
 have W:d.length≠0:=by omega
 have mB:isNe dT=true:=by
  rcases hd.sl with⟨_,h,_⟩|⟨ex,rfl⟩
  ·omega
  ·cases hq:d.length with
   |zero=>omega
   |succ m=>rfl
 obtain⟨n,X⟩: ∃n,d.length=n+1:=⟨d.length-1,by omega⟩
 have ng: ∀lh sh,appW lh sh 20 2 16 .nilsl dT=some (.isl .L 20 ((b7 lh 20).g+1) 0 d.length 2,nN lh 20 ⟨(b7 lh 20).g+1,.cells (oD d) 0 false⟩):=fun lh sh=>by
  unfold appW
  rw[O,Option.bind_some,X,D7,if_pos (by rw[←X];exact Ff)]
 unfold td ue lg0
 generalize Ae c (mA t.fl d 0)=x1 at*
 generalize Af c (mA t.fl d (d.length-1))=x2 at*
 generalize (mA t.fl d 0).fr=x3 at*
 generalize (mA t.fl d (d.length-1)).to=x4 at*
 generalize GQ (kD t c d) (coS c)=x5 at*
 generalize BU (kD t c d) (crS c)=x6 at*
 generalize stV c zT aT fT a7 a8 a9 iv iy iw vs=V at*
 have F:froz (T.sl (ints (kD t c d)) 11 false)=true:=rfl
 generalize T.sl (ints (kD t c d)) 11 false=avT at*
 rw[aiA ap0 (by simp[c59])]
 cases hb:FT t c d <;> rw[hb]at r
 ·simp only[Bool.false_eq_true,if_false]
  simp only[qA,seval,c59,PK,r,F,Lj,D,Sy,ahe,aqx]
 ·simp only[if_true]
  simp only[qA,seval,jI,sW,iE,lj,c59,PK,r,F,hk,hr,I,Y,Ih,Lj,D,mB,ng,ahe,aqx,axO,ayh,ayi,aqy,aqz,axK,axL,axM,axN]
  exact X5 (wm:=0) (by simp only[qA,seval]) U W
end
theorem PL{c:Ct}{fl:List Fl}{d:List (Int×Bool)}(h:uE c fl d=0):1≤d.length∧d.length≤6∧(∀k∈d,rS fl.length k.1=true)∧Mj c fl d=true:=by
 unfold uE at h
 split at h
 ·cases h
 split at h
 ·cases h
 split at h
 ·rename_i a
  split at h
  ·rename_i b;exact⟨by omega,by omega,List.all_eq_true.1 a,b⟩
  ·cases h
 ·cases h
theorem zJ(t:Tt)(c:Ct)(d:List (Int×Bool)):(ue t c d).du=d:=rfl
section
variable(t:Tt)(c:Ct)(zT aT fT a7 a8 a9 iv iy iw:T)(vs:List T)(hT:sZ t zT aT fT)(hC:tp c a7 a8 a9 iv iy iw)(hN:Nv c)(d:List (Int×Bool))(dT:T)(hd:H4 d dT)(hlen:d.length≤1000)
include hT hd hlen
include hC hN
end
section
variable(t:Tt)(c:Ct)(zT aT fT a7 a8 a9 iv iy iw:T)(hT:sZ t zT aT fT)(hC:tp c a7 a8 a9 iv iy iw)(ht:uD t=0)(hc:mK c=0)
end
section
variable(t:Tt)(c:Ct)(zT aT fT a7 a8 a9 iv iy iw:T)(hT:sZ t zT aT fT)(hC:tp c a7 a8 a9 iv iy iw)(ht:uD t=0)(hc:mK c=0)
include hT hC ht hc
end
def ajF(l:List (List Nat×Int)):List T:=l.flatMap fun p=> [.s p.1,.i .i64 p.2]
def ajG(A:List Int):List (List Nat×Int):=kb.zip A
theorem ints_at{A:List Int}{v:T}(h:IsSl v A.length (ints A))(k:Nat)(hk:k<A.length): ∃r,∀kk,lY v (.i kk (k:Int)) 1=some (.vp (.i .i64 A[k]::r)):=by
 refine⟨(ints A).drop (k+1),fun kk=> ?_⟩
 rw[h.ia (sz:=1) (by rw[kO];omega) hk,Nat.mul_one,oX A k hk]
section
variable(t:Tt)(c:Ct)(zT aT fT a7 a8 a9 iv iy iw:T)(hT:sZ t zT aT fT)(hC:tp c a7 a8 a9 iv iy iw)(ht:uD t=0)(hc:mK c=0)
end
end Go.Proofs.YtcpceiclnbmgiaaGreat
