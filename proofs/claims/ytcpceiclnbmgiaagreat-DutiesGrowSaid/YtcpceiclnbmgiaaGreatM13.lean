/- Walks of functions of the program and of the reference, and their plain laws, part 13. Conditions: the theorems' own. -/
import Derived.Test.YtcpceiclnbmgiaaGreatM12
import Derived.KernelRfl
set_option maxRecDepth 100000
set_option linter.unusedSimpArgs false
set_option linter.unusedVariables false
set_option maxHeartbeats 16000000
namespace Go.Proofs.YtcpceiclnbmgiaaGreat
open Go Go.Ev
def dvC(s:Cn):List T:= [.i .i64 s.lg,.i .i64 s.hd,.i .i64 0,.i .i64 s.bk,.i .i64 0,.i .i64 0,.i .i64 s.lo,.i .i64 s.so,.i .i64 0,.i .i64 0,.i .i64 0]
theorem asH{n:Nat}(h:n≤1000):(n+1)*16≤roomy:=by unfold roomy;omega
section
variable(t:Tt)(c:Ct)(zT aT fT a7 a8 a9 gX hU gZ:T)(vs:List T)(hT:wM t zT aT fT)(ht:tW t=0)
include hT ht
theorem ayB(d:List (Int×Bool))(dT:T)(hd:OD d dT)(hlen:d.length≤100)(jN: ∀k∈d,Lq t.fl.length k.1=true)(fr:Fr)(lh:gW b8)(sh:List b8)(lC:sh= [⟨1,.cells (dvC cn0) 0 false⟩])(h0:an fr 0=stV c zT aT fT a7 a8 a9 gX hU gZ vs)(h1:an fr 1=dT)(h5:an fr 5= .isl .S 0 1 0 11 1)(h6:an fr 6= .nilsl)(jw:an fr 14=dT)(U:an fr 15= .i .i64 (d.length:Int))(H:an fr 16= .i .i64 0):
  Lp pE 117 zt fr lh sh (.ext 0) fun f l s=>jG l (an f 6) 64 1 (Bi t.fl d d.length).ks.length ((Bi t.fl d d.length).ks.map T.s)∧s= [⟨1,.cells (dvC (Bi t.fl d d.length)) 0 false⟩]:=by
 refine kK xi (fun k f l s=>an f 16= .i .i64 (k:Int)∧jG l (an f 6) 64 1 (Bi t.fl d k).ks.length ((Bi t.fl d k).ks.map T.s)∧s= [⟨1,.cells (dvC (Bi t.fl d k)) 0 false⟩]) d.length ⟨H,by rw[h6];exact jG.nil,lC⟩ ?_ ?_
 ·rintro k I l _ hk O ⟨H,r,rfl⟩
  have iP:(k:Int)<d.length:=by omega
  have hw:=iJ (k:=k) (by omega)
  have V:=(rG t ht).1
  obtain⟨rr,W⟩:=DK hd k hk
  obtain⟨i,hi,ei,ef,J⟩:=rH V jN hk
  obtain⟨r2,X⟩:=uD t c zT aT fT a7 a8 a9 gX hU gZ vs hT i hi
  rw[←ef]at X
  obtain⟨c1,c2,c3,c4,c5,c6⟩:=MF V jN k (by omega)
  have qc:Bi t.fl d (k+1)=if k=0 then cnT (l8 t.fl d k) d[k].2 (Bi t.fl d k)else cnG (l8 t.fl d (k-1)) (l8 t.fl d k) (cnT (l8 t.fl d k) d[k].2 (Bi t.fl d k)):=by rw[Bi,W5 hk]
  have K:=Hu (l8 t.fl d k).ty (Bi t.fl d k).ks (mQ (Bi t.fl d k).ks.length ((Bi t.fl d k).ks.map T.s)) r.isl (by omega)
  have D:=fun(Y:gW b8) (Z:List b8) (keep:Bool) (e:b7 Y 64=b7 l 64)=>(r.congr e).fzV (sh:=Z) (keep:=keep)
  have qy:=fun(Y:gW b8) (Z:List b8) (e:b7 Y 64=b7 l 64)=>pt (sh:=Z) (r.congr e) [.s (l8 t.fl d k).ty] rfl (bytes:=16) (asH (by omega)) true
  have F7:=r.notS
  rw[ei]at W
  obtain⟨_,f1,f2,f3,f4⟩:=id J
  generalize SD:an I 6=v6 at r D qy F7
  generalize Bi t.fl d k=s at*
  have w1:wr .i64 (s.lg+1)=s.lg+1:=jj (by omega)
  have w2:wr .i64 (s.hd+1)=s.hd+1:=jj (by omega)
  have w3:wr .i64 ((l8 t.fl d k).ar-(l8 t.fl d k).dp)=(l8 t.fl d k).ar-(l8 t.fl d k).dp:=jj (by omega)
  have w4:wr .i64 (s.bk+((l8 t.fl d k).ar-(l8 t.fl d k).dp))=s.bk+((l8 t.fl d k).ar-(l8 t.fl d k).dp):=jj (by omega)
  have SC:=Aq c zT aT fT a7 a8 a9 gX hU gZ vs
  have N:adK (l8 t.fl d k).ty s.ks=if(l8 t.fl d k).ty∈s.ks then s.ks else s.ks++ [(l8 t.fl d k).ty]:=rfl
  by_cases OT:k=0
  ·have F: ¬(0:Int)<(k:Int):=by omega
   rw[qc,if_pos OT]
   generalize l8 t.fl d k=f at*
   generalize d[k].2=b at*
   cases b <;> by_cases hm:f.ty∈s.ks <;> simp only[qA,seval,gd,repl,jq,ig,iY,zt,xi,O,h0,h1,h5,SD,jw,U,H,iP,hw,W,X,w1,w2,w3,w4,SC,Bf,pq,kU,F,F7,D,qy,K,hm,mg,r,N,cnT,dvC,List.length_append,List.map_append,EF,apa]
  ·have F:(0:Int)<(k:Int):=by omega
   have SA:=tB (k:=k) (by omega) (by omega)
   obtain⟨r3,E2⟩:=DK hd (k-1) (by omega)
   obtain⟨j,hj,ej,eg,gok⟩:=rH V jN (k:=k-1) (by omega)
   obtain⟨r4,Ab⟩:=uD t c zT aT fT a7 a8 a9 gX hU gZ vs hT j hj
   rw[←eg]at Ab
   rw[ej]at E2
   have gap:=W4 J gok
   have w5:wr .i64 ((l8 t.fl d k).dp-(l8 t.fl d (k-1)).ar)=(l8 t.fl d k).dp-(l8 t.fl d (k-1)).ar:=jj (by omega)
   rw[qc,if_neg OT]
   generalize l8 t.fl d k=f at*
   generalize l8 t.fl d (k-1)=g at*
   generalize d[k].2=b at*
   cases b <;> by_cases hm:f.ty∈s.ks <;> simp only[qA,seval,gd,repl,jq,ig,iY,zt,xi,O,h0,h1,h5,SD,jw,U,H,iP,hw,W,X,w1,w2,w3,w4,SC,Bf,pq,kU,F,F7,D,qy,K,hm,mg,r,N,cnT,dvC,List.length_append,List.map_append,EF,ao8,apa,cnG,yC,yD,E2,Ab,SA,w5]
 ·rintro I l _ O ⟨H,r,rfl⟩
  simp only[qA,seval,gd,zt,O,U,H,r,Int.lt_irrefl]
end
theorem RC{k g o n s:Nat}:kept (.isl .S k g o n s)=true:=nr rfl
def qD(t:Tt)(c:Ct)(d:List (Int×Bool)):List Int:=
 [(Bi t.fl d d.length).lg,(Bi t.fl d d.length).hd,(Bi t.fl d d.length).ks.length,(Bi t.fl d d.length).bk,zk c (l8 t.fl d (d.length-1))-zj c (l8 t.fl d 0),RA t c (l8 t.fl d 0) (l8 t.fl d (d.length-1)),(Bi t.fl d d.length).lo,(Bi t.fl d d.length).so,RB t c (l8 t.fl d 0) (l8 t.fl d (d.length-1)),WZ t c (l8 t.fl d 0),W0 t c (l8 t.fl d (d.length-1))]
section
variable(t:Tt)(c:Ct)(zT aT fT a7 a8 a9 gX hU gZ:T)(vs:List T)(hT:wM t zT aT fT)(hV:Kk t c vs)(ht:tW t=0)(hc:mi c=0)
include hT hV ht hc
theorem aiC(d:List (Int×Bool))(dT:T)(hd:OD d dT)(h1:1≤d.length)(hlen:d.length≤100)(jN: ∀k∈d,Lq t.fl.length k.1=true): ∃s,be pE 42 [stV c zT aT fT a7 a8 a9 gX hU gZ vs,dT] []=some (.sl (ints (qD t c d)) 11 false,s):=by
 have W:=fun fr lh sh r D h1 F H I J K=>ayB t c zT aT fT a7 a8 a9 gX hU gZ vs hT ht d dT hd hlen jN fr lh sh r D h1 F H I J K
 have Z:=fun fr lh sh r D h1 F H I J K=>(W fr lh sh r D h1 F H I J K).2.1.lenI
 obtain⟨i,hi,ei,ef,_⟩:=rH (rG t ht).1 jN (k:=0) (by omega)
 obtain⟨j,hj,ej,eg,_⟩:=rH (rG t ht).1 jN (k:=d.length-1) (by omega)
 obtain⟨r1,X⟩:=DK hd 0 (by omega)
 obtain⟨r2,Y⟩:=DK hd (d.length-1) (by omega)
 have hw:=tB (k:=d.length) (by omega) (by omega)
 have N:=hd.choose_spec.1.lenI
 have O:kept (stV c zT aT fT a7 a8 a9 gX hU gZ vs)=true:=nr rfl
 have FD:=W2 t c zT aT fT a7 a8 a9 gX hU gZ vs hT hV ht hc i j hi hj
 rw[←ef,←eg]at FD
 rw[ei]at X
 rw[ej]at Y
 have U: ∀kk,lH dT (.i kk 0) 2=_:=X
 have V:(11:Nat)*8≤roomy∧(11:Nat)≤roomy:=by unfold roomy;omega
 unfold qD
 generalize Bi t.fl d d.length=s at*
 generalize l8 t.fl d 0=f at*
 generalize l8 t.fl d (d.length-1)=g at*
 rw[gQ aoN (by simp[c42])]
 unfold dvC cn0 at*
 simp only[qA,seval,repl,jq,ig,iY,jO,c42,xi,OR,V,W,Z,U,Y,hw,N,O,RC,FD,awI,awJ]
 exact⟨_,rfl⟩
end
theorem aiD{scope:Int}{s:List Nat}{i:Nat}(h:OU scope s=some i):(SE scope)[i]? =some s:=by
 unfold OU kE at h
 have:=yG h
 rw[List.take_length]at this
 exact List.mk_mem_zipIdx_iff_getElem?.1 this
def MG(A:List Int):Prop:=A.length=11∧ ∀i s,jS[i]? =some s→EA (yu s) (A.getD i 0)
theorem aiE(l:Cs){A:List Int}(h:MG A):RD (Zg (Ls l) 1) (Ii (pJ l) 1 A):=by
 intro s t hs
 unfold Zg at hs
 by_cases r:lI 1 s≠0
 ·rw[if_pos r]at hs
  injection hs with hs _
  subst hs
  unfold Ii
  cases D:OU 1 s with
  |none=>exact absurd ((uE 1 s).1 D) r
  |some i=>exact h.2 i s (aiD D)
 ·rw[if_neg r]at hs
  have D:=(uE 1 s).2 (by simpa using r)
  unfold Ii
  rw[D]
  exact Hv l s t hs
theorem DP{k k' v:Int}(h:k=k')(i:EA k' v):EA k v:=h▸i
theorem aiF{v:Int}(h:bd v):EA 1 v:= .inl ⟨.inl rfl,h⟩
theorem RE{v:Int}(h:bd v):EA 2 v:= .inl ⟨.inr rfl,h⟩
theorem asL{v:Int}(h:0≤v∧v≤1439):EA 3 v:= .inr (.inl ⟨rfl,h⟩)
theorem bdE{v:Int}(h: -1000000000≤v∧v≤1000000000):bd v:=by unfold bd;omega
theorem W7(z:Zo)(x:Int):0≤z.clk x∧z.clk x≤1439:=by unfold Zo.clk;omega
theorem W8{z:Zo}{A B f t:Int}(h1:0≤A)(i:B≤52596000):0≤z.bandM A B f t∧z.bandM A B f t≤52596000:=by
 have:=Hp (fun x=>m5 (z.clk x) f t) A (B-A).toNat
 unfold Zo.bandM uA
 omega
theorem W9{t:Tt}{c:Ct}(ht:tW t=0)(hc:mi c=0){d:List (Int×Bool)}(h1:1≤d.length)(hlen:d.length≤100)(jN: ∀k∈d,Lq t.fl.length k.1=true):MG (qD t c d):=by
 have F:=(rG t ht).1
 obtain⟨c1,c2,c3,c4,c5,c6⟩:=MF F jN d.length (Nat.le_refl _)
 obtain⟨i,hi,O,H,r⟩:=rH F jN (k:=0) (by omega)
 obtain⟨j,I,U,J,D⟩:=rH F jN (k:=d.length-1) (by omega)
 obtain⟨b1,b2,_,_,_⟩:=W1 hc r D
 have K:oj (F6 t (l8 t.fl d 0).fr)=0:=by rw[H];exact Hs ht (sC ht (List.getElem_mem hi)).1
 have N:oj (F6 t (l8 t.fl d (d.length-1)).to)=0:=by rw[J];exact Hs ht (sC ht (List.getElem_mem I)).2
 have V:=Zo.off_bd K (zj c (l8 t.fl d 0))
 have W:=Zo.off_bd N (zk c (l8 t.fl d (d.length-1)))
 have nb: -1000000000≤RA t c (l8 t.fl d 0) (l8 t.fl d (d.length-1))∧RA t c (l8 t.fl d 0) (l8 t.fl d (d.length-1))≤1000000000:=by
  unfold RA
  split
  ·have:=W8 (z:=F6 t (l8 t.fl d 0).fr) (A:=zj c (l8 t.fl d 0)) (B:=zk c (l8 t.fl d (d.length-1))) (f:=c.nf) (t:=c.nt) (by omega) (by omega)
   omega
  ·omega
 have X: -1000000000≤RB t c (l8 t.fl d 0) (l8 t.fl d (d.length-1))∧RB t c (l8 t.fl d 0) (l8 t.fl d (d.length-1))≤1000000000:=by
  unfold RB;omega
 have Y:0≤WZ t c (l8 t.fl d 0)∧WZ t c (l8 t.fl d 0)≤1439:=W7 _ _
 have Z:0≤W0 t c (l8 t.fl d (d.length-1))∧W0 t c (l8 t.fl d (d.length-1))≤1439:=W7 _ _
 refine⟨rfl,fun i s h=> ?_⟩
 unfold qD
 generalize Bi t.fl d d.length=q at*
 clear V W K N O H U J hi I r D F
 match i,h with
 |0,h=>cases h;exact DP (by decide) (aiF (bdE (by show _≤q.lg∧q.lg≤_;omega)))
 |1,h=>cases h;exact DP (by decide) (aiF (bdE (by show _≤q.hd∧q.hd≤_;omega)))
 |2,h=>cases h;exact DP (by decide) (aiF (bdE (by show _≤(q.ks.length:Int)∧(q.ks.length:Int)≤_;omega)))
 |3,h=>cases h;exact DP (by decide) (RE (bdE (by show _≤q.bk∧q.bk≤_;omega)))
 |4,h=>cases h;exact DP (by decide) (RE (bdE (by show _≤zk c (l8 t.fl d (d.length-1))-zj c (l8 t.fl d 0)∧zk c (l8 t.fl d (d.length-1))-zj c (l8 t.fl d 0)≤_;omega)))
 |5,h=>cases h;exact DP (by decide) (RE (bdE nb))
 |6,h=>cases h;exact DP (by decide) (RE (bdE (by show _≤q.lo∧q.lo≤_;omega)))
 |7,h=>cases h;exact DP (by decide) (RE (bdE (by show _≤q.so∧q.so≤_;omega)))
 |8,h=>cases h;exact DP (by decide) (RE (bdE X))
 |9,h=>cases h;exact DP (by decide) (asL Y)
 |10,h=>cases h;exact DP (by decide) (asL Z)
 |n+11,h=>cases h
def asM(l:Cs)(A:List Int)(x:Ex):Int:=x.val0 (Ii (pJ l) 1 A)
theorem aiG{l:Cs}{A:List Int}(i:MG A){x:Ex}(hx:Rj l 1 x):F8 A (comp (pJ l) 1 x)∧(comp (pJ l) 1 x).val A=asM l A x∧ ∃k,EA k (asM l A x):=by
 obtain⟨_,r,k,hk⟩:=hx
 have H:=(oL r).1
 have I:=x.nodes_eq
 obtain⟨h1,D,F⟩:=OV (aiE l i) (show A.length=(SE 1).length from i.1) x k (nZ r) (by omega) hk
 exact⟨h1,D,k,F⟩
def yH(A:List Int)(l:RL):Bool:=l.all fun u=>decide (u.2.val A≠0)
def Xa(n:Int):List Int→Int
 | []=>n
 |v::r=>Xa (wr .i64 (n+v)) r
def F9(A:List Int)(l:RL):Int:=Xa 0 (l.map fun u=>u.2.val A)
def Bj(A:List Int)(l:RL):Int:=match l with| []=>A.getD 3 0|u::_=>u.2.val A
theorem Xb{l:RL}{v:T}(h:Ln 4 l v):lenI v=some (.i .i64 (l.length:Int))∧ ∀k (hk:k<l.length),∃b D r,(∀kk,lH v (.i kk (k:Int)) 4=some (.vp (.s l[k].1:: .i .i64 l[k].2.op:: .i .i64 l[k].2.num::b::r)))∧IsSl b l[k].2.args.length D∧iF l[k].2.args D:=by
 obtain⟨n,cs,h1,N,F,O⟩:=h
 rw[if_pos rfl]at F
 have U:=hZ.len Zb.len F
 have e:n=l.length:=by omega
 subst e
 refine⟨h1.lenI,fun k hk=> ?_⟩
 obtain⟨c,r,H,V,rfl,I⟩:=oY (k:=4) Zb.len h1 F k hk
 obtain⟨b,D,rfl,J,K⟩:=I.cells
 exact⟨b,D,r,H,J,K⟩
theorem Hw{l:RL}{v:T}(h:Ln 3 l v):lenI v=some (.i .i64 (l.length:Int))∧ ∀k (hk:k<l.length),∃b D r,(∀kk,lH v (.i kk (k:Int)) 3=some (.vp (.i .i64 l[k].2.op:: .i .i64 l[k].2.num::b::r)))∧IsSl b l[k].2.args.length D∧iF l[k].2.args D:=by
 obtain⟨n,cs,h1,N,F,O⟩:=h
 rw[if_neg (by decide)]at F
 have K:=iF.len F
 rw[List.length_map]at K
 have e:n=l.length:=by omega
 subst e
 refine⟨h1.lenI,fun k hk=> ?_⟩
 have Ws:k<(l.map Prod.snd).length:=by simpa using hk
 obtain⟨b,D,r,H,I,J⟩:=Xc (xs:=l.map Prod.snd) (by rw[List.length_map];exact h1) F k Ws
 rw[List.getElem_map]at H I J
 exact⟨b,D,r,H,I,J⟩
def MH(m r1 r2 r3 c1 c2 c3 cr nb:T):List T:= [m,.nilsl,r1,r2,r3,.nilsl,c1,c2,c3,cr,nb]
section
variable(c:Ct)(zT aT fT a7 a8 a9 gX hU gZ m r1 r2 r3 c1 c2 c3 cr nb:T)(A:List Int)(rO:T)(k9:IsSl rO A.length (ints A))
theorem OW(k9:IsSl rO A.length (ints A)):be pE 71 [.i .i64 1,rO] []=some (rO,[]):=by
 rw[gQ ao5 (by simp[c71])]
 simp only[qA,seval,c71,k9.froz]
include k9
theorem ayD(l:RL)(hr:Ln 4 l r1)(K: ∀u∈l,F8 A u.2)(hlen:l.length≤1000)(r:Bool)(NS:r=yH A l)(o:Out)(J:o=if r=true then .ext 0 else .ret)(fr:Fr)(lh:gW b8)(sh:List b8)(D:an fr 0=stV c zT aT fT a7 a8 a9 gX hU gZ (MH m r1 r2 r3 c1 c2 c3 cr nb))(h1:an fr 1= .i .i64 1)(H:an fr 2=rO)(F:an fr 17= .i .i64 (l.length:Int))(I:an fr 18= .i .i64 0):
  wJ 34 zN fr lh sh o∧
  ((r=false→an (tT pE 34 zN fr lh sh) 6= .b false)∧oi pE 34 zN fr lh sh=sh):=by
 refine nU (fun k st=> ∃(fr:Fr) (lh:gW b8),st=⟨fr,lh,sh⟩∧r=yH A (l.drop k)∧an fr 0=stV c zT aT fT a7 a8 a9 gX hU gZ (MH m r1 r2 r3 c1 c2 c3 cr nb)∧an fr 1= .i .i64 1∧an fr 2=rO∧an fr 17= .i .i64 (l.length:Int)∧an fr 18= .i .i64 (k:Int))
  (fun N iI O=>(r=false→an N 6= .b false)∧O=sh) _ l.length ?_ ?_ fr lh sh ⟨fr,lh,rfl,NS,D,h1,H,F,I⟩
 ·rintro k _ hk ⟨fr,lh,rfl,NS,D,h1,H,F,I⟩
  have U:(k:Int)<l.length:=by omega
  have V:=iJ (k:=k) (by omega)
  obtain⟨b,W,X,Y,Z,sL⟩:=(Xb hr).2 k hk
  have hv:=Hx A rO k9 l[k].2 b W X Z sL (K _ (List.getElem_mem hk))
  rw[List.drop_eq_getElem_cons hk]at NS
  rw[show yH A (l[k]::l.drop (k+1))=(decide (l[k].2.val A≠0)&&yH A (l.drop (k+1)))from rfl]at NS
  generalize l[k]=u at*
  generalize u.2.val A=x at*
  have hz:=k9.froz
  unfold stV jE MH at D ⊢
  simp only[List.cons_append,List.nil_append]at D ⊢
  simp only[qB,seval,kS,zN,D,h1,H,F,I,U,Y,V,hv,hz,CM]
  refine Dz (fun h=> ?_) (fun h=> ?_)
  ·rw[decide_eq_false (by simpa using h),Bool.false_and]at NS
   exact Hh ⟨by rw[J,NS];rfl,fun _=>(by simp only[qA,seval]),rfl⟩
  ·rw[decide_eq_true h,Bool.true_and]at NS
   exact mR ⟨_,_,rfl,NS,by simp only[qA,seval,D],by simp only[qA,seval,h1],by simp only[qA,seval,H],by simp only[qA,seval,F],by simp only[qA,seval]⟩
 ·rintro _ ⟨fr,lh,rfl,NS,D,h1,H,F,I⟩
  rw[List.drop_length]at NS
  simp only[qA,seval,zN,F,I,Int.lt_irrefl]
  exact pI ⟨by rw[J,NS];rfl,fun h=>(by rw[NS]at h;cases h),rfl⟩
theorem Xd(l:RL)(hr:Ln 4 l r1)(D: ∀u∈l,F8 A u.2)(hlen:l.length≤1000):be pE 98 [stV c zT aT fT a7 a8 a9 gX hU gZ (MH m r1 r2 r3 c1 c2 c3 cr nb),.i .i64 1,rO] []=some (.b (yH A l),[]):=by
 have r:=fun fr lh sh F h1 H I J=>ayD c zT aT fT a7 a8 a9 gX hU gZ m r1 r2 r3 c1 c2 c3 cr nb A rO k9 l hr D hlen _ rfl _ rfl fr lh sh F h1 H I J
 have E3:=OW A rO k9
 have K:=(Xb hr).1
 have N:=k9.froz
 unfold stV jE MH at*
 simp only[List.cons_append,List.nil_append]at*
 rw[gQ apz (by simp[c98])]
 cases O:yH A l <;> rw[O]at r
 all_goals simp only[qA,seval,kS,c98,E3,K,r,N,ao6]
theorem ayE(l:RL)(hr:Ln 3 l c1)(J: ∀u∈l,F8 A u.2)(hlen:l.length≤1000)(fr:Fr)(lh:gW b8)(sh:List b8)(r:an fr 0=stV c zT aT fT a7 a8 a9 gX hU gZ (MH m r1 r2 r3 c1 c2 c3 cr nb))(h1:an fr 1= .i .i64 1)(F:an fr 2=rO)(H:an fr 7= .i .i64 0)(D:an fr 18= .i .i64 (l.length:Int))(Ij:an fr 19= .i .i64 0):
  wJ 36 zr fr lh sh (.ext 0)∧
  (an (tT pE 36 zr fr lh sh) 7= .i .i64 (F9 A l)∧oi pE 36 zr fr lh sh=sh):=by
 refine nU (fun k st=> ∃(fr:Fr) (lh:gW b8) (n:Int),st=⟨fr,lh,sh⟩∧Xa n ((l.drop k).map fun u=>u.2.val A)=F9 A l∧an fr 0=stV c zT aT fT a7 a8 a9 gX hU gZ (MH m r1 r2 r3 c1 c2 c3 cr nb)∧an fr 1= .i .i64 1∧an fr 2=rO∧an fr 7= .i .i64 n∧an fr 18= .i .i64 (l.length:Int)∧an fr 19= .i .i64 (k:Int))
  (fun K iI N=>an K 7= .i .i64 (F9 A l)∧N=sh) _ l.length ?_ ?_ fr lh sh ⟨fr,lh,0,rfl,rfl,r,h1,F,H,D,Ij⟩
 ·rintro k _ hk ⟨fr,lh,n,rfl,I,r,h1,F,H,D,Ij⟩
  have O:(k:Int)<l.length:=by omega
  have U:=iJ (k:=k) (by omega)
  obtain⟨b,V,W,X,Y,Z⟩:=(Hw hr).2 k hk
  have hv:=Hx A rO k9 l[k].2 b V W Y Z (J _ (List.getElem_mem hk))
  rw[List.drop_eq_getElem_cons hk,List.map_cons,Xa]at I
  generalize l[k]=u at*
  generalize u.2.val A=x at*
  have hz:=k9.froz
  unfold stV jE MH at r ⊢
  simp only[List.cons_append,List.nil_append]at r ⊢
  simp only[qB,seval,kS,zr,r,h1,F,H,D,Ij,O,X,U,hv,hz,CM]
  exact mR ⟨_,_,_,rfl,I,by simp only[qA,seval,r],by simp only[qA,seval,h1],by simp only[qA,seval,F],by simp only[qA,seval],by simp only[qA,seval,D],by simp only[qA,seval]⟩
 ·rintro _ ⟨fr,lh,n,rfl,I,r,h1,F,H,D,Ij⟩
  rw[List.drop_length,List.map_nil,Xa]at I
  simp only[qA,seval,zr,D,Ij,Int.lt_irrefl]
  exact pI ⟨rfl,by simp only[qA,seval,H,I],rfl⟩
theorem Xe(l:RL)(hr:Ln 3 l c1)(r: ∀u∈l,F8 A u.2)(hlen:l.length≤1000):be pE 41 [stV c zT aT fT a7 a8 a9 gX hU gZ (MH m r1 r2 r3 c1 c2 c3 cr nb),.i .i64 1,rO] []=some (.i .i64 (F9 A l),[]):=by
 have D:=fun fr lh sh F h1 H I J Ij=>ayE c zT aT fT a7 a8 a9 gX hU gZ m r1 r2 r3 c1 c2 c3 cr nb A rO k9 l hr r hlen fr lh sh F h1 H I J Ij
 have E3:=OW A rO k9
 have K:=(Hw hr).1
 have N:=k9.froz
 unfold stV jE MH at*
 simp only[List.cons_append,List.nil_append]at*
 rw[gQ age (by simp[c41])]
 simp only[qA,seval,kS,c41,E3,K,D,N,ao6]
theorem ayF(l:RL)(hr:Ln 3 l cr)(I: ∀u∈l,F8 A u.2)(fr:Fr)(lh:gW b8)(sh:List b8)(F:an fr 0=stV c zT aT fT a7 a8 a9 gX hU gZ (MH m r1 r2 r3 c1 c2 c3 cr nb))(h1:an fr 1=rO)(r:an fr 10= .i .i64 (l.length:Int))(D:an fr 11= .i .i64 0):
  wJ 26 wb fr lh sh (if l= []then Out.ext 0 else Out.ret)∧
  ((l≠ []→an (tT pE 26 wb fr lh sh) 4= .i .i64 (Bj A l))∧oi pE 26 wb fr lh sh=sh):=by
 refine nU (fun k st=>st=⟨fr,lh,sh⟩) (fun J iI K=>(l≠ []→an J 4= .i .i64 (Bj A l))∧K=sh) _ 0 (fun k st hk=>absurd hk (by omega)) ?_ fr lh sh rfl
 rintro _ rfl
 have N:=k9.froz
 cases l with
 |nil=>
  rw[List.length_nil]at r
  have r:an fr 10= .i .i64 0:=r
  simp only[qA,seval,wb,r,D,Int.lt_irrefl]
  grind [pI]
 |cons u l=>
  obtain⟨b,O,H,U,V,W⟩:=(Hw hr).2 0 (by simp)
  have X:=Hx A rO k9 u.2 b O H V W (I u (by simp))
  have Y: ∀kk,lH cr (.i kk 0) 3=some (.vp (.i .i64 u.2.op:: .i .i64 u.2.num::b::H)):=U
  have Z:(0:Int)<((l.length+1:Nat):Int):=by omega
  unfold stV jE MH at F
  simp only[List.cons_append,List.nil_append]at F
  simp only[qA,seval,forall_const,wb,F,h1,r,D,Y,Z,X,N,CM]
  exact Hh ⟨rfl,(by unfold Bj;simp only[qA,seval]),rfl⟩
theorem Xf(l:RL)(hr:Ln 3 l cr)(N: ∀u∈l,F8 A u.2)(V:A.length=11):be pE 44 [stV c zT aT fT a7 a8 a9 gX hU gZ (MH m r1 r2 r3 c1 c2 c3 cr nb),rO] []=some (.i .i64 (Bj A l),[]):=by
 have D:=fun fr lh sh O h1 F H=>ayF c zT aT fT a7 a8 a9 gX hU gZ m r1 r2 r3 c1 c2 c3 cr nb A rO k9 l hr N fr lh sh O h1 F H
 have K:=(Hw hr).1
 have U:=k9.froz1
 have I: ∃r,∀kk,lH rO (.i kk 3) 1=some (.vp (.i .i64 (A.getD 3 0)::r)):=by
  refine⟨(ints A).drop 4,fun kk=> ?_⟩
  have:=k9.ia (sz:=1) (k:=3) (kk:=kk) (by rw[kH];omega) (by omega)
  grind [qe,List.getElem?_eq_getElem]
 obtain⟨W,I⟩:=I
 unfold stV jE MH at*
 simp only[List.cons_append,List.nil_append]at*
 rw[gQ agf (by simp[c44])]
 by_cases J:l= []
 ·simp only[J,if_true]at D
  subst J
  have e:Bj A []=A.getD 3 0:=rfl
  rw[e]
  simp only[qA,seval,c44,SP,K,D,I]
 ·simp only[J,if_false,ne_eq,not_false_eq_true,forall_const]at D
  generalize Bj A l=x at*
  simp only[qA,seval,c44,K,D]
end
end Go.Proofs.YtcpceiclnbmgiaaGreat
namespace Go.Ev
open Go
theorem Xg{lh:gW b8}{sh:List b8}{k g len sz wm:Nat}{cs:List T}{a b e f:Int}{s u:List Nat}{x:Bool}(h:b7 lh k=⟨g,.cells cs wm false⟩)(r:cs.length=len*sz)(D:len≠0):QT lh sh 100 [.agg [.isl .L k g 0 len sz,.i .i64 a,.i .i64 b,.s s,.s u,.i .i64 e,.i .i64 f],.b x]=some (.tup [.agg [.sl cs len false,.i .i64 a,.i .i64 b,.s s,.s u,.i .i64 e,.i .i64 f],.b x],sh):=by
 have F:(St.mk .nil lh sh).get .L k=⟨g,.cells cs wm false⟩:=h
 have H:(fz false 8 (.tup [.agg [.nilsl,.i .i64 a,.i .i64 b,.s s,.s u,.i .i64 e,.i .i64 f],.b x])).run (St.mk .nil lh sh).get sh.length=some (.tup [.agg [.nilsl,.i .i64 a,.i .i64 b,.s s,.s u,.i .i64 e,.i .i64 f],.b x],[]):=rfl
 simp only[QT,qT,kO,iv,iq,List.getElem?_cons_zero,List.set_cons_zero,show¬(100:Nat)<100 from by decide,if_false,show(100:Nat)/100-1=0 from rfl,show(100:Nat)%100=0 from rfl]
 rw[H]
 simp only[St.ups]
 rw[F]
 simp only
 rw[if_pos ⟨trivial,r,D,.inr rfl⟩]
 rfl
theorem RF{lh:gW b8}{sh:List b8}{a b e f:Int}{s u:List Nat}{x:Bool}:QT lh sh 100 [.agg [.nilsl,.i .i64 a,.i .i64 b,.s s,.s u,.i .i64 e,.i .i64 f],.b x]=some (.tup [.agg [.nilsl,.i .i64 a,.i .i64 b,.s s,.s u,.i .i64 e,.i .i64 f],.b x],sh):=rfl
end Go.Ev
namespace Go.Proofs.YtcpceiclnbmgiaaGreat
open Go Go.Ev
structure Lg where
 du:List (Int×Bool)
 rp:Int
 rl:Int
 fr:List Nat
 to:List Nat
 co:Int
 cr:Int
def og(g:Lg)(v:T):List T:= [v,.i .i64 g.rp,.i .i64 g.rl,.s g.fr,.s g.to,.i .i64 g.co,.i .i64 g.cr]
def lg0:Lg:=⟨[],0,0,[],[],0,0⟩
def px(d:List (Int×Bool)):List T:=d.flatMap fun k=> [.i .i64 k.1,.b k.2]
theorem yI(d:List (Int×Bool)):(px d).length=d.length*2:=nR (sz:=2) (fun _=>rfl) d
theorem OX(a b:List (Int×Bool)):px (a++b)=px a++px b:=by grind [px]
theorem Ky: ∀d:List (Int×Bool),(px d).all qR=true
 | []=>rfl
 |k::d=>by
  have:px (k::d)= [T.i .i64 k.1,.b k.2]++px d:=rfl
  rw[this,List.all_append,Ky d];rfl
theorem OY: ∀{d:List (Int×Bool)} {i:List T},hZ TkR d i→i=px d
 | [],i,h=>h
 |k::d,i,h=>by
  obtain⟨c,r,rfl,h1,D⟩:=h
  rw[TkR]at h1
  rw[h1,OY D];rfl
theorem Kz: ∀d:List (Int×Bool),hZ TkR d (px d)
 | []=>rfl
 |k::d=>⟨[.i .i64 k.1,.b k.2],px d,rfl,rfl,Kz d⟩
theorem OD.sl{d:List (Int×Bool)}{v:T}(h:OD d v):IsSl v d.length (px d):=by
 obtain⟨r,h1,i⟩:=h
 rwa [OY i]at h1
theorem OD.of{d:List (Int×Bool)}{v:T}(h:IsSl v d.length (px d)):OD d v:=⟨_,h,Kz d⟩
def ruS(c:Ct):RL:=yy c 1 c.ru.length
def coS(c:Ct):RL:=Bz c 1 c.co.length
def crS(c:Ct):RL:=Sr c c.cr.length
def OZ(t:Tt)(c:Ct)(d:List (Int×Bool)):Bool:=yH (qD t c d) (ruS c)
def BB(t:Tt)(c:Ct)(d:List (Int×Bool)):Lg:=⟨d,zj c (l8 t.fl d 0),zk c (l8 t.fl d (d.length-1)),(l8 t.fl d 0).fr,(l8 t.fl d (d.length-1)).to,F9 (qD t c d) (coS c),Bj (qD t c d) (crS c)⟩
theorem asO{t:Tt}{c:Ct}(hc:mi c=0){A:List Int}(r:MG A):(∀u∈ruS c,F8 A u.2)∧(∀u∈coS c,F8 A u.2)∧(∀u∈crS c,F8 A u.2)∧(ruS c).length≤40∧(coS c).length≤40:=by
 obtain⟨h1,D,F,H,I,J,_⟩:=OB c hc
 unfold ruS coS crS yy Bz Sr
 rw[List.take_length,List.take_length,List.take_length]
 refine⟨fun u i=> ?_,fun u i=> ?_,fun u i=> ?_, ?_, ?_⟩
 ·obtain⟨x,hx,rfl⟩:=List.mem_map.1 i
  grind [List.mem_filter.1,aiG]
 ·obtain⟨x,hx,rfl⟩:=List.mem_map.1 i
  grind [List.mem_filter.1,aiG]
 ·grind [List.mem_map.1,aiG]
 ·grind
 ·grind
section
variable(t:Tt)(c:Ct)(zT aT fT a7 a8 a9 gX hU gZ:T)(vs:List T)(hT:wM t zT aT fT)(hV:Kk t c vs)(ht:tW t=0)(hc:mi c=0)(d:List (Int×Bool))(dT:T)(hd:OD d dT)(h1:1≤d.length)(hlen:d.length≤100)(jN: ∀k∈d,Lq t.fl.length k.1=true)
include hT ht hd h1 hlen jN
theorem Xh: ∃i j r1 r2:_,∃(hi:i<t.fl.length) (r:j<t.fl.length),l8 t.fl d 0=t.fl[i]∧l8 t.fl d (d.length-1)=t.fl[j]∧(∀kk,lH dT (.i kk 0) 2=some (.vp (.i .i64 (i:Int)::r1)))∧(∀kk,lH dT (.i kk ((d.length-1:Nat):Int)) 2=some (.vp (.i .i64 (j:Int)::r2))):=by
 have _:=hT
 obtain⟨i,hi,H,I,_⟩:=rH (rG t ht).1 jN (k:=0) (by omega)
 obtain⟨j,r,J,K,_⟩:=rH (rG t ht).1 jN (k:=d.length-1) (by omega)
 obtain⟨r1,D⟩:=DK hd 0 (by omega)
 obtain⟨r2,F⟩:=DK hd (d.length-1) (by omega)
 rw[H]at D
 rw[J]at F
 exact⟨i,j,_,_,hi,r,I,K,D,F⟩
theorem Xi:be pE 99 [stV c zT aT fT a7 a8 a9 gX hU gZ vs,dT] []=some (.s (l8 t.fl d 0).fr,[]):=by
 obtain⟨i,j,r1,r2,hi,H,r,I,D,J⟩:=Xh t zT aT fT hT ht d dT hd h1 hlen jN
 obtain⟨r3,F⟩:=uD t c zT aT fT a7 a8 a9 gX hU gZ vs hT i hi
 rw[r]
 generalize t.fl[i]=f at*
 have SC:=Aq c zT aT fT a7 a8 a9 gX hU gZ vs
 rw[gQ agv (by simp[c99])]
 simp only[qA,seval,c99,D,F,SC,EF]
theorem aiJ:be pE 100 [stV c zT aT fT a7 a8 a9 gX hU gZ vs,dT] []=some (.s (l8 t.fl d (d.length-1)).to,[]):=by
 obtain⟨i,j,r1,r2,hi,r,K,D,N,F⟩:=Xh t zT aT fT hT ht d dT hd h1 hlen jN
 obtain⟨r3,H⟩:=uD t c zT aT fT a7 a8 a9 gX hU gZ vs hT j r
 rw[D]
 generalize t.fl[j]=f at*
 have I:=tB (k:=d.length) (by omega) (by omega)
 have J:=hd.sl.lenI
 have SC:=Aq c zT aT fT a7 a8 a9 gX hU gZ vs
 rw[gQ TO (by simp[S1])]
 simp only[qA,seval,S1,J,I,F,H,SC,EF]
include hc
theorem RG:be pE 45 [stV c zT aT fT a7 a8 a9 gX hU gZ vs,dT] []=some (.agg [.i .i64 (zj c (l8 t.fl d 0)),.i .i64 (zk c (l8 t.fl d (d.length-1)))],[]):=by
 obtain⟨i,j,r1,r2,hi,D,F,H,I,J⟩:=Xh t zT aT fT hT ht d dT hd h1 hlen jN
 have r:=Kx t c zT aT fT a7 a8 a9 gX hU gZ vs hT ht hc i j hi D
 rw[F,H]
 generalize zj c t.fl[i]=S at*
 generalize zk c t.fl[j]=E at*
 have K:=tB (k:=d.length) (by omega) (by omega)
 have N:=hd.sl.lenI
 have SC:=Aq c zT aT fT a7 a8 a9 gX hU gZ vs
 rw[gQ aoP (by simp[c45])]
 simp only[qA,seval,jq,ig,c45,N,K,I,J,r,SC,agq,awK]
include hV
theorem abX:be pE 59 [stV c zT aT fT a7 a8 a9 gX hU gZ vs,dT] []=some (if OZ t c d=true then .tup [.agg (og (BB t c d) (.sl (px d) d.length false)),.b true]else .tup [.agg (og lg0 .nilsl),.b false],[]):=by
 obtain⟨s1,Xj⟩:=aiC t c zT aT fT a7 a8 a9 gX hU gZ vs hT hV ht hc d dT hd h1 hlen jN
 have H:=W9 (t:=t) (c:=c) ht hc h1 hlen jN
 have I:=RG t c zT aT fT a7 a8 a9 gX hU gZ vs hT ht hc d dT hd h1 hlen jN
 have Y:=Xi t c zT aT fT a7 a8 a9 gX hU gZ vs hT ht d dT hd h1 hlen jN
 have Hy:=aiJ t c zT aT fT a7 a8 a9 gX hU gZ vs hT ht d dT hd h1 hlen jN
 obtain⟨Z,g2,g3,g4,g5⟩:=asO (t:=t) hc H
 have k9:IsSl (.sl (ints (qD t c d)) 11 false) (qD t c d).length (ints (qD t c d)):= .inr ⟨false,by rw[H.1]⟩
 obtain⟨q,r1,r2,r3,c1,c2,c3,cr,nb,i,_,_,J,_,_,K,_,_,N⟩:=hV
 have i:vs=MH (.vm (q.map fun p=>sK p.1) (q.map fun p=>T.agg p.2)) r1 r2 r3 c1 c2 c3 cr (.b nb):=i
 have r:=Xd c zT aT fT a7 a8 a9 gX hU gZ (.vm (q.map fun p=>sK p.1) (q.map fun p=>T.agg p.2)) r1 r2 r3 c1 c2 c3 cr (.b nb) _ _ k9 (ruS c) J Z (by omega)
 have hk:=Xe c zT aT fT a7 a8 a9 gX hU gZ (.vm (q.map fun p=>sK p.1) (q.map fun p=>T.agg p.2)) r1 r2 r3 c1 c2 c3 cr (.b nb) _ _ k9 (coS c) K g2 (by omega)
 have hr:=Xf c zT aT fT a7 a8 a9 gX hU gZ (.vm (q.map fun p=>sK p.1) (q.map fun p=>T.agg p.2)) r1 r2 r3 c1 c2 c3 cr (.b nb) _ _ k9 (crS c) N g3 H.1
 rw[←i]at r hk hr
 rw[show yH (qD t c d) (ruS c)=OZ t c d from rfl]at r
 have SC:=Aq c zT aT fT a7 a8 a9 gX hU gZ vs
 have O:=fun lh sh=>hd.sl.slC (lh:=lh) (sh:=sh) (yI d)
 have D:=hd.sl.froz
 have Ey:d.length*16≤roomy:=by unfold roomy;omega
 have U:=yI d
 have W:d.length≠0:=by omega
 have lO:isNe dT=true:=by
  rcases hd.sl with⟨_,h,_⟩|⟨ex,rfl⟩
  ·omega
  ·cases hq:d.length with
   |zero=>omega
   |succ m=>rfl
 obtain⟨n,X⟩: ∃n,d.length=n+1:=⟨d.length-1,by omega⟩
 have qy: ∀lh sh,appW lh sh 20 2 16 .nilsl dT=some (.isl .L 20 ((b7 lh 20).g+1) 0 d.length 2,nj lh 20 ⟨(b7 lh 20).g+1,.cells (px d) 0 false⟩):=fun lh sh=>by
  unfold appW
  rw[O,Option.bind_some,X,yn,if_pos (by rw[←X];exact Ey)]
 unfold og BB lg0
 generalize zj c (l8 t.fl d 0)=x1 at*
 generalize zk c (l8 t.fl d (d.length-1))=x2 at*
 generalize (l8 t.fl d 0).fr=x3 at*
 generalize (l8 t.fl d (d.length-1)).to=x4 at*
 generalize F9 (qD t c d) (coS c)=x5 at*
 generalize Bj (qD t c d) (crS c)=x6 at*
 generalize stV c zT aT fT a7 a8 a9 gX hU gZ vs=V at*
 have F:froz (T.sl (ints (qD t c d)) 11 false)=true:=rfl
 generalize T.sl (ints (qD t c d)) 11 false=avT at*
 rw[ahy ao3 (by simp[c59])]
 cases hb:OZ t c d <;> rw[hb]at r
 ·simp only[Bool.false_eq_true,if_false]
  simp only[qA,seval,c59,Xj,r,F,SC,D,RF,aoO,apA]
 ·simp only[if_true]
  simp only[qA,seval,jq,qw,ig,lR,c59,Xj,r,F,hk,hr,I,Y,Hy,SC,D,lO,qy,aoO,apA,awx,awV,awW,apB,apC,awt,awu,awv,aww]
  exact Xg (wm:=0) (by simp only[qA,seval]) U W
end
def LgT(g:Lg)(v:T):Prop:=IsSl v g.du.length (px g.du)
theorem O0(t:Tt)(c:Ct)(d:List (Int×Bool)):(BB t c d).du=d:=rfl
section
variable(t:Tt)(c:Ct)(zT aT fT a7 a8 a9 gX hU gZ:T)(vs:List T)(hT:wM t zT aT fT)(hC:uc c a7 a8 a9 gX hU gZ)(hN:Rs c)(d:List (Int×Bool))(dT:T)(hd:OD d dT)(hlen:d.length≤1000)
include hT hd hlen
include hC hN
end
section
variable(t:Tt)(c:Ct)(zT aT fT a7 a8 a9 gX hU gZ:T)(hT:wM t zT aT fT)(hC:uc c a7 a8 a9 gX hU gZ)(ht:tW t=0)(hc:mi c=0)
end
section
variable(t:Tt)(c:Ct)(zT aT fT a7 a8 a9 gX hU gZ:T)(hT:wM t zT aT fT)(hC:uc c a7 a8 a9 gX hU gZ)(ht:tW t=0)(hc:mi c=0)
include hT hC ht hc
end
def aiK(l:List (List Nat×Int)):List T:=l.flatMap fun p=> [.s p.1,.i .i64 p.2]
def aiL(A:List Int):List (List Nat×Int):=jS.zip A
section
variable(t:Tt)(c:Ct)(zT aT fT a7 a8 a9 gX hU gZ:T)(hT:wM t zT aT fT)(hC:uc c a7 a8 a9 gX hU gZ)(ht:tW t=0)(hc:mi c=0)
end
end Go.Proofs.YtcpceiclnbmgiaaGreat
