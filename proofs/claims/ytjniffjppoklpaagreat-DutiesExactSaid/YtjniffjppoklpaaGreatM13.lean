/- Walks of functions of the program and of the reference, and their plain laws, part 13. Conditions: the theorems' own. -/
import Derived.Test.YtjniffjppoklpaaGreatM12
import Derived.KernelRfl
set_option maxRecDepth 100000
set_option linter.unusedSimpArgs false
set_option linter.unusedVariables false
set_option maxHeartbeats 16000000
namespace Go.Proofs.YtjniffjppoklpaaGreat
open Go Go.Ev
def dvC(s:Cn):List T:= [.i .i64 s.lg,.i .i64 s.hd,.i .i64 0,.i .i64 s.bk,.i .i64 0,.i .i64 0,.i .i64 s.lo,.i .i64 s.so,.i .i64 0,.i .i64 0,.i .i64 0]
theorem aiO{n:Nat}(h:n≤1000):(n+1)*16≤roomy:=by unfold roomy;omega
section
variable(t:Tt)(c:Ct)(zT aT fT a7 a8 a9 a10 iH iG:T)(vs:List T)(hT:ue t zT aT fT)(ht:uf t=0)
include hT ht
theorem aCq(d:List (Int×Bool))(dT:T)(hd:GY d dT)(hlen:d.length≤100)(jv: ∀k∈d,yy t.fl.length k.1=true)(fr:Fr)(lh:iL iy)(sh:List iy)(mJ:sh= [⟨1,.cells (dvC cn0) 0 false⟩])(h0:an fr 0=stV c zT aT fT a7 a8 a9 a10 iH iG vs)(h1:an fr 1=dT)(h5:an fr 5= .isl .S 0 1 0 11 1)(h6:an fr 6= .nilsl)(jG:an fr 14=dT)(O:an fr 15= .i .i64 (d.length:Int))(E:an fr 16= .i .i64 0):
  Lp pE 117 Bw fr lh sh (.ext 0) fun f l s=>jr l (an f 6) 64 1 (sA t.fl d d.length).ks.length ((sA t.fl d d.length).ks.map T.s)∧s= [⟨1,.cells (dvC (sA t.fl d d.length)) 0 false⟩]:=by
 refine kO zw (fun k f l s=>an f 16= .i .i64 (k:Int)∧jr l (an f 6) 64 1 (sA t.fl d k).ks.length ((sA t.fl d k).ks.map T.s)∧s= [⟨1,.cells (dvC (sA t.fl d k)) 0 false⟩]) d.length ⟨E,by rw[h6];exact jr.nil,mJ⟩ ?_ ?_
 ·rintro k F l _ U N ⟨E,r,rfl⟩
  have iU:(k:Int)<d.length:=by omega
  have hw:=iX (k:=k) (by omega)
  have V:=(n5 t ht).1
  obtain⟨rr,W⟩:=vV hd k U
  obtain⟨i,hi,ei,ef,H⟩:=oF V jv U
  obtain⟨r2,X⟩:=wX t c zT aT fT a7 a8 a9 a10 iH iG vs hT i hi
  rw[←ef]at X
  obtain⟨c1,c2,c3,c4,c5,c6⟩:=Jz V jv k (by omega)
  have mI:sA t.fl d (k+1)=if k=0 then Vb (kV t.fl d k) d[k].2 (sA t.fl d k)else cnG (kV t.fl d (k-1)) (kV t.fl d k) (Vb (kV t.fl d k) d[k].2 (sA t.fl d k)):=by rw[sA,PA U]
  have I:=JA (kV t.fl d k).ty (sA t.fl d k).ks (ku (sA t.fl d k).ks.length ((sA t.fl d k).ks.map T.s)) r.isl (by omega)
  have D:=fun(Y:iL iy) (Z:List iy) (keep:Bool) (e:a6 Y 64=a6 l 64)=>(r.congr e).fzV (sh:=Z) (keep:=keep)
  have nQ:=fun(Y:iL iy) (Z:List iy) (e:a6 Y 64=a6 l 64)=>qM (sh:=Z) (r.congr e) [.s (kV t.fl d k).ty] rfl (bytes:=16) (aiO (by omega)) true
  have DK:=r.notS
  rw[ei]at W
  obtain⟨_,f1,f2,f3,f4⟩:=id H
  generalize J:an F 6=v6 at r D nQ DK
  generalize sA t.fl d k=s at*
  have w1:wr .i64 (s.lg+1)=s.lg+1:=jE (by omega)
  have w2:wr .i64 (s.hd+1)=s.hd+1:=jE (by omega)
  have w3:wr .i64 ((kV t.fl d k).ar-(kV t.fl d k).dp)=(kV t.fl d k).ar-(kV t.fl d k).dp:=jE (by omega)
  have w4:wr .i64 (s.bk+((kV t.fl d k).ar-(kV t.fl d k).dp))=s.bk+((kV t.fl d k).ar-(kV t.fl d k).dp):=jE (by omega)
  have Va:=B3 c zT aT fT a7 a8 a9 a10 iH iG vs
  have K:adK (kV t.fl d k).ty s.ks=if(kV t.fl d k).ty∈s.ks then s.ks else s.ks++ [(kV t.fl d k).ty]:=rfl
  by_cases JB:k=0
  ·have MT: ¬(0:Int)<(k:Int):=by omega
   rw[mI,if_pos JB]
   generalize kV t.fl d k=f at*
   generalize d[k].2=b at*
   cases b <;> by_cases hm:f.ty∈s.ks <;> simp only[qA,seval,gd,repl,jw,iN,jA,Bw,zw,N,h0,h1,h5,J,jG,O,E,iU,hw,W,X,w1,w2,w3,w4,Va,CU,qK,wQ,MT,DK,D,nQ,I,hm,xF,r,K,Vb,dvC,List.length_append,List.map_append,GC,agz]
  ·have MT:(0:Int)<(k:Int):=by omega
   have Jt:=ot (k:=k) (by omega) (by omega)
   obtain⟨r3,y9⟩:=vV hd (k-1) (by omega)
   obtain⟨j,hj,ej,eg,gok⟩:=oF V jv (k:=k-1) (by omega)
   obtain⟨r4,BQ⟩:=wX t c zT aT fT a7 a8 a9 a10 iH iG vs hT j hj
   rw[←eg]at BQ
   rw[ej]at y9
   have gap:=Pz H gok
   have w5:wr .i64 ((kV t.fl d k).dp-(kV t.fl d (k-1)).ar)=(kV t.fl d k).dp-(kV t.fl d (k-1)).ar:=jE (by omega)
   rw[mI,if_neg JB]
   generalize kV t.fl d k=f at*
   generalize kV t.fl d (k-1)=g at*
   generalize d[k].2=b at*
   cases b <;> by_cases hm:f.ty∈s.ks <;> simp only[qA,seval,gd,repl,jw,iN,jA,Bw,zw,N,h0,h1,h5,J,jG,O,E,iU,hw,W,X,w1,w2,w3,w4,Va,CU,qK,wQ,MT,DK,D,nQ,I,hm,xF,r,K,Vb,dvC,List.length_append,List.map_append,GC,arL,agz,cnG,uj,wV,y9,BQ,Jt,w5]
 ·rintro F l _ N ⟨E,r,rfl⟩
  simp only[qA,seval,gd,Bw,N,O,E,r,Int.lt_irrefl]
end
theorem Uf{k g o n s:Nat}:kept (.isl .S k g o n s)=true:=nr rfl
def kI(t:Tt)(c:Ct)(d:List (Int×Bool)):List Int:=
 [(sA t.fl d d.length).lg,(sA t.fl d d.length).hd,(sA t.fl d d.length).ks.length,(sA t.fl d d.length).bk,um c (kV t.fl d (d.length-1))-uk c (kV t.fl d 0),Jx t c (kV t.fl d 0) (kV t.fl d (d.length-1)),(sA t.fl d d.length).lo,(sA t.fl d d.length).so,MQ t c (kV t.fl d 0) (kV t.fl d (d.length-1)),Px t c (kV t.fl d 0),Py t c (kV t.fl d (d.length-1))]
section
variable(t:Tt)(c:Ct)(zT aT fT a7 a8 a9 a10 iH iG:T)(vs:List T)(hT:ue t zT aT fT)(hV:ME t c vs)(ht:uf t=0)(hc:nL c=0)
include hT hV ht hc
theorem amc(d:List (Int×Bool))(dT:T)(hd:GY d dT)(h1:1≤d.length)(hlen:d.length≤100)(jv: ∀k∈d,yy t.fl.length k.1=true): ∃s,be pE 69 [stV c zT aT fT a7 a8 a9 a10 iH iG vs,dT] []=some (.sl (ints (kI t c d)) 11 false,s):=by
 have V:=fun fr lh sh r D h1 E F H I J=>aCq t c zT aT fT a7 a8 a9 a10 iH iG vs hT ht d dT hd hlen jv fr lh sh r D h1 E F H I J
 have Y:=fun fr lh sh r D h1 E F H I J=>(V fr lh sh r D h1 E F H I J).2.1.lenI
 obtain⟨i,hi,Z,ef,_⟩:=oF (n5 t ht).1 jv (k:=0) (by omega)
 obtain⟨j,hj,ej,eg,_⟩:=oF (n5 t ht).1 jv (k:=d.length-1) (by omega)
 obtain⟨r1,W⟩:=vV hd 0 (by omega)
 obtain⟨r2,X⟩:=vV hd (d.length-1) (by omega)
 have hw:=ot (k:=d.length) (by omega) (by omega)
 have K:=hd.choose_spec.1.lenI
 have N:kept (stV c zT aT fT a7 a8 a9 a10 iH iG vs)=true:=nr rfl
 have Hw:=Z4 t c zT aT fT a7 a8 a9 a10 iH iG vs hT hV ht hc i j hi hj
 rw[←ef,←eg]at Hw
 rw[Z]at W
 rw[ej]at X
 have O: ∀kk,ng dT (.i kk 0) 2=_:=W
 have U:(11:Nat)*8≤roomy∧(11:Nat)≤roomy:=by unfold roomy;omega
 unfold kI
 generalize sA t.fl d d.length=s at*
 generalize kV t.fl d 0=f at*
 generalize kV t.fl d (d.length-1)=g at*
 rw[iD arS (by simp[c69])]
 unfold dvC cn0 at*
 simp only[qA,seval,repl,jw,iN,jA,kP,c69,zw,AR,U,V,Y,O,X,hw,K,N,Uf,Hw,asr,ass]
 exact⟨_,rfl⟩
end
theorem PC{scope:Int}{s:List Nat}{i:Nat}(h:Oa scope s=some i):(Vc scope)[i]? =some s:=by
 unfold Oa lL at h
 have:=AQ h
 rw[List.take_length]at this
 exact List.mk_mem_zipIdx_iff_getElem?.1 this
def MU(A:List Int):Prop:=A.length=11∧ ∀i s,jI[i]? =some s→FX (rj s) (A.getD i 0)
theorem Z6(l:Cs){A:List Int}(h:MU A):PD (Rn (JC l) 1) (wk (nH l) 1 A):=by
 intro s t hs
 unfold Rn at hs
 by_cases r:lu 1 s≠0
 ·rw[if_pos r]at hs
  injection hs with hs _
  subst hs
  unfold wk
  cases D:Oa 1 s with
  |none=>exact absurd ((sj 1 s).1 D) r
  |some i=>exact h.2 i s (PC D)
 ·rw[if_neg r]at hs
  have D:=(sj 1 s).2 (by simpa using r)
  unfold wk
  rw[D]
  exact JD l s t hs
theorem FY{k k' v:Int}(h:k=k')(r:FX k' v):FX k v:=h▸r
theorem amd{v:Int}(h:bd v):FX 1 v:= .inl ⟨.inl rfl,h⟩
theorem Ug{v:Int}(h:bd v):FX 2 v:= .inl ⟨.inr rfl,h⟩
theorem avW{v:Int}(h:0≤v∧v≤1439):FX 3 v:= .inr (.inl ⟨rfl,h⟩)
theorem bdE{v:Int}(h: -1000000000≤v∧v≤1000000000):bd v:=by unfold bd;omega
theorem Z7(z:Zo)(x:Int):0≤z.clk x∧z.clk x≤1439:=by unfold Zo.clk;omega
theorem Z8{z:Zo}{A B f t:Int}(h1:0≤A)(r:B≤52596000):0≤z.bandM A B f t∧z.bandM A B f t≤52596000:=by
 have:=DF (fun x=>lA (z.clk x) f t) A (B-A).toNat
 unfold Zo.bandM wS
 omega
theorem FZ{t:Tt}{c:Ct}(ht:uf t=0)(hc:nL c=0){d:List (Int×Bool)}(h1:1≤d.length)(hlen:d.length≤100)(jv: ∀k∈d,yy t.fl.length k.1=true):MU (kI t c d):=by
 have E:=(n5 t ht).1
 obtain⟨c1,c2,c3,Z,c5,c6⟩:=Jz E jv d.length (Nat.le_refl _)
 obtain⟨i,hi,N,F,r⟩:=oF E jv (k:=0) (by omega)
 obtain⟨j,H,O,I,D⟩:=oF E jv (k:=d.length-1) (by omega)
 obtain⟨b1,b2,_,_,_⟩:=MR hc r D
 have J:oB (Dh t (kV t.fl d 0).fr)=0:=by rw[F];exact B6 ht (oR ht (List.getElem_mem hi)).1
 have K:oB (Dh t (kV t.fl d (d.length-1)).to)=0:=by rw[I];exact B6 ht (oR ht (List.getElem_mem H)).2
 have U:=Zo.off_bd J (uk c (kV t.fl d 0))
 have V:=Zo.off_bd K (um c (kV t.fl d (d.length-1)))
 have nb: -1000000000≤Jx t c (kV t.fl d 0) (kV t.fl d (d.length-1))∧Jx t c (kV t.fl d 0) (kV t.fl d (d.length-1))≤1000000000:=by
  unfold Jx
  split
  ·have:=Z8 (z:=Dh t (kV t.fl d 0).fr) (A:=uk c (kV t.fl d 0)) (B:=um c (kV t.fl d (d.length-1))) (f:=c.nf) (t:=c.nt) (by omega) (by omega)
   omega
  ·omega
 have W: -1000000000≤MQ t c (kV t.fl d 0) (kV t.fl d (d.length-1))∧MQ t c (kV t.fl d 0) (kV t.fl d (d.length-1))≤1000000000:=by
  unfold MQ;omega
 have X:0≤Px t c (kV t.fl d 0)∧Px t c (kV t.fl d 0)≤1439:=Z7 _ _
 have Y:0≤Py t c (kV t.fl d (d.length-1))∧Py t c (kV t.fl d (d.length-1))≤1439:=Z7 _ _
 refine⟨rfl,fun i s h=> ?_⟩
 unfold kI
 generalize sA t.fl d d.length=q at*
 clear U V J K N F O I hi H r D E
 match i,h with
 |0,h=>cases h;exact FY (by decide) (amd (bdE (by show _≤q.lg∧q.lg≤_;omega)))
 |1,h=>cases h;exact FY (by decide) (amd (bdE (by show _≤q.hd∧q.hd≤_;omega)))
 |2,h=>cases h;exact FY (by decide) (amd (bdE (by show _≤(q.ks.length:Int)∧(q.ks.length:Int)≤_;omega)))
 |3,h=>cases h;exact FY (by decide) (Ug (bdE (by show _≤q.bk∧q.bk≤_;omega)))
 |4,h=>cases h;exact FY (by decide) (Ug (bdE (by show _≤um c (kV t.fl d (d.length-1))-uk c (kV t.fl d 0)∧um c (kV t.fl d (d.length-1))-uk c (kV t.fl d 0)≤_;omega)))
 |5,h=>cases h;exact FY (by decide) (Ug (bdE nb))
 |6,h=>cases h;exact FY (by decide) (Ug (bdE (by show _≤q.lo∧q.lo≤_;omega)))
 |7,h=>cases h;exact FY (by decide) (Ug (bdE (by show _≤q.so∧q.so≤_;omega)))
 |8,h=>cases h;exact FY (by decide) (Ug (bdE W))
 |9,h=>cases h;exact FY (by decide) (avW X)
 |10,h=>cases h;exact FY (by decide) (avW Y)
 |n+11,h=>cases h
def vH(l:Cs)(A:List Int)(x:Ex):Int:=x.val0 (wk (nH l) 1 A)
theorem Uh{l:Cs}{A:List Int}(r:MU A){x:Ex}(E:Mx l 1 x):H2 A (comp (nH l) 1 x)∧(comp (nH l) 1 x).val A=vH l A x∧ ∃k,FX k (vH l A x):=by
 obtain⟨_,D,k,F⟩:=E
 have J:=(oX D).1
 have K:=x.nodes_eq
 obtain⟨h1,H,I⟩:=Ro (Z6 l r) (show A.length=(Vc 1).length from r.1) x k (nZ D) (by omega) F
 exact⟨h1,H,k,I⟩
def uo(A:List Int)(l:RL):Bool:=l.all fun u=>decide (u.2.val A≠0)
def Di(n:Int):List Int→Int
 | []=>n
 |v::r=>Di (wr .i64 (n+v)) r
def pC(A:List Int)(l:RL):Int:=Di 0 (l.map fun u=>u.2.val A)
theorem MV: ∀(a b:List Int) (n:Int),Di n (a++b)=Di (Di n a) b
 | [],b,n=>rfl
 |v::a,b,n=>by rw[List.cons_append,Di,Di,MV a b]
def sk(A:List Int)(l:RL):Int:=match l with| []=>A.getD 3 0|u::_=>u.2.val A
theorem Z9{l:RL}{v:T}(h:N5 4 l v):lenI v=some (.i .i64 (l.length:Int))∧ ∀k (F:k<l.length),∃b D r,(∀kk,ng v (.i kk (k:Int)) 4=some (.vp (.s l[k].1:: .i .i64 l[k].2.op:: .i .i64 l[k].2.num::b::r)))∧iJ b l[k].2.args.length D∧jl l[k].2.args D:=by
 obtain⟨n,cs,h1,N,E,O⟩:=h
 rw[if_pos rfl]at E
 have U:=iK.len RlR.len E
 have e:n=l.length:=by omega
 subst e
 refine⟨h1.lenI,fun k F=> ?_⟩
 obtain⟨c,r,H,V,rfl,I⟩:=qu (k:=4) RlR.len h1 E k F
 obtain⟨b,D,rfl,J,K⟩:=I.cells
 exact⟨b,D,r,H,J,K⟩
theorem JE{l:RL}{v:T}(h:N5 3 l v):lenI v=some (.i .i64 (l.length:Int))∧ ∀k (F:k<l.length),∃b D r,(∀kk,ng v (.i kk (k:Int)) 3=some (.vp (.i .i64 l[k].2.op:: .i .i64 l[k].2.num::b::r)))∧iJ b l[k].2.args.length D∧jl l[k].2.args D:=by
 obtain⟨n,cs,h1,N,E,O⟩:=h
 rw[if_neg (by decide)]at E
 have K:=jl.len E
 rw[List.length_map]at K
 have e:n=l.length:=by omega
 subst e
 refine⟨h1.lenI,fun k F=> ?_⟩
 have N3:k<(l.map Prod.snd).length:=by simpa using F
 obtain⟨b,D,r,H,I,J⟩:=aaa (xs:=l.map Prod.snd) (by rw[List.length_map];exact h1) E k N3
 rw[List.getElem_map]at H I J
 exact⟨b,D,r,H,I,J⟩
def PE(m r1 r2 r3 c1 c2 c3 cr nb:T):List T:= [m,.nilsl,r1,r2,r3,.nilsl,c1,c2,c3,cr,nb]
section
variable(c:Ct)(zT aT fT a7 a8 a9 a10 iH iG m r1 r2 r3 c1 c2 c3 cr nb:T)(A:List Int)(oG:T)(kZ:iJ oG A.length (ints A))
theorem Rp(kZ:iJ oG A.length (ints A)):be pE 110 [.i .i64 1,oG] []=some (oG,[]):=by
 rw[iD agA (by simp[VP])]
 simp only[qA,seval,VP,kZ.froz]
include kZ
theorem aCs(l:RL)(K:N5 4 l r1)(N: ∀u∈l,H2 A u.2)(hlen:l.length≤1000)(r:Bool)(NZ:r=uo A l)(o:Out)(J:o=if r=true then .ext 0 else .ret)(fr:Fr)(lh:iL iy)(sh:List iy)(D:an fr 0=stV c zT aT fT a7 a8 a9 a10 iH iG (PE m r1 r2 r3 c1 c2 c3 cr nb))(h1:an fr 1= .i .i64 1)(F:an fr 2=oG)(E:an fr 17= .i .i64 (l.length:Int))(H:an fr 18= .i .i64 0):
  qG 34 Bx fr lh sh o∧
  ((r=false→an (pb pE 34 Bx fr lh sh) 6= .b false)∧nB pE 34 Bx fr lh sh=sh):=by
 refine ll (fun k st=> ∃(fr:Fr) (lh:iL iy),st=⟨fr,lh,sh⟩∧r=uo A (l.drop k)∧an fr 0=stV c zT aT fT a7 a8 a9 a10 iH iG (PE m r1 r2 r3 c1 c2 c3 cr nb)∧an fr 1= .i .i64 1∧an fr 2=oG∧an fr 17= .i .i64 (l.length:Int)∧an fr 18= .i .i64 (k:Int))
  (fun O je U=>(r=false→an O 6= .b false)∧U=sh) _ l.length ?_ ?_ fr lh sh ⟨fr,lh,rfl,NZ,D,h1,F,E,H⟩
 ·rintro k _ I ⟨fr,lh,rfl,NZ,D,h1,F,E,H⟩
  have V:(k:Int)<l.length:=by omega
  have W:=iX (k:=k) (by omega)
  obtain⟨b,X,Y,Z,lE,uE⟩:=(Z9 K).2 k I
  have hv:=JF A oG kZ l[k].2 b X Y lE uE (N _ (List.getElem_mem I))
  rw[List.drop_eq_getElem_cons I]at NZ
  rw[show uo A (l[k]::l.drop (k+1))=(decide (l[k].2.val A≠0)&&uo A (l.drop (k+1)))from rfl]at NZ
  generalize l[k]=u at*
  generalize u.2.val A=x at*
  have hz:=kZ.froz
  unfold stV jb PE at D ⊢
  simp only[List.cons_append,List.nil_append]at D ⊢
  simp only[qB,seval,lZ,Bx,D,h1,F,E,H,V,Z,W,hv,hz,EA]
  refine vv (fun h=> ?_) (fun h=> ?_)
  ·rw[decide_eq_false (by simpa using h),Bool.false_and]at NZ
   exact yS ⟨by rw[J,NZ];rfl,fun _=>(by simp only[qA,seval]),rfl⟩
  ·rw[decide_eq_true h,Bool.true_and]at NZ
   exact kA ⟨_,_,rfl,NZ,by simp only[qA,seval,D],by simp only[qA,seval,h1],by simp only[qA,seval,F],by simp only[qA,seval,E],by simp only[qA,seval]⟩
 ·rintro _ ⟨fr,lh,rfl,NZ,D,h1,F,E,H⟩
  rw[List.drop_length]at NZ
  simp only[qA,seval,Bx,E,H,Int.lt_irrefl]
  exact mf ⟨by rw[J,NZ];rfl,fun h=>(by rw[NZ]at h;cases h),rfl⟩
theorem aab(l:RL)(r:N5 4 l r1)(E: ∀u∈l,H2 A u.2)(hlen:l.length≤1000):be pE 70 [stV c zT aT fT a7 a8 a9 a10 iH iG (PE m r1 r2 r3 c1 c2 c3 cr nb),.i .i64 1,oG] []=some (.b (uo A l),[]):=by
 have D:=fun fr lh sh F h1 H I J=>aCs c zT aT fT a7 a8 a9 a10 iH iG m r1 r2 r3 c1 c2 c3 cr nb A oG kZ l r E hlen _ rfl _ rfl fr lh sh F h1 H I J
 have Dj:=Rp A oG kZ
 have K:=(Z9 r).1
 have N:=kZ.froz
 unfold stV jb PE at*
 simp only[List.cons_append,List.nil_append]at*
 rw[iD arU (by simp[c70])]
 cases O:uo A l <;> rw[O]at D
 all_goals simp only[qA,seval,lZ,c70,Dj,K,D,N,agB]
theorem aCt(l:RL)(K:N5 3 l c1)(N: ∀u∈l,H2 A u.2)(hlen:l.length≤1000)(fr:Fr)(lh:iL iy)(sh:List iy)(r:an fr 0=stV c zT aT fT a7 a8 a9 a10 iH iG (PE m r1 r2 r3 c1 c2 c3 cr nb))(h1:an fr 1= .i .i64 1)(E:an fr 2=oG)(F:an fr 7= .i .i64 0)(D:an fr 18= .i .i64 (l.length:Int))(H:an fr 19= .i .i64 0):
  qG 36 By fr lh sh (.ext 0)∧
  (an (pb pE 36 By fr lh sh) 7= .i .i64 (pC A l)∧nB pE 36 By fr lh sh=sh):=by
 refine ll (fun k st=> ∃(fr:Fr) (lh:iL iy) (n:Int),st=⟨fr,lh,sh⟩∧Di n ((l.drop k).map fun u=>u.2.val A)=pC A l∧an fr 0=stV c zT aT fT a7 a8 a9 a10 iH iG (PE m r1 r2 r3 c1 c2 c3 cr nb)∧an fr 1= .i .i64 1∧an fr 2=oG∧an fr 7= .i .i64 n∧an fr 18= .i .i64 (l.length:Int)∧an fr 19= .i .i64 (k:Int))
  (fun O je U=>an O 7= .i .i64 (pC A l)∧U=sh) _ l.length ?_ ?_ fr lh sh ⟨fr,lh,0,rfl,rfl,r,h1,E,F,D,H⟩
 ·rintro k _ J ⟨fr,lh,n,rfl,I,r,h1,E,F,D,H⟩
  have V:(k:Int)<l.length:=by omega
  have W:=iX (k:=k) (by omega)
  obtain⟨b,X,Y,Z,lE,uE⟩:=(JE K).2 k J
  have hv:=JF A oG kZ l[k].2 b X Y lE uE (N _ (List.getElem_mem J))
  rw[List.drop_eq_getElem_cons J,List.map_cons,Di]at I
  generalize l[k]=u at*
  generalize u.2.val A=x at*
  have hz:=kZ.froz
  unfold stV jb PE at r ⊢
  simp only[List.cons_append,List.nil_append]at r ⊢
  simp only[qB,seval,lZ,By,r,h1,E,F,D,H,V,Z,W,hv,hz,EA]
  exact kA ⟨_,_,_,rfl,I,by simp only[qA,seval,r],by simp only[qA,seval,h1],by simp only[qA,seval,E],by simp only[qA,seval],by simp only[qA,seval,D],by simp only[qA,seval]⟩
 ·rintro _ ⟨fr,lh,n,rfl,I,r,h1,E,F,D,H⟩
  rw[List.drop_length,List.map_nil,Di]at I
  simp only[qA,seval,By,D,H,Int.lt_irrefl]
  exact mf ⟨rfl,by simp only[qA,seval,F,I],rfl⟩
theorem aac(l:RL)(r:N5 3 l c1)(D: ∀u∈l,H2 A u.2)(hlen:l.length≤1000):be pE 74 [stV c zT aT fT a7 a8 a9 a10 iH iG (PE m r1 r2 r3 c1 c2 c3 cr nb),.i .i64 1,oG] []=some (.i .i64 (pC A l),[]):=by
 have E:=fun fr lh sh F h1 H I J K=>aCt c zT aT fT a7 a8 a9 a10 iH iG m r1 r2 r3 c1 c2 c3 cr nb A oG kZ l r D hlen fr lh sh F h1 H I J K
 have Dj:=Rp A oG kZ
 have N:=(JE r).1
 have O:=kZ.froz
 unfold stV jb PE at*
 simp only[List.cons_append,List.nil_append]at*
 rw[iD aj3 (by simp[c74])]
 simp only[qA,seval,lZ,c74,Dj,N,E,O,agB]
theorem aCu(l:RL)(H:N5 3 l cr)(I: ∀u∈l,H2 A u.2)(fr:Fr)(lh:iL iy)(sh:List iy)(E:an fr 0=stV c zT aT fT a7 a8 a9 a10 iH iG (PE m r1 r2 r3 c1 c2 c3 cr nb))(h1:an fr 1=oG)(r:an fr 10= .i .i64 (l.length:Int))(D:an fr 11= .i .i64 0):
  qG 26 yG fr lh sh (if l= []then Out.ext 0 else Out.ret)∧
  ((l≠ []→an (pb pE 26 yG fr lh sh) 4= .i .i64 (sk A l))∧nB pE 26 yG fr lh sh=sh):=by
 refine ll (fun k st=>st=⟨fr,lh,sh⟩) (fun J je K=>(l≠ []→an J 4= .i .i64 (sk A l))∧K=sh) _ 0 (fun k st N=>absurd N (by omega)) ?_ fr lh sh rfl
 rintro _ rfl
 have O:=kZ.froz
 cases l with
 |nil=>
  rw[List.length_nil]at r
  have r:an fr 10= .i .i64 0:=r
  simp only[qA,seval,yG,r,D,Int.lt_irrefl]
  grind [mf]
 |cons u l=>
  obtain⟨b,U,F,V,W,X⟩:=(JE H).2 0 (by simp)
  have Y:=JF A oG kZ u.2 b U F W X (I u (by simp))
  have Z: ∀kk,ng cr (.i kk 0) 3=some (.vp (.i .i64 u.2.op:: .i .i64 u.2.num::b::F)):=V
  have C9:(0:Int)<((l.length+1:Nat):Int):=by omega
  unfold stV jb PE at E
  simp only[List.cons_append,List.nil_append]at E
  simp only[qA,seval,forall_const,yG,E,h1,r,D,Z,C9,Y,O,EA]
  exact yS ⟨rfl,(by unfold sk;simp only[qA,seval]),rfl⟩
theorem aad(l:RL)(J:N5 3 l cr)(N: ∀u∈l,H2 A u.2)(V:A.length=11):be pE 75 [stV c zT aT fT a7 a8 a9 a10 iH iG (PE m r1 r2 r3 c1 c2 c3 cr nb),oG] []=some (.i .i64 (sk A l),[]):=by
 have D:=fun fr lh sh O h1 E F=>aCu c zT aT fT a7 a8 a9 a10 iH iG m r1 r2 r3 c1 c2 c3 cr nb A oG kZ l J N fr lh sh O h1 E F
 have K:=(JE J).1
 have U:=kZ.froz1
 have H: ∃r,∀kk,ng oG (.i kk 3) 1=some (.vp (.i .i64 (A.getD 3 0)::r)):=by
  refine⟨(ints A).drop 4,fun kk=> ?_⟩
  have:=kZ.ia (sz:=1) (k:=3) (kk:=kk) (by rw[kb];omega) (by omega)
  grind [pa,List.getElem?_eq_getElem]
 obtain⟨W,H⟩:=H
 unfold stV jb PE at*
 simp only[List.cons_append,List.nil_append]at*
 rw[iD aj4 (by simp[c75])]
 by_cases I:l= []
 ·simp only[I,if_true]at D
  subst I
  have e:sk A []=A.getD 3 0:=rfl
  rw[e]
  simp only[qA,seval,c75,VB,K,D,H]
 ·simp only[I,if_false,ne_eq,not_false_eq_true,forall_const]at D
  generalize sk A l=x at*
  simp only[qA,seval,c75,K,D]
end
end Go.Proofs.YtjniffjppoklpaaGreat
namespace Go.Ev
open Go
theorem aae{lh:iL iy}{sh:List iy}{k g len sz wm:Nat}{cs:List T}{a b e f:Int}{s u:List Nat}{x:Bool}(h:a6 lh k=⟨g,.cells cs wm false⟩)(r:cs.length=len*sz)(D:len≠0):Tv lh sh 100 [.agg [.isl .L k g 0 len sz,.i .i64 a,.i .i64 b,.s s,.s u,.i .i64 e,.i .i64 f],.b x]=some (.tup [.agg [.sl cs len false,.i .i64 a,.i .i64 b,.s s,.s u,.i .i64 e,.i .i64 f],.b x],sh):=by
 have E:(St.mk .nil lh sh).get .L k=⟨g,.cells cs wm false⟩:=h
 have F:(fz false 8 (.tup [.agg [.nilsl,.i .i64 a,.i .i64 b,.s s,.s u,.i .i64 e,.i .i64 f],.b x])).run (St.mk .nil lh sh).get sh.length=some (.tup [.agg [.nilsl,.i .i64 a,.i .i64 b,.s s,.s u,.i .i64 e,.i .i64 f],.b x],[]):=rfl
 simp only[Tv,sR,l6,iY,iT,List.getElem?_cons_zero,List.set_cons_zero,show¬(100:Nat)<100 from by decide,if_false,show(100:Nat)/100-1=0 from rfl,show(100:Nat)%100=0 from rfl]
 rw[F]
 simp only[St.ups]
 rw[E]
 simp only
 rw[if_pos ⟨trivial,r,D,.inr rfl⟩]
 rfl
theorem Ui{lh:iL iy}{sh:List iy}{a b e f:Int}{s u:List Nat}{x:Bool}:Tv lh sh 100 [.agg [.nilsl,.i .i64 a,.i .i64 b,.s s,.s u,.i .i64 e,.i .i64 f],.b x]=some (.tup [.agg [.nilsl,.i .i64 a,.i .i64 b,.s s,.s u,.i .i64 e,.i .i64 f],.b x],sh):=rfl
end Go.Ev
namespace Go.Proofs.YtjniffjppoklpaaGreat
open Go Go.Ev
structure Lg where
 du:List (Int×Bool)
 rp:Int
 rl:Int
 fr:List Nat
 to:List Nat
 co:Int
 cr:Int
def pe(g:Lg)(v:T):List T:= [v,.i .i64 g.rp,.i .i64 g.rl,.s g.fr,.s g.to,.i .i64 g.co,.i .i64 g.cr]
def H3:Lg:=⟨[],0,0,[],[],0,0⟩
def nM(d:List (Int×Bool)):List T:=d.flatMap fun k=> [.i .i64 k.1,.b k.2]
theorem ou(d:List (Int×Bool)):(nM d).length=d.length*2:=tU (sz:=2) (fun _=>rfl) d
theorem DL(a b:List (Int×Bool)):nM (a++b)=nM a++nM b:=by grind [nM]
theorem MW: ∀d:List (Int×Bool),(nM d).all rf=true
 | []=>rfl
 |k::d=>by
  have:nM (k::d)= [T.i .i64 k.1,.b k.2]++nM d:=rfl
  rw[this,List.all_append,MW d];rfl
theorem Rq: ∀{d:List (Int×Bool)} {D:List T},iK TkR d D→D=nM d
 | [],D,h=>h
 |k::d,D,h=>by
  obtain⟨c,r,rfl,h1,E⟩:=h
  rw[TkR]at h1
  rw[h1,Rq E];rfl
theorem MX: ∀d:List (Int×Bool),iK TkR d (nM d)
 | []=>rfl
 |k::d=>⟨[.i .i64 k.1,.b k.2],nM d,rfl,rfl,MX d⟩
theorem GY.sl{d:List (Int×Bool)}{v:T}(h:GY d v):iJ v d.length (nM d):=by
 obtain⟨D,h1,r⟩:=h
 rwa [Rq r]at h1
theorem GY.of{d:List (Int×Bool)}{v:T}(h:iJ v d.length (nM d)):GY d v:=⟨_,h,MX d⟩
def ruS(c:Ct):RL:=AI c 1 c.ru.length
def Uj(c:Ct):RL:=yX c 1 c.co.length
def crS(c:Ct):RL:=T2 c c.cr.length
def pM(t:Tt)(c:Ct)(d:List (Int×Bool)):Bool:=uo (kI t c d) (ruS c)
def kh(t:Tt)(c:Ct)(d:List (Int×Bool)):Lg:=⟨d,uk c (kV t.fl d 0),um c (kV t.fl d (d.length-1)),(kV t.fl d 0).fr,(kV t.fl d (d.length-1)).to,pC (kI t c d) (Uj c),sk (kI t c d) (crS c)⟩
theorem avX{t:Tt}{c:Ct}(hc:nL c=0){A:List Int}(E:MU A):(∀u∈ruS c,H2 A u.2)∧(∀u∈Uj c,H2 A u.2)∧(∀u∈crS c,H2 A u.2)∧(ruS c).length≤40∧(Uj c).length≤40:=by
 obtain⟨h1,F,H,I,J,K,_⟩:=tg c hc
 unfold ruS Uj crS AI yX T2
 rw[List.take_length,List.take_length,List.take_length]
 refine⟨fun u r=> ?_,fun u r=> ?_,fun u r=> ?_, ?_, ?_⟩
 ·obtain⟨x,D,rfl⟩:=List.mem_map.1 r
  grind [List.mem_filter.1,Uh]
 ·obtain⟨x,D,rfl⟩:=List.mem_map.1 r
  grind [List.mem_filter.1,Uh]
 ·grind [List.mem_map.1,Uh]
 ·grind
 ·grind
section
variable(t:Tt)(c:Ct)(zT aT fT a7 a8 a9 a10 iH iG:T)(vs:List T)(hT:ue t zT aT fT)(hV:ME t c vs)(ht:uf t=0)(hc:nL c=0)(d:List (Int×Bool))(dT:T)(hd:GY d dT)(h1:1≤d.length)(hlen:d.length≤100)(jv: ∀k∈d,yy t.fl.length k.1=true)
include hT ht hd h1 hlen jv
theorem H4: ∃i j r1 r2:_,∃(hi:i<t.fl.length) (r:j<t.fl.length),kV t.fl d 0=t.fl[i]∧kV t.fl d (d.length-1)=t.fl[j]∧(∀kk,ng dT (.i kk 0) 2=some (.vp (.i .i64 (i:Int)::r1)))∧(∀kk,ng dT (.i kk ((d.length-1:Nat):Int)) 2=some (.vp (.i .i64 (j:Int)::r2))):=by
 have _:=hT
 obtain⟨i,hi,F,H,_⟩:=oF (n5 t ht).1 jv (k:=0) (by omega)
 obtain⟨j,r,I,J,_⟩:=oF (n5 t ht).1 jv (k:=d.length-1) (by omega)
 obtain⟨r1,D⟩:=vV hd 0 (by omega)
 obtain⟨r2,E⟩:=vV hd (d.length-1) (by omega)
 rw[F]at D
 rw[I]at E
 exact⟨i,j,_,_,hi,r,H,J,D,E⟩
theorem aaf:be pE 72 [stV c zT aT fT a7 a8 a9 a10 iH iG vs,dT] []=some (.s (kV t.fl d 0).fr,[]):=by
 obtain⟨i,j,r1,r2,hi,F,r,H,D,I⟩:=H4 t zT aT fT hT ht d dT hd h1 hlen jv
 obtain⟨r3,E⟩:=wX t c zT aT fT a7 a8 a9 a10 iH iG vs hT i hi
 rw[r]
 generalize t.fl[i]=f at*
 have Va:=B3 c zT aT fT a7 a8 a9 a10 iH iG vs
 rw[iD aj1 (by simp[c72])]
 simp only[qA,seval,c72,D,E,Va,GC]
theorem ame:be pE 73 [stV c zT aT fT a7 a8 a9 a10 iH iG vs,dT] []=some (.s (kV t.fl d (d.length-1)).to,[]):=by
 obtain⟨i,j,r1,r2,hi,r,J,D,K,E⟩:=H4 t zT aT fT hT ht d dT hd h1 hlen jv
 obtain⟨r3,F⟩:=wX t c zT aT fT a7 a8 a9 a10 iH iG vs hT j r
 rw[D]
 generalize t.fl[j]=f at*
 have H:=ot (k:=d.length) (by omega) (by omega)
 have I:=hd.sl.lenI
 have Va:=B3 c zT aT fT a7 a8 a9 a10 iH iG vs
 rw[iD aj2 (by simp[c73])]
 simp only[qA,seval,c73,I,H,E,F,Va,GC]
include hc
theorem Uk:be pE 71 [stV c zT aT fT a7 a8 a9 a10 iH iG vs,dT] []=some (.agg [.i .i64 (uk c (kV t.fl d 0)),.i .i64 (um c (kV t.fl d (d.length-1)))],[]):=by
 obtain⟨i,j,r1,r2,hi,r,D,F,H,I⟩:=H4 t zT aT fT hT ht d dT hd h1 hlen jv
 have A6:=MS t c zT aT fT a7 a8 a9 a10 iH iG vs hT ht hc i j hi r
 rw[D,F]
 generalize uk c t.fl[i]=S at*
 generalize um c t.fl[j]=E at*
 have J:=ot (k:=d.length) (by omega) (by omega)
 have K:=hd.sl.lenI
 have Va:=B3 c zT aT fT a7 a8 a9 a10 iH iG vs
 rw[iD arW (by simp[c71])]
 simp only[qA,seval,jw,iN,c71,K,J,H,I,A6,Va,WT,ast]
include hV
theorem afj:be pE 44 [stV c zT aT fT a7 a8 a9 a10 iH iG vs,dT] []=some (if pM t c d=true then .tup [.agg (pe (kh t c d) (.sl (nM d) d.length false)),.b true]else .tup [.agg (pe H3 .nilsl),.b false],[]):=by
 obtain⟨s1,D⟩:=amc t c zT aT fT a7 a8 a9 a10 iH iG vs hT hV ht hc d dT hd h1 hlen jv
 have I:=FZ (t:=t) (c:=c) ht hc h1 hlen jv
 have A6:=Uk t c zT aT fT a7 a8 a9 a10 iH iG vs hT ht hc d dT hd h1 hlen jv
 have lS:=aaf t c zT aT fT a7 a8 a9 a10 iH iG vs hT ht d dT hd h1 hlen jv
 have J:=ame t c zT aT fT a7 a8 a9 a10 iH iG vs hT ht d dT hd h1 hlen jv
 obtain⟨g1,g2,g3,g4,g5⟩:=avX (t:=t) hc I
 have kZ:iJ (.sl (ints (kI t c d)) 11 false) (kI t c d).length (ints (kI t c d)):= .inr ⟨false,by rw[I.1]⟩
 obtain⟨q,r1,r2,r3,c1,c2,c3,cr,nb,r,_,_,K,_,_,N,_,_,O⟩:=hV
 have r:vs=PE (.vm (q.map fun p=>sK p.1) (q.map fun p=>T.agg p.2)) r1 r2 r3 c1 c2 c3 cr (.b nb):=r
 have E:=aab c zT aT fT a7 a8 a9 a10 iH iG (.vm (q.map fun p=>sK p.1) (q.map fun p=>T.agg p.2)) r1 r2 r3 c1 c2 c3 cr (.b nb) _ _ kZ (ruS c) K g1 (by omega)
 have X:=aac c zT aT fT a7 a8 a9 a10 iH iG (.vm (q.map fun p=>sK p.1) (q.map fun p=>T.agg p.2)) r1 r2 r3 c1 c2 c3 cr (.b nb) _ _ kZ (Uj c) N g2 (by omega)
 have Y:=aad c zT aT fT a7 a8 a9 a10 iH iG (.vm (q.map fun p=>sK p.1) (q.map fun p=>T.agg p.2)) r1 r2 r3 c1 c2 c3 cr (.b nb) _ _ kZ (crS c) O g3 I.1
 rw[←r]at E X Y
 rw[show uo (kI t c d) (ruS c)=pM t c d from rfl]at E
 have Va:=B3 c zT aT fT a7 a8 a9 a10 iH iG vs
 have U:=fun lh sh=>hd.sl.slC (lh:=lh) (sh:=sh) (ou d)
 have F:=hd.sl.froz
 have Dz:d.length*16≤roomy:=by unfold roomy;omega
 have PF:=ou d
 have W:d.length≠0:=by omega
 have mR:isNe dT=true:=by
  rcases hd.sl with⟨_,h,_⟩|⟨ex,rfl⟩
  ·omega
  ·cases hq:d.length with
   |zero=>omega
   |succ m=>rfl
 obtain⟨n,Z⟩: ∃n,d.length=n+1:=⟨d.length-1,by omega⟩
 have nQ: ∀lh sh,appW lh sh 20 2 16 .nilsl dT=some (.isl .L 20 ((a6 lh 20).g+1) 0 d.length 2,oK lh 20 ⟨(a6 lh 20).g+1,.cells (nM d) 0 false⟩):=fun lh sh=>by
  unfold appW
  rw[U,Option.bind_some,Z,At,if_pos (by rw[←Z];exact Dz)]
 unfold pe kh H3
 generalize uk c (kV t.fl d 0)=x1 at*
 generalize um c (kV t.fl d (d.length-1))=x2 at*
 generalize (kV t.fl d 0).fr=x3 at*
 generalize (kV t.fl d (d.length-1)).to=x4 at*
 generalize pC (kI t c d) (Uj c)=x5 at*
 generalize sk (kI t c d) (crS c)=x6 at*
 generalize stV c zT aT fT a7 a8 a9 a10 iH iG vs=V at*
 have H:froz (T.sl (ints (kI t c d)) 11 false)=true:=rfl
 generalize T.sl (ints (kI t c d)) 11 false=avT at*
 rw[ak8 arw (by simp[c44])]
 cases hb:pM t c d <;> rw[hb]at E
 ·simp only[Bool.false_eq_true,if_false]
  simp only[qA,seval,c44,D,E,H,Va,F,Ui,arT,arV]
 ·simp only[if_true]
  simp only[qA,seval,jw,oW,iN,pd,c44,D,E,H,X,Y,A6,lS,J,Va,F,mR,nQ,arT,arV,aAr,aAs,aAt,aAu,aAv,aAw,aAx,aAy,aAz]
  exact aae (wm:=0) (by simp only[qA,seval]) PF W
end
theorem AS{c:Ct}{fl:List Fl}{d:List (Int×Bool)}(h:se c fl d=0):1≤d.length∧d.length≤6∧(∀k∈d,yy fl.length k.1=true)∧HW c fl d=true:=by
 unfold se at h
 split at h
 ·cases h
 split at h
 ·cases h
 split at h
 ·rename_i a
  split at h
  ·rename_i b;exact⟨by omega,by omega,List.all_eq_true.1 a,b⟩
  ·cases h
 ·cases h
def amg(t:Tt)(c:Ct)(d:List (Int×Bool)):Lg×Int:=if se c t.fl d≠0 then(H3,se c t.fl d)else if pM t c d=true then(kh t c d,0)else(H3,15)
def Ul(t:Tt)(c:Ct)(d:List (Int×Bool)):Lg×Int:=if mi t c≠0 then(H3,mi t c)else amg t c d
def LgT(g:Lg)(v:T):Prop:=iJ v g.du.length (nM g.du)
theorem Rr(t:Tt)(c:Ct)(d:List (Int×Bool)):(kh t c d).du=d:=rfl
section
variable(t:Tt)(c:Ct)(zT aT fT a7 a8 a9 a10 iH iG:T)(vs:List T)(hT:ue t zT aT fT)(hC:uF c a7 a8 a9 a10 iH iG)(hN:U9 c)(d:List (Int×Bool))(dT:T)(hd:GY d dT)(hlen:d.length≤1000)
include hT hd hlen
include hC hN
end
theorem JG{s:List Nat}: ∀{l:List (List Nat)} {k:Nat},s∈l→ ∃i,∃hi:i<l.length,ixA s l k=((k+i:Nat):Int)∧l[i]=s
 | [],k,h=>by cases h
 |x::r,k,h=>by
  rw[ixA]
  by_cases e:x=s
  ·rw[if_pos e];exact⟨0,by simp,rfl,e⟩
  ·rw[if_neg e]
   rcases List.mem_cons.1 h with h|h
   ·grind
   ·obtain⟨i,hi,h1,D⟩:=JG (k:=k+1) h
    exact⟨i+1,by simpa using hi,by rw[h1];congr 1;omega,by simpa using D⟩
section
variable(t:Tt)(c:Ct)(zT aT fT a7 a8 a9 a10 iH iG:T)(hT:ue t zT aT fT)(hC:uF c a7 a8 a9 a10 iH iG)(ht:uf t=0)(hc:nL c=0)
theorem Rs(hT:ue t zT aT fT)(ht:uf t=0){s:List Nat}(hs:s∈t.ap.map Ap.cd): ∃a,be pE 186 [.agg [zT,aT,fT],.s s] []=some (.agg (sF (Dh t s) a),[])∧ZoT (Dh t s) a:=by
 obtain⟨⟨V,r,I⟩,⟨ac,D,J⟩,⟨fc,W,f2⟩⟩:=hT
 obtain⟨_,l1,_,l2⟩:=Pf t ht
 have h1:=aiR s t.ap aT ac D J (by omega)
 obtain⟨i,hi,X,K⟩:=JG (k:=0) hs
 rw[List.length_map]at hi
 rw[List.getElem_map]at K
 have E:=(AK t ht).2.1 t.ap[i] (List.getElem_mem hi)
 have N:=aiS t.ap[i].zn t.zo zT V r I (by omega)
 obtain⟨j,F,Y,O⟩:=JG (k:=0) E
 rw[List.length_map]at F
 rw[List.getElem_map]at O
 rw[X,Nat.zero_add]at h1
 rw[Y,Nat.zero_add]at N
 have Z:=Pw ht (List.getElem_mem hi) (List.getElem_mem F) K O
 obtain⟨r1,h3⟩:=MY D J i hi
 obtain⟨U,sc,r2,h4,H,s2⟩:=H5 r I j F
 rw[Z]
 refine⟨U, ?_,sc,H,s2⟩
 have hn: ¬((i:Nat):Int)<0:=by omega
 generalize t.ap[i]=u at*
 generalize t.zo[j]=z at*
 have h5:be pE 197 [.agg [zT,aT,fT],.s s] []=some (.tup [.agg (sF z U),.b true],[]):=by
  unfold sF
  rw[iD ah4 (by simp[Wy])]
  simp only[qA,seval,jw,iN,Wy,h1,N,h3,h4,hn,H.froz1,r.froz,D.froz,acF,ajT,arN]
 unfold sF at*
 rw[iD Xi (by simp[Ws])]
 simp only[qA,seval,Ws,h5,H.froz1,r.froz1,D.froz1,W.froz1,atf]
end
theorem H6(z:Zo)(a:T)(D:ZoT z a)(E:oB z=0)(t:Int)(ht:ui t=true):be pE 189 [.agg (sF z a),.i .i64 t] []=some (.i .i64 (z.clk t),[]):=by
 have h1:=ZW z a D E t ht
 have r:froz1 a=true:=by obtain⟨H,F,_⟩:=D;exact F.froz1
 unfold sF at*
 rw[iD Xk (by simp[Wv])]
 simp only[qA,seval,Wv,h1,r,ath]
section
variable(t:Tt)(c:Ct)(zT aT fT a7 a8 a9 a10 iH iG:T)(hT:ue t zT aT fT)(hC:uF c a7 a8 a9 a10 iH iG)(ht:uf t=0)(hc:nL c=0)
include hT hC ht hc
theorem aai(f g:Fl)(X:f∈t.fl)(Y:g∈t.fl):be pE 170 [.agg [zT,aT,fT],.agg (jb c a7 a8 a9 a10 iH iG),.s f.fr,.s g.to,.agg [.i .i64 (uk c f),.i .i64 (um c g)]] []=some (.tup [.i .i64 (um c g-uk c f),.i .i64 (Jx t c f g),.i .i64 (MQ t c f g),.i .i64 (Px t c f),.i .i64 (Py t c g)],[]):=by
 have H:=DD t c zT aT fT a7 a8 a9 a10 iH iG hT hC
 obtain⟨b1,b2,_,_,w3⟩:=MR hc ((n5 t ht).1 _ X) ((n5 t ht).1 _ Y)
 obtain⟨Z,I,NX⟩:=Rs t zT aT fT hT ht (oR ht X).1
 obtain⟨zb,J,r⟩:=Rs t zT aT fT hT ht (oR ht Y).2
 have K:=B6 ht (oR ht X).1
 have W:=B6 ht (oR ht Y).2
 have nf:=Rk hc
 have i1:=DI (x:=uk c f) (by omega)
 have i2:=DI (x:=um c g) (by omega)
 have o1:=vF _ Z NX (oS K).2.1 K (uk c f)
 have o2:=vF _ zb r (oS W).2.1 W (um c g)
 have l1:=H6 _ Z NX K _ i1
 have l2:=H6 _ zb r W _ i2
 have d1:=Zo.off_bd K (uk c f)
 have d2:=Zo.off_bd W (um c g)
 have bm:uk c f≤um c g→_:=fun h=>al3 _ Z NX K (uk c f) (um c g) c.nf c.nt ⟨by omega,by omega,by omega,by omega,by omega,by omega,by omega⟩
 have hni:Jx t c f g=if uk c f≤um c g then(Dh t f.fr).bandM (uk c f) (um c g) c.nf c.nt else 0:=by
  grind [Jx,Zo.bandM,xJ]
 have N:=NX.choose_spec.1.froz1
 have O:=r.choose_spec.1.froz1
 have ca:=NX.choose_spec.1.cells
 have cb:=r.choose_spec.1.cells
 rw[hni]
 unfold MQ Px Py
 generalize uk c f=S at*
 generalize um c g=E at*
 generalize Dh t f.fr=D at*
 generalize Dh t g.to=F at*
 have w4:wr .i64 (F.off E-D.off S)=F.off E-D.off S:=jE (by omega)
 have w5:wr .i64 (0-(F.off E-D.off S))=D.off S-F.off E:=by rw[jE (by omega)];omega
 have U:max (F.off E-D.off S) (D.off S-F.off E)=max (D.off S-F.off E) (F.off E-D.off S):=by omega
 generalize D.off S=p1 at*
 generalize F.off E=p2 at*
 unfold sF jb at*
 rw[iD Xd (by simp[SG])]
 by_cases V:S≤E
 ·have bm:=bm V
  rw[if_pos V]
  simp only[qA,seval,jw,oW,iN,SG,I,J,w3,w4,w5,V,bm,o1,o2,l1,l2,uj,U,N,O,H,ahU,ahV,ahX,LD,ahY,ahZ,ah0]
 ·rw[if_neg V]
  simp only[qA,seval,jw,oW,iN,SG,I,J,w3,w4,w5,V,o1,o2,l1,l2,uj,U,N,O,H,ahU,ahV,ahX,LD,ahY,ahZ,ah0]
end
def qf(l:List (List Nat×Int)):List T:=l.flatMap fun p=> [.s p.1,.i .i64 p.2]
theorem aaj(l:List (List Nat×Int)):(qf l).length=l.length*2:=tU (sz:=2) (fun _=>rfl) l
theorem aak(l:List (List Nat×Int))(p:List Nat×Int):qf l++ [.s p.1,.i .i64 p.2]=qf (l++ [p]):=by unfold qf;rw[List.flatMap_append];rfl
def nI(A:List Int):List (List Nat×Int):=jI.zip A
theorem ints_at{A:List Int}{v:T}(h:iJ v A.length (ints A))(k:Nat)(D:k<A.length): ∃r,∀kk,ng v (.i kk (k:Int)) 1=some (.vp (.i .i64 A[k]::r)):=by
 refine⟨(ints A).drop (k+1),fun kk=> ?_⟩
 rw[h.ia (sz:=1) (by rw[kb];omega) D,Nat.mul_one,pa A k D]
theorem aal(k:Nat)(D:k<11): ∃r,∀kk,ng (.sl (strs jI) 11 true) (.i kk (k:Int)) 1=some (.vp (.s (jI[k]'(by show k<11;exact D))::r)):=by
 have hs:iJ (.sl (strs jI) 11 true) 11 (strs jI):= .inr ⟨true,rfl⟩
 refine⟨(strs jI).drop (k+1),fun kk=> ?_⟩
 rw[hs.ia (sz:=1) rfl D,Nat.mul_one,List.drop_eq_getElem_cons (by show k<11;exact D)]
 unfold strs
 rw[List.getElem_map]
theorem aCv(A:List Int)(v:T)(K:A.length=11)(N:iJ v A.length (ints A))(fr:Fr)(lh:iL iy)(sh:List iy)(h1:an fr 1=v)(H:an fr 5= .nilsl)(D:an fr 6= .sl (strs jI) 11 true)(E:an fr 7= .i .i64 0):
  qG 29 uP fr lh sh (.ext 0)∧
  (jr (nh pE 29 uP fr lh sh) (an (pb pE 29 uP fr lh sh) 5) 27 2 11 (qf (nI A))∧nB pE 29 uP fr lh sh=sh):=by
 refine ll (fun k st=> ∃(fr:Fr) (lh:iL iy),st=⟨fr,lh,sh⟩∧an fr 1=v∧an fr 6= .sl (strs jI) 11 true∧an fr 7= .i .i64 (k:Int)∧jr lh (an fr 5) 27 2 k (qf ((nI A).take k)))
  (fun O U V=>jr U (an O 5) 27 2 11 (qf (nI A))∧V=sh) _ 11 ?_ ?_ fr lh sh ⟨fr,lh,rfl,h1,D,E,by rw[H];exact jr.nil⟩
 ·rintro k _ I ⟨fr,lh,rfl,h1,D,E,r⟩
  have W:(k:Int)<11:=by omega
  have X:=iX (k:=k) (by omega)
  obtain⟨r1,Vd⟩:=aal k I
  obtain⟨r2,Te⟩:=ints_at N k (by omega)
  have CG:(nI A).length=11:=by unfold nI;rw[List.length_zip,K];rfl
  have Y:qf ((nI A).take (k+1))=qf ((nI A).take k)++ [.s (jI[k]'(by show k<11;exact I)),.i .i64 (A[k]'(by omega))]:=by
   rw[List.take_succ_eq_append_getElem (by omega),←aak]
   unfold nI
   rw[List.getElem_zip]
  rw[Y]
  generalize jI[k]'(by show k<11;exact I)=nm at*
  generalize A[k]'(by omega)=x at*
  have J:=qM (sh:=sh) r [.s nm,.i .i64 x] rfl (bytes:=24) (by unfold roomy;omega) true
  have DK:=r.notS
  have F:=sa r rfl
  generalize H:an fr 5=v5 at r J DK F
  simp only[qA,seval,repl,jw,iN,pd,uP,h1,H,D,E,W,Vd,Te,X,DK,F,J.1]
  exact kA ⟨_,_,rfl,by simp only[qA,seval,h1],by simp only[qA,seval,D],by simp only[qA,seval],by simp only[qA,seval];exact J.2.1⟩
 ·rintro _ ⟨fr,lh,rfl,h1,D,E,r⟩
  have CG:(nI A).length=11:=by unfold nI;rw[List.length_zip,K];rfl
  rw[List.take_of_length_le (by omega)]at r
  simp only[qA,seval,uP,D,E,Int.lt_irrefl]
  exact mf ⟨rfl,by simp only[qA,seval];exact r,rfl⟩
theorem Um(A:List Int)(v:T)(H:A.length=11)(I:iJ v A.length (ints A)):be pE 171 [.i .i64 1,v] []=some (.sl (qf (nI A)) 11 false,[]):=by
 have F:=fun fr lh sh h1 r D E=>aCv A v H I fr lh sh h1 r D E
 have J:=fun m keep fr lh sh h1 r D E=>jr.fzW (m:=m) (keep:=keep) (sh:=sh) (F fr lh sh h1 r D E).2.1
 have MP:=fun keep fr lh sh h1 r D E=>jr.fzV (keep:=keep) (sh:=sh) (F fr lh sh h1 r D E).2.1
 have K:ku 11 (qf (nI A))= .sl (qf (nI A)) 11 false:=rfl
 rw[K]at J MP
 rw[iD ahD (by simp[Wm])]
 simp only[qA,seval,Wm,FB,F,MP,yU,EC]
theorem afk(l:List (List Nat))(k:Nat)(r:k<l.length):(l.map T.s)[k]? =some (.s l[k]):=by rw[List.getElem?_map,List.getElem?_eq_getElem r];rfl
theorem aCw(f:Fl)(ks:List (List Nat))(hlen:ks.length≤1000)(g:Nat)(fr:Fr)(lh:iL iy)(sh:List iy)(r:jr lh (an fr 12) 98 1 ks.length (ks.map T.s))(K:an fr 14= .ptr .L 14 g 0)(N:an fr 16= .b false)(O:an fr 17= .i .i64 0)(E:a6 lh 14=⟨g,.cells (G1 f) 0 true⟩):
  Lp pE 134 zJ fr lh sh (.ext 2) fun D l s=>an D 16= .b (decide (f.ty∈ks))∧l=lh∧s=sh:=by
 unfold G1 at E
 have F:=r.lenI
 refine kO BE (fun k D l s=>an D 16= .b (decide (f.ty∈ks.take k))∧an D 17= .i .i64 (k:Int)∧l=lh∧s=sh) ks.length ⟨by rw[N];simp,O,rfl,rfl⟩ ?_ ?_
 ·rintro k D _ _ H I ⟨DM,JH,rfl,rfl⟩
  have U:(k:Int)<ks.length:=by omega
  have V:=iX (k:=k) (by omega)
  rcases r with⟨h,_,_⟩|⟨g2,wm,r,o98,hl,hp⟩
  ·omega
  have Al:=afk ks k H
  have W:decide (f.ty∈ks.take (k+1))=(decide (f.ty∈ks.take k)||decide (ks[k]=f.ty)):=by
   rw[List.take_succ_eq_append_getElem H]
   grind
  rw[r]at F
  cases J:decide (f.ty∈ks.take k) <;> rw[J]at DM <;> simp only[qA,seval,gd,zJ,I,r,K,DM,JH,E,o98,F,U,H,Al,V,W,J,Bool.false_or,Bool.true_or]
 ·rintro D _ _ I ⟨DM,JH,rfl,rfl⟩
  rw[List.take_length]at DM
  simp only[qA,seval,gd,zJ,I,DM,JH,F,Int.lt_irrefl]
section
variable(t:Tt)(c:Ct)(zT aT fT a7 a8 a9 a10 iH iG:T)(hT:ue t zT aT fT)(hC:uF c a7 a8 a9 a10 iH iG)(ht:uf t=0)(hc:nL c=0)
theorem aCx(hT:ue t zT aT fT)(ht:uf t=0)(d:List (Int×Bool))(dT:T)(hd:GY d dT)(hlen:d.length≤100)(jv: ∀k∈d,yy t.fl.length k.1=true)(E4:iy)(fr:Fr)(lh:iL iy)(sh:List iy)(h2:an fr 2=dT)(h3:an fr 3= .ptr .L 3 1 0)(h4:an fr 4= .ptr .L 4 1 0)(H:an fr 7= .i .i64 0)(I:an fr 8= .i .i64 0)(J:an fr 9= .i .i64 0)(r:an fr 10= .i .i64 0)(D:an fr 11= .i .i64 1440)(h12:an fr 12= .nilsl)(K:an fr 13= .i .i64 0)(N:a6 lh 3=⟨1,.cells [zT,aT,fT] 0 true⟩)(O:a6 lh 4=E4):
  Lp pE 134 xl fr lh sh (.ext 0) fun f l s=>an f 7= .i .i64 (sA t.fl d d.length).lg∧an f 8= .i .i64 (sA t.fl d d.length).hd∧an f 9= .i .i64 (sA t.fl d d.length).bk∧an f 10= .i .i64 (sA t.fl d d.length).lo∧an f 11= .i .i64 (sA t.fl d d.length).so∧lenI (an f 12)=some (.i .i64 ((sA t.fl d d.length).ks.length:Int))∧a6 l 3=⟨1,.cells [zT,aT,fT] 0 true⟩∧a6 l 4=E4∧s=sh:=by
 have lV:=hd.sl.lenI
 refine kO Hi (fun k f l s=>an f 7= .i .i64 (sA t.fl d k).lg∧an f 8= .i .i64 (sA t.fl d k).hd∧an f 9= .i .i64 (sA t.fl d k).bk∧an f 10= .i .i64 (sA t.fl d k).lo∧an f 11= .i .i64 (sA t.fl d k).so∧an f 13= .i .i64 (k:Int)∧jr l (an f 12) 98 1 (sA t.fl d k).ks.length ((sA t.fl d k).ks.map T.s)∧a6 l 3=⟨1,.cells [zT,aT,fT] 0 true⟩∧a6 l 4=E4∧s=sh) d.length ⟨H,I,J,r,D,K,by rw[h12];exact jr.nil,N,O,rfl⟩ ?_ ?_
 ·rintro k U l _ hk pr ⟨H,I,J,r,D,K,E,N,O,rfl⟩
  have iU:(k:Int)<d.length:=by omega
  have hw:=iX (k:=k) (by omega)
  have yq:=(n5 t ht).1
  obtain⟨rr,iW⟩:=vV hd k hk
  obtain⟨i,hi,ei,ef,V⟩:=oF yq jv hk
  obtain⟨fc,W,X⟩:=hT.f
  obtain⟨r2,F⟩:=uh W X i hi
  rw[←ef]at F
  obtain⟨c1,c2,c3,c4,c5,c6⟩:=Jz yq jv k (by omega)
  have mI:sA t.fl d (k+1)=if k=0 then Vb (kV t.fl d k) d[k].2 (sA t.fl d k)else cnG (kV t.fl d (k-1)) (kV t.fl d k) (Vb (kV t.fl d k) d[k].2 (sA t.fl d k)):=by rw[sA,PA hk]
  have nQ:=fun(je:iL iy) (jk:List iy) (e:a6 je 98=a6 l 98)=>qM (sh:=jk) (E.congr e) [.s (kV t.fl d k).ty] rfl (bytes:=16) (aiO (by omega)) true
  have DK:=E.notS
  rw[ei]at iW
  obtain⟨_,f1,f2,f3,f4⟩:=id V
  obtain⟨G,hG⟩: ∃G,(a6 l 14).g+1=G:=⟨_,rfl⟩
  have hD:=aCw (kV t.fl d k) (sA t.fl d k).ks (by omega) G
  unfold G1 at hD
  generalize Y:an U 12=v12 at E nQ DK
  generalize sA t.fl d k=s at*
  have w1:wr .i64 (s.lg+1)=s.lg+1:=jE (by omega)
  have w2:wr .i64 (s.hd+1)=s.hd+1:=jE (by omega)
  have w3:wr .i64 (s.bk+(kV t.fl d k).ar)=s.bk+(kV t.fl d k).ar:=jE (by omega)
  have w4:wr .i64 (s.bk+(kV t.fl d k).ar-(kV t.fl d k).dp)=s.bk+((kV t.fl d k).ar-(kV t.fl d k).dp):=by rw[jE (by omega)];omega
  have Z:adK (kV t.fl d k).ty s.ks=if(kV t.fl d k).ty∈s.ks then s.ks else s.ks++ [(kV t.fl d k).ty]:=rfl
  by_cases JB:k=0
  ·have MT: ¬(0:Int)<(k:Int):=by omega
   rw[mI,if_pos JB]
   generalize kV t.fl d k=f at*
   generalize d[k].2=b at*
   cases b <;> by_cases hm:f.ty∈s.ks <;> simp only[qA,seval,gd,jw,oW,iN,repl,xl,BE,pr,h2,h3,H,I,J,r,D,K,Y,N,O,lV,iU,hw,iW,F,w1,w2,w3,w4,MT,hG,hD,xF,E,hm,Z,Vb,DK,nQ,List.length_append,List.map_append]
  ·have MT:(0:Int)<(k:Int):=by omega
   have Jt:=ot (k:=k) (by omega) (by omega)
   obtain⟨r3,N7⟩:=vV hd (k-1) (by omega)
   obtain⟨j,hj,ej,eg,gok⟩:=oF yq jv (k:=k-1) (by omega)
   obtain⟨r4,hfb⟩:=uh W X j hj
   rw[←eg]at hfb
   rw[ej]at N7
   have gap:=Pz V gok
   have w5:wr .i64 ((kV t.fl d k).dp-(kV t.fl d (k-1)).ar)=(kV t.fl d k).dp-(kV t.fl d (k-1)).ar:=jE (by omega)
   rw[mI,if_neg JB]
   generalize kV t.fl d k=f at*
   generalize kV t.fl d (k-1)=g at*
   generalize d[k].2=b at*
   cases b <;> by_cases hm:f.ty∈s.ks <;> simp only[qA,seval,gd,jw,oW,iN,repl,xl,BE,pr,h2,h3,H,I,J,r,D,K,Y,N,O,lV,iU,hw,iW,F,w1,w2,w3,w4,MT,hG,hD,xF,E,hm,Z,cnG,Vb,DK,nQ,List.length_append,List.map_append,uj,wV,N7,hfb,Jt,w5]
 ·rintro U l _ pr ⟨H,I,J,r,D,K,E,N,O,rfl⟩
  simp only[qA,seval,gd,xl,pr,h2,H,I,J,r,D,K,E.lenI,N,O,lV,Int.lt_irrefl]
end
end Go.Proofs.YtjniffjppoklpaaGreat
