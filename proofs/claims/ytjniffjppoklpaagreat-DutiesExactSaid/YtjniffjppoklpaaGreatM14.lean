/- Walks of functions of the program and of the reference, and their plain laws, part 14. Conditions: the theorems' own. -/
import Derived.Test.YtjniffjppoklpaaGreatM13
import Derived.KernelRfl
set_option maxRecDepth 100000
set_option linter.unusedSimpArgs false
set_option linter.unusedVariables false
set_option maxHeartbeats 16000000
namespace Go.Proofs.YtjniffjppoklpaaGreat
open Go Go.Ev
section
variable(t:Tt)(c:Ct)(zT aT fT a7 a8 a9 a10 iH iG:T)(hT:ue t zT aT fT)(hC:uF c a7 a8 a9 a10 iH iG)(ht:uf t=0)(hc:nL c=0)(d:List (Int×Bool))(dT:T)(hd:GY d dT)(h1:1≤d.length)(hlen:d.length≤100)(jv: ∀k∈d,yy t.fl.length k.1=true)
include hT ht hd h1 hlen jv
theorem H7:be pE 114 [.agg [zT,aT,fT],dT] []=some (.agg (G1 (kV t.fl d 0)),[]):=by
 obtain⟨i,j,I,J,hi,K,r,N,D,O⟩:=H4 t zT aT fT hT ht d dT hd h1 hlen jv
 obtain⟨⟨U,V,W⟩,⟨ac,X,Y⟩,⟨Z,E,F⟩⟩:=hT
 obtain⟨r3,H⟩:=uh E F i hi
 rw[r]
 generalize t.fl[i]=f at*
 unfold G1
 rw[iD WV (by simp[VS])]
 simp only[qA,seval,jw,iN,VS,D,H]
theorem MZ:be pE 115 [.agg [zT,aT,fT],dT] []=some (.agg (G1 (kV t.fl d (d.length-1))),[]):=by
 obtain⟨i,j,N,O,hi,r,U,D,V,E⟩:=H4 t zT aT fT hT ht d dT hd h1 hlen jv
 obtain⟨⟨W,X,Y⟩,⟨ac,Z,b2⟩,⟨fc,F,H⟩⟩:=hT
 obtain⟨r3,I⟩:=uh F H j r
 rw[D]
 generalize t.fl[j]=f at*
 have J:=ot (k:=d.length) (by omega) (by omega)
 have K:=hd.sl.lenI
 unfold G1
 rw[iD WW (by simp[VT])]
 simp only[qA,seval,jw,iN,VT,K,J,E,I]
include hC hc
theorem M4:be pE 77 [.agg [zT,aT,fT],.agg (jb c a7 a8 a9 a10 iH iG),dT] []=some (.agg [.i .i64 (uk c (kV t.fl d 0)),.i .i64 (um c (kV t.fl d (d.length-1)))],[]):=by
 have H:=DD t c zT aT fT a7 a8 a9 a10 iH iG hT hC
 have Ay:=H7 t zT aT fT hT ht d dT hd h1 hlen jv
 have Zm:=MZ t zT aT fT hT ht d dT hd h1 hlen jv
 obtain⟨_,_,_,_,r⟩:=oF (n5 t ht).1 jv (k:=0) (by omega)
 obtain⟨_,_,_,_,D⟩:=oF (n5 t ht).1 jv (k:=d.length-1) (by omega)
 obtain⟨_,_,I,J,_⟩:=MR hc r D
 generalize kV t.fl d 0=f at*
 generalize kV t.fl d (d.length-1)=g at*
 generalize uk c f=S at*
 generalize um c g=E at*
 have F:=hd.sl.froz
 unfold G1 jb at*
 rw[iD aj7 (by simp[c77])]
 simp only[qA,seval,jw,iN,c77,Ay,Zm,I,J,H,F,agD,agE,agF,agG]
theorem amh:be pE 147 [.agg [zT,aT,fT],.agg (jb c a7 a8 a9 a10 iH iG),dT] []=some (.sl (qf (nI (kI t c d))) 11 false,[]):=by
 have I:=DD t c zT aT fT a7 a8 a9 a10 iH iG hT hC
 have Ay:=H7 t zT aT fT hT ht d dT hd h1 hlen jv
 have Zm:=MZ t zT aT fT hT ht d dT hd h1 hlen jv
 have A6:=M4 t c zT aT fT a7 a8 a9 a10 iH iG hT hC ht hc d dT hd h1 hlen jv
 obtain⟨i,hi,_,J,_⟩:=oF (n5 t ht).1 jv (k:=0) (by omega)
 obtain⟨j,K,_,N,_⟩:=oF (n5 t ht).1 jv (k:=d.length-1) (by omega)
 have r:=aai t c zT aT fT a7 a8 a9 a10 iH iG hT hC ht hc (kV t.fl d 0) (kV t.fl d (d.length-1)) (by rw[J];exact List.getElem_mem hi) (by rw[N];exact List.getElem_mem K)
 have hL:=fun E4 fr lh sh O U V W X Y D E F Z o3 o4=>aCx t zT aT fT hT ht d dT hd hlen jv E4 fr lh sh O U V W X Y D E F Z o3 o4
 have kZ:=Um (kI t c d) (.sl (ints (kI t c d)) 11 true) rfl (.inr ⟨true,rfl⟩)
 have H:=hd.sl.froz
 unfold kI at*
 generalize sA t.fl d d.length=s at*
 generalize kV t.fl d 0=f at*
 generalize kV t.fl d (d.length-1)=g at*
 unfold ints at kZ
 simp only[List.map_cons,List.map_nil]at kZ
 generalize qf _=AC at*
 unfold G1 jb at*
 rw[iD ahf (by simp[Wc])]
 simp only[qA,seval,repl,jw,iN,Wc,Hi,hL,Ay,Zm,A6,r,kZ,I,H,agD,agE,agF,agG,arX,aAA,as0,as1,as2]
end
section
variable(t:Tt)(c:Ct)(zT aT fT a7 a8 a9 a10 iH iG:T)(hT:ue t zT aT fT)(hC:uF c a7 a8 a9 a10 iH iG)(hN:U9 c)(hL: ∀f∈t.fl,f.nu.length≤mh)(d:List (Int×Bool))(dT:T)(hd:GY d dT)(hlen:d.length≤1000)
include hT hC hN hL hd hlen
theorem Rt: ∃v,be pE 112 [.agg [zT,aT,fT],.agg (jb c a7 a8 a9 a10 iH iG),dT] []=some (.tup [v,.i .i64 (if mi t c≠0 then mi t c else se c t.fl d)],[])∧((if mi t c≠0 then mi t c else se c t.fl d)=0→v= .sl (qf (nI (kI t c d))) 11 false)∧froz1 v=true:=by
 have I:=DD t c zT aT fT a7 a8 a9 a10 iH iG hT hC
 have F:=afa t c zT aT fT a7 a8 a9 a10 iH iG hT hC hN hL d dT hd hlen
 have D:=hd.sl.froz
 by_cases r:(if mi t c≠0 then mi t c else se c t.fl d)=0
 ·have E:mi t c=0:=by
   by_cases h:mi t c=0
   ·exact h
   ·rw[if_pos h]at r;exact r
  have hs:se c t.fl d=0:=by rw[if_neg (by simp[E])]at r;exact r
  obtain⟨ht,hc⟩:=Pp t c zT aT fT a7 a8 a9 a10 iH iG hT hC hN E
  obtain⟨h1,J,jv,_⟩:=AS hs
  have H:=amh t c zT aT fT a7 a8 a9 a10 iH iG hT hC ht hc d dT hd h1 (by omega) jv
  rw[r]at F ⊢
  refine⟨_, ?_,fun _=>rfl,rfl⟩
  rw[iD WU (by simp[Oe])]
  unfold jb at*
  simp only[qA,seval,Oe,F,H,I,D,ahe,asJ]
 ·generalize (if mi t c≠0 then mi t c else se c t.fl d)=e at*
  refine⟨.nilsl, ?_,fun h=>absurd h r,rfl⟩
  rw[iD WU (by simp[Oe])]
  unfold jb at*
  simp only[qA,seval,Oe,F,r,I,D,ahe]
end
theorem JI{l:List (List Nat×Int)}{v:T}(h:iJ v l.length (qf l))(j:Nat)(D:j<l.length): ∃r,∀kk,ng v (.i kk (j:Int)) 2=some (.vp (.s l[j].1:: .i .i64 l[j].2::r)):=by
 refine⟨qf (l.drop (j+1)),fun kk=> ?_⟩
 rw[h.ia (aaj l) D]
 simp_all[qf,BW]
theorem aCy(s:List Nat)(l:List (List Nat×Int))(a:T)(H:iJ a l.length (qf l))(hlen:l.length≤1000)(r:Int)(D:r=ixA s (l.map Prod.fst) 0)(o:Out)(K:o=if r<0 then .ext 0 else .ret)(fr:Fr)(lh:iL iy)(sh:List iy)(E:an fr 0=a)(h1:an fr 1= .s s)(F:an fr 5= .i .i64 0):
  qG 20 xo fr lh sh o∧
  ((¬r<0→an (pb pE 20 xo fr lh sh) 4= .i .i64 r)∧nB pE 20 xo fr lh sh=sh):=by
 refine ll (fun k st=> ∃(fr:Fr) (lh:iL iy),st=⟨fr,lh,sh⟩∧r=ixA s ((l.drop k).map Prod.fst) k∧an fr 0=a∧an fr 1= .s s∧an fr 5= .i .i64 (k:Int))
  (fun N X O=>(¬r<0→an N 4= .i .i64 r)∧O=sh) _ l.length ?_ ?_ fr lh sh ⟨fr,lh,rfl,D,E,h1,F⟩
 ·rintro k _ J ⟨fr,lh,rfl,D,E,h1,F⟩
  have U:(k:Int)<l.length:=by omega
  have V:=iX (k:=k) (by omega)
  obtain⟨Y,W⟩:=JI H k J
  have I:=H.lenI
  rw[List.drop_eq_getElem_cons J,List.map_cons,ixA]at D
  generalize l[k]=y at*
  simp only[qB,seval,xo,E,h1,F,I,U,W,V]
  refine vv (fun h=> ?_) (fun h=> ?_)
  ·rw[if_pos h]at D
   exact yS ⟨by rw[K,if_neg (by omega)],fun _=>(by simp only[qA,seval,D]),rfl⟩
  ·rw[if_neg h]at D
   exact kA ⟨_,_,rfl,D,by simp only[qA,seval,E],by simp only[qA,seval,h1],by simp only[qA,seval]⟩
 ·rintro _ ⟨fr,lh,rfl,D,E,h1,F⟩
  rw[List.drop_length,List.map_nil,ixA]at D
  have I:=H.lenI
  simp only[qA,seval,xo,E,F,I,Int.lt_irrefl]
  grind [mf]
theorem Rv(s:List Nat)(l:List (List Nat×Int))(a:T)(r:iJ a l.length (qf l))(hlen:l.length≤1000):be pE 150 [a,.s s] []=some (.i .i64 (ixA s (l.map Prod.fst) 0),[]):=by
 have hL:=fun fr lh sh D h1 E=>aCy s l a r hlen _ rfl _ rfl fr lh sh D h1 E
 have PB:=FW s (l.map Prod.fst) 0
 rw[iD ahh (by simp[Sx])]
 generalize ixA s (l.map Prod.fst) 0=v at*
 by_cases h:v<0
 ·have e:=PB h
  subst e
  simp only[qA,seval,Sx,hL]
 ·simp only[h,if_false,not_false_eq_true,forall_const]at hL
  simp only[qA,seval,Sx,hL]
theorem afm(k n:Int)(h:FX k n)(D:k≠4):be pE 172 [.i .i64 k,.i .i64 n] []=some (.i .i64 n,[]):=by
 rw[iD ahE (by simp[Oi])]
 have ls:bd n→be pE 191 [.i .i64 n] []=some (.i .i64 n,[]):=by
  intro r
  have e:max (-1099511627776) (min 1099511627776 n)=n:=by unfold bd at r;omega
  rw[iD Xl (by simp[Ok])]
  simp only[qA,seval,Ok,uj,wV,e]
 rcases h with⟨h1|h1,h2⟩|⟨h1,h2,h3⟩|⟨h1,h2⟩
 ·have hc:=ls h2
  subst h1
  simp only[qA,seval,Oi,hc,ED]
 ·have hc:=ls h2
  subst h1
  simp only[qA,seval,Oi,hc,ED]
 ·have hs:=B5 n (by unfold CX;omega)
  have e:n%1440=n:=by omega
  rw[e]at hs
  subst h1
  simp only[qA,seval,Oi,hs,Qp]
 ·grind
theorem Un(s:List Nat):rj s≠4:=by
 grind [rj]
theorem Uo{l:List (List Nat)}(h:l.Nodup){i j:Nat}(hi:i<l.length)(r:j<l.length)(e:l[i]=l[j]):i=j:=by
 rcases Nat.lt_trichotomy i j with h1|h1|h1
 ·exact absurd e (List.pairwise_iff_getElem.1 h i j hi r h1)
 ·exact h1
 ·exact absurd e.symm (List.pairwise_iff_getElem.1 h j i r hi h1)
theorem Uq{s:List Nat}{i:Nat}(h:Oa 1 s=some i):i<11∧ixA s jI 0=(i:Int):=by
 have h1:jI[i]? =some s:=PC h
 obtain⟨hi,e⟩:=List.getElem?_eq_some_iff.1 h1
 obtain⟨j,r,D,E⟩:=JG (k:=0) (List.mem_of_getElem? h1)
 have:j=i:=Uo M5 r hi (by rw[E,e])
 exact⟨hi,by rw[D,this];simp⟩
section
variable(l:Cs)(lT vT oG:T)(cl:List T)(A:List Int)(hl:iJ lT l.length cl)(ls:lB l cl)(hlen:l.length≤pG)(hv:iJ vT l.length (ints (uG l l.length)))(hA:MU A)(kZ:iJ oG 11 (qf (nI A)))
def av1(y:Ex):Prop:= ∀k cs,mE y cs→y.nodes≤100000→y.wf=true→y.ty (Rn (JC l) 1) 0=(k,0)→be pE 149 [vT,lT,.i .i64 1,oG,.agg cs] []=some (.i .i64 (y.val0 (wk (nH l) 1 A)),[])
include hl hv kZ
theorem aCz(xs:List Ex)(ih: ∀y∈xs,av1 l lT vT oG A y)(a:T)(V:List T)(K:iJ a xs.length V)(Y:kz xs V)(hn:jX xs≤100000)(Z:zq xs=true)(ts:List Int)(oh:qI (Rn (JC l) 1) 0 xs= .ok ts)(op num:Int)(s:List Nat)(g:Nat)(fr:Fr)(lh:iL iy)(sh:List iy)
  (E:an fr 0=vT) (h1:an fr 1=lT) (F:an fr 2= .i .i64 1) (H:an fr 3=oG) (r:an fr 9= .ptr .L 9 g 0) (N:an fr 13= .nilsl) (I:an fr 14= .i .i64 0) (O:a6 lh 9=⟨g,.cells [.i .i64 op,.i .i64 num,.s s,a] 0 true⟩):
  qG 70 mV fr lh sh (.ext 0)∧
  (jr (nh pE 70 mV fr lh sh) (an (pb pE 70 mV fr lh sh) 13) 63 1 xs.length (ints (la (wk (nH l) 1 A) xs))∧a6 (nh pE 70 mV fr lh sh) 9=a6 lh 9∧nB pE 70 mV fr lh sh=sh):=by
 refine jh (P:=fun jB W jk=>jr W (an jB 13) 63 1 xs.length (ints (la (wk (nH l) 1 A) xs))∧a6 W 9=a6 lh 9∧jk=sh)
  (jx (fun k st=> ∃(fr:Fr) (J:iL iy),st=⟨fr,J,sh⟩∧an fr 0=vT∧an fr 1=lT∧an fr 2= .i .i64 1∧an fr 3=oG∧an fr 9= .ptr .L 9 g 0∧an fr 14= .i .i64 (k:Int)∧a6 J 9=a6 lh 9∧
    jr J (an fr 13) 63 1 k (ints (la (wk (nH l) 1 A) (xs.take k)))) _ xs.length ?_ ?_ 0 _ (Nat.zero_le _) ⟨fr,lh,rfl,E,h1,F,H,r,I,rfl,by rw[N];exact jr.nil⟩)
 ·rintro k _ DN ⟨fr,J,rfl,E,h1,F,H,r,I,Ur,D⟩
  left
  rw[O]at Ur
  have iU:(k:Int)<xs.length:=by omega
  have Ff:=kB xs
  have hyk:=nz (List.getElem_mem DN)
  have hw:=iZ (k:=k) (lK (by omega))
  obtain⟨b,cb,rr,iW,lE,uE,hb⟩:=nY K Y k DN
  obtain⟨t,ht⟩:=JJ oh k DN
  have X:=ih xs[k] (List.getElem_mem DN) t _ hb (by omega) (xG.1 Z _ (List.getElem_mem DN)) ht
  have U:=pD D (lK (by omega)) (sh:=sh) (T.i .i64 (xs[k].val0 (wk (nH l) 1 A))) true
  have mI:la (wk (nH l) 1 A) (xs.take (k+1))=la (wk (nH l) 1 A) (xs.take k)++ [xs[k].val0 (wk (nH l) 1 A)]:=by
   grind [List.take_succ_eq_append_getElem,ur]
  generalize xs[k].val0 (wk (nH l) 1 A)=q at X U mI
  generalize N:an fr 13=v13 at D U
  simp only[qA,seval,repl,mV,E,h1,F,H,r,N,I,Ur,K.lenI,iU,iW,hw,X,Ho,lE.froz1,hv.froz,hl.froz,kZ.froz,D.notS,U.1]
  refine⟨_,rfl,_,_,rfl, ?_, ?_, ?_, ?_, ?_, ?_, ?_, ?_⟩
  all_goals first|(simp only[qA,seval,E,h1,F,H,r];done)|skip
  ·grind
  ·simp only[qA,seval]
   grind [uu]
 ·rintro _ ⟨fr,J,rfl,E,h1,F,H,r,I,Ur,D⟩
  rw[O]at Ur
  rw[List.take_length]at D
  simp only[qA,seval,mV,r,I,Ur,K.lenI,Int.lt_irrefl]
  refine⟨_,_,oH,rfl,rfl, ?_,by rw[Ur,O],rfl⟩
  simp only[qA,seval]
  exact D
include ls hlen hA
theorem amj(x:Ex):av1 l lT vT oG A x:=by
 induction x using Ex.ind with
 |h x ih=>
  intro k cs hx hn uq ht
  obtain⟨a,cc,rfl,ha,zr⟩:=hx.cells
  obtain⟨h1,F,r,JK,AU,Dd⟩:=xK uq
  have hnd:=x.nodes_eq
  rw[iD Hn (by simp[C6]),Ex.val0_eq]
  by_cases D:x.op=6
  ·rw[if_pos D]
   have r:=AG 1 x.name
   unfold ua at r
   by_cases E:lu 1 x.name=0
   ·rw[if_pos E]at r
    rw[Ex.ty_eq,if_pos D,if_neg (by simp[nN])]at ht
    unfold Rn at ht
    rw[if_neg (by simp[E])]at ht
    rw[←B1]at ht
    obtain⟨i,rW,H,G2,_⟩:=xL (Nat.le_refl _) ht
    have Ve:=JL l x.name lT cl hl ls hlen
    rw[xM G2]at Ve
    have e1:=fun kk=>tC (ts:=uG l l.length) (by rw[ow];exact hv) (k:=i) (by rw[ow];exact H) kk
    have V:wk (nH l) 1 A x.name=(uG l l.length)[i]'(by rw[ow];exact H):=by
     unfold wk
     rw[(sj 1 x.name).2 E]
     simp_all[VX,vxk,aan,List.take_length,ow]
    rw[V]
    simp only[qA,seval,C6,D,E,r,yj,Ve,Qj,hl.froz,e1]
   ·rw[if_neg E]at r
    cases U:Oa 1 x.name with
    |none=>exact absurd ((sj 1 x.name).1 U) E
    |some i=>
     obtain⟨hi,TV⟩:=Uq U
     have CG:(nI A).length=11:=by unfold nI;rw[List.length_zip,hA.1];rfl
     have W:(nI A).map Prod.fst=jI:=by unfold nI;exact List.map_fst_zip (by rw[hA.1];exact Nat.le_refl _)
     have I:=Rv x.name (nI A) oG (by rw[CG];exact kZ) (by omega)
     rw[W,TV]at I
     obtain⟨rr,iW⟩:=JI (l:=nI A) (v:=oG) (by rw[CG];exact kZ) i (by omega)
     have IP:(nI A)[i].2=A.getD i 0:=by
      grind [nI]
     rw[IP]at iW
     have H:=hA.2 i x.name (PC U)
     have PG:lu 1 x.name=rj x.name:=rfl
     rw[PG]at r E
     have X:=afm _ _ H (Un _)
     have V:wk (nH l) 1 A x.name=A.getD i 0:=by unfold wk;rw[U]
     rw[V]
     generalize A.getD i 0=q at*
     generalize rj x.name=kk at*
     have Y:=kZ.froz
     simp only[qA,seval,C6,D,r,yj,I,ahi,iW,X,as3,Y]
  ·rw[if_neg D]
   obtain⟨ts,Z,hr,hk⟩:=xO ht D
   have hL:=fun fr lh sh J h1 F h3 h9 nD jG o9=>aCz l lT vT oG cl A hl hv kZ x.args (fun y hy=>ih y hy) a cc ha zr (by omega) Dd ts Z x.op x.num x.name 1 fr lh sh J h1 F h3 h9 nD jG o9
   have hO:=fun fr lh sh J h1 F h3 h9 nD jG o9=>jr.fzV (sh:=sh) (keep:=false) (hL fr lh sh J h1 F h3 h9 nD jG o9).2.1
   have CG:=kB x.args
   have H:=F0 (Z6 l hA) (scope:=0) (fun s=>nN s) Dd Z
   have htl:=vI Z
   have K:(la (wk (nH l) 1 A) x.args).length=x.args.length:=by rw[ur,List.length_map]
   by_cases h5:x.op≤5
   ·have nj:x.op=1∨x.op=2∨x.op=3∨x.op=4∨x.op=5:=by omega
    have N:=M6 x.op x.num nj (ku x.args.length (ints (la (wk (nH l) 1 A) x.args)))
    have O:(if x.op=1∨x.op=2∨x.op=3 then x.num else if x.op=4 then 1 else if x.op=5 then 0 else GU x.op (la (wk (nH l) 1 A) x.args))=(if x.op=1∨x.op=2∨x.op=3 then x.num else if x.op=4 then 1 else 0):=by
     grind
    rw[O]
    generalize (if x.op=1∨x.op=2∨x.op=3 then x.num else if x.op=4 then 1 else 0)=q at N ⊢
    simp only[qA,seval,C6,xm,D,hL,hO,N,Qm]
   ·have h7:7≤x.op:=by omega
    have nQ:=Rw H h7 F (by rw[htl];exact r) hr hk
    have N:=H8 x.op x.num (la (wk (nH l) 1 A) x.args) (ku x.args.length (ints (la (wk (nH l) 1 A) x.args))) (by rw[K];exact oN (fun J=>by rw[J]at K;rw[List.length_eq_zero_iff.1 K];rfl)) (by rw[K];exact lK (by omega)) h7 F (by rw[K];exact r) nQ.1
    rw[if_neg (by omega),if_neg (by omega),if_neg (by omega)]
    generalize GU x.op (la (wk (nH l) 1 A) x.args)=q at N ⊢
    simp only[qA,seval,C6,xm,D,hL,hO,N,Qm]
end
def sn(c:Ct)(A:List Int)(k:Nat):List (List Nat):=((c.ru.take k).filter fun u=>u.sc==1&&decide (vH c.cs A u.x=0)).map Ru.nm
def G3(l:List (List Nat)):List T:=l.flatMap fun s=> [.i .i64 1,.i .i64 0,.s s]
theorem aao(l:List (List Nat))(s:List Nat):G3 l++ [.i .i64 1,.i .i64 0,.s s]=G3 (l++ [s]):=by unfold G3;rw[List.flatMap_append];rfl
theorem Us(c:Ct)(A:List Int){k:Nat}(r:k<c.ru.length):sn c A (k+1)=if c.ru[k].sc=1∧vH c.cs A c.ru[k].x=0 then sn c A k++ [c.ru[k].nm]else sn c A k:=by
 unfold sn
 rw[List.take_succ_eq_append_getElem r,List.filter_append,List.map_append]
 by_cases h:c.ru[k].sc=1∧vH c.cs A c.ru[k].x=0
 ·rw[if_pos h];simp[h.1,h.2]
 ·rw[if_neg h]
  have:(c.ru[k].sc==1&&decide (vH c.cs A c.ru[k].x=0))=false:=by
   cases D:(c.ru[k].sc==1&&decide (vH c.cs A c.ru[k].x=0))with
   |false=>rfl
   |true=>exact absurd (by simpa using D) h
  simp[this]
theorem afo(c:Ct)(A:List Int)(k:Nat):(sn c A k).length≤k:=by
 unfold sn
 rw[List.length_map]
 exact Nat.le_trans (List.length_filter_le _ _) (by rw[List.length_take];omega)
theorem Mx.ty0{l:Cs}{x:Ex}(h:Mx l 1 x):x.nodes≤100000∧x.wf=true∧ ∃k,x.ty (Rn (JC l) 1) 0=(k,0):=by
 obtain⟨_,hv,k,r⟩:=h
 have:=(oX hv).1
 exact⟨by omega,nZ hv,k,by rw[←aap];exact r⟩
theorem amk{t:Tt}{c:Ct}(hc:nL c=0){A:List Int}(hA:MU A):(sn c A c.ru.length= []↔uo A (ruS c)=true):=by
 have h1:=(tg c hc).1
 have r: ∀l:List Ru,(∀u∈l,Mx c.cs u.sc u.x)→(((l.filter fun u=>u.sc==1&&decide (vH c.cs A u.x=0)).map Ru.nm= [])↔uo A ((l.filter fun u=>u.sc==1).map fun u=>(u.nm,comp (nH c.cs) u.sc u.x))=true):=by
  intro l
  induction l with
  |nil=>intro _;simp[uo]
  |cons u l ih=>
   intro h
   have ih:=ih fun v hv=>h v (by simp[hv])
   by_cases hs:u.sc=1
   ·have H:=h u (by simp)
    rw[hs]at H
    have hv:=(Uh hA H).2.1
    have D:((u::l).filter fun u=>u.sc==1).map (fun u=>(u.nm,comp (nH c.cs) u.sc u.x))=(u.nm,comp (nH c.cs) 1 u.x)::(l.filter fun u=>u.sc==1).map fun u=>(u.nm,comp (nH c.cs) u.sc u.x):=by simp[hs]
    rw[D,show uo A ((u.nm,comp (nH c.cs) 1 u.x)::(l.filter fun u=>u.sc==1).map fun u=>(u.nm,comp (nH c.cs) u.sc u.x))=(decide ((comp (nH c.cs) 1 u.x).val A≠0)&&uo A ((l.filter fun u=>u.sc==1).map fun u=>(u.nm,comp (nH c.cs) u.sc u.x)))from rfl,hv]
    by_cases E:vH c.cs A u.x=0
    ·simp[hs,E]
    ·have F:((u::l).filter fun u=>u.sc==1&&decide (vH c.cs A u.x=0))=l.filter fun u=>u.sc==1&&decide (vH c.cs A u.x=0):=by simp[E]
     rw[F,ih]
     simp[E]
   ·have D:((u::l).filter fun u=>u.sc==1)=l.filter fun u=>u.sc==1:=by simp[hs]
    have F:((u::l).filter fun u=>u.sc==1&&decide (vH c.cs A u.x=0))=l.filter fun u=>u.sc==1&&decide (vH c.cs A u.x=0):=by simp[hs]
    rw[D,F,ih]
 have:=r c.ru h1
 unfold sn ruS AI
 rw[List.take_length]
 exact this
section
variable(c:Ct)(a7 a8 a9 a10 iH iG vT oG:T)(A:List Int)(hC:uF c a7 a8 a9 a10 iH iG)(hS:AJ c)(hc:nL c=0)(hv:iJ vT c.cs.length (ints (uG c.cs c.cs.length)))(hA:MU A)(kZ:iJ oG 11 (qf (nI A)))
include hC hc hv hA kZ
theorem PH{x:Ex}(r:Mx c.cs 1 x){cs:List T}(h:mE x cs):be pE 149 [vT,a7,.i .i64 1,oG,.agg cs] []=some (.i .i64 (vH c.cs A x),[]):=by
 obtain⟨⟨D,E,F⟩,_⟩:=hC
 obtain⟨H,I,k,J⟩:=r.ty0
 have:=(tg c hc).2.2.2.2.2.2
 exact amj c.cs a7 vT oG D A E F (lK (by omega)) hv hA kZ x k cs h H I J
theorem aCC(fr:Fr)(lh:iL iy)(sh:List iy)(h1:an fr 1= .i .i64 1)(I:an fr 2= .i .i64 0)(J:an fr 3=oG)(H:an fr 4= .ptr .L 4 1 0)(h9:an fr 9= .nilsl)(r:an fr 10=vT)(D:an fr 11= .i .i64 0)(E:a6 lh 4=⟨1,.cells (jb c a7 a8 a9 a10 iH iG) 0 true⟩):
  qG 52 rq fr lh sh (.ext 0)∧
  (jr (nh pE 52 rq fr lh sh) (an (pb pE 52 rq fr lh sh) 9) 50 3 (sn c A c.ru.length).length (G3 (sn c A c.ru.length))∧nB pE 52 rq fr lh sh=sh):=by
 have hC':=hC
 obtain⟨⟨c7,i7,j7⟩,⟨c8,O,j8⟩,⟨c9,i9,j9⟩,⟨tE,i10,yx⟩,⟨vN,i11,A8⟩,⟨vZ,i12,CV⟩⟩:=hC'
 obtain⟨sE,hl,_⟩:=tg c hc
 unfold jb at E
 refine ll (fun k st=> ∃(fr:Fr) (lh:iL iy),st=⟨fr,lh,sh⟩∧an fr 1= .i .i64 1∧an fr 2= .i .i64 0∧an fr 3=oG∧an fr 4= .ptr .L 4 1 0∧an fr 10=vT∧an fr 11= .i .i64 (k:Int)∧a6 lh 4=⟨1,.cells [.i .i64 c.rp,.i .i64 c.rl,.i .i64 c.cn,.i .i64 c.st,.i .i64 c.ly,.i .i64 c.nf,.i .i64 c.nt,a7,a8,a9,a10,iH,iG,.i .i64 c.gu] 0 true⟩∧jr lh (an fr 9) 50 3 (sn c A k).length (G3 (sn c A k)))
  (fun jB N U=>jr N (an jB 9) 50 3 (sn c A c.ru.length).length (G3 (sn c A c.ru.length))∧U=sh) _ c.ru.length ?_ ?_ fr lh sh ⟨fr,lh,rfl,h1,I,J,H,r,D,E,by rw[h9];exact jr.nil⟩
 ·rintro k _ hk ⟨fr,lh,rfl,h1,I,J,H,r,D,E,K⟩
  have iU:(k:Int)<c.ru.length:=by omega
  have hw:=iX (k:=k) (by omega)
  obtain⟨b,cb,rr,iW,lE,hb⟩:=CZ O j8 k hk
  have hx:=sE _ (List.getElem_mem hk)
  have wx:=afo c A k
  have mI:=Us c A hk
  have X:=fun e:c.ru[k].sc=1=>PH c a7 a8 a9 a10 iH iG vT oG A hC hc hv hA kZ (e▸hx) hb
  rw[mI]
  generalize vH c.cs A c.ru[k].x=q at*
  generalize c.ru[k]=u at*
  have Y:=fun(N:iL iy) (U:List iy) (e:a6 N 50=a6 lh 50)=>(qM (sh:=U) (K.congr e) [.i .i64 1,.i .i64 0,.s u.nm] rfl (bytes:=32) (by unfold roomy;omega) true)
  have V:=fun(N:iL iy) (U:List iy) (e:a6 N 50=a6 lh 50)=>(Y N U e).1
  have DK:=K.notS
  generalize F:an fr 9=v9 at K Y V DK
  have hz:=kZ.froz
  have W:=hv.froz
  by_cases hs:u.sc=1
  ·have X:=X hs
   by_cases Z:q=0
   ·rw[if_pos ⟨hs,Z⟩]
    simp only[qA,seval,repl,rq,h1,I,J,H,F,r,D,E,O.lenI,iU,hw,iW,hs,X,Z,hz,W,i7.froz,lE.froz1,DK,V,Ho]
    exact kA ⟨_,_,rfl,by simp only[qA,seval,h1],by simp only[qA,seval,I],by simp only[qA,seval,J],by simp only[qA,seval,H],by simp only[qA,seval,r],by simp only[qA,seval],by rw[(Y _ _ (by simp only[qA,seval])).2.2 4 (by decide)];simp only[qA,seval,E],by simp only[qA,seval];rw[List.length_append,←aao];exact(Y _ _ (by simp only[qA,seval])).2.1⟩
   ·rw[if_neg (fun h=>Z h.2)]
    simp only[qA,seval,repl,rq,h1,I,J,H,F,r,D,E,O.lenI,iU,hw,iW,hs,X,Z,hz,W,i7.froz,lE.froz1,Ho]
    exact kA ⟨_,_,rfl,by simp only[qA,seval,h1],by simp only[qA,seval,I],by simp only[qA,seval,J],by simp only[qA,seval,H],by simp only[qA,seval,r],by simp only[qA,seval],by simp only[qA,seval,E],by simp only[qA,seval,F];exact K.congr (by simp only[qA,seval])⟩
  ·rw[if_neg (fun h=>hs h.1)]
   simp only[qA,seval,repl,rq,h1,I,H,F,D,E,O.lenI,iU,hw,iW,hs]
   exact kA ⟨_,_,rfl,by simp only[qA,seval,h1],by simp only[qA,seval,I],by simp only[qA,seval,J],by simp only[qA,seval,H],by simp only[qA,seval,r],by simp only[qA,seval],by simp only[qA,seval,E],by simp only[qA,seval,F];exact K.congr (by simp only[qA,seval])⟩
 ·rintro _ ⟨fr,lh,rfl,h1,I,J,H,r,D,E,K⟩
  simp only[qA,seval,rq,H,D,E,O.lenI,Int.lt_irrefl]
  exact mf ⟨rfl,by simp only[qA,seval];exact K,rfl⟩
end
theorem ctZ{c:Ct}{a7 a8 a9 a10 iH iG:T}(hC:uF c a7 a8 a9 a10 iH iG):(froz1 a7=true∧froz1 a8=true∧froz1 a9=true∧froz1 a10=true∧froz1 iH=true∧froz1 iG=true)∧cellsOf a7= [a7]∧cellsOf a8= [a8]∧cellsOf a9= [a9]∧cellsOf a10= [a10]∧cellsOf iH= [iH]∧cellsOf iG= [iG]∧froz a7=true:=by
 obtain⟨⟨_,F,_⟩,⟨_,H,_⟩,⟨_,I,_⟩,⟨_,r,_⟩,⟨_,D,_⟩,⟨_,E,_⟩⟩:=hC
 exact⟨⟨F.froz1,H.froz1,I.froz1,r.froz1,D.froz1,E.froz1⟩,F.cells,H.cells,I.cells,r.cells,D.cells,E.cells,F.froz⟩
section
variable(c:Ct)(a7 a8 a9 a10 iH iG oG:T)(A:List Int)(hC:uF c a7 a8 a9 a10 iH iG)(hS:AJ c)(hc:nL c=0)(hA:MU A)(kZ:iJ oG 11 (qf (nI A)))
include hC hS hc
theorem JM:be pE 148 [a7] []=some (ku c.cs.length (ints (uG c.cs c.cs.length)),[])∧iJ (ku c.cs.length (ints (uG c.cs c.cs.length))) c.cs.length (ints (uG c.cs c.cs.length)):=by
 obtain⟨⟨r,D,E⟩,_⟩:=hC
 have:=(tg c hc).2.2.2.2.2.2
 refine⟨Ut c.cs a7 r D E (lK (by omega)) hS.s7.1,oN fun h=> ?_⟩
 grind [ints,List.length_eq_zero_iff.1,ow]
include hA kZ
theorem afp:be pE 113 [.agg (jb c a7 a8 a9 a10 iH iG),.i .i64 1,.i .i64 0,oG] []=some (ku (sn c A c.ru.length).length (G3 (sn c A c.ru.length)),[]):=by
 obtain⟨K,hv⟩:=JM c a7 a8 a9 a10 iH iG hC hS hc
 have hL:=fun fr lh sh h1 E F H I r D J=>aCC c a7 a8 a9 a10 iH iG _ oG A hC hc hv hA kZ fr lh sh h1 E F H I r D J
 have MP:=fun keep fr lh sh h1 E F H I r D J=>jr.fzV (keep:=keep) (sh:=sh) (hL fr lh sh h1 E F H I r D J).2.1
 have N:=ctZ hC
 generalize ku c.cs.length (ints (uG c.cs c.cs.length))=vT at*
 unfold jb at*
 rw[iD agC (by simp[VR])]
 simp only[qA,seval,VR,K,N,hL,MP,yU,W9]
omit hS in
theorem aCE(vT:T)(hv:iJ vT c.cs.length (ints (uG c.cs c.cs.length)))(fr:Fr)(lh:iL iy)(sh:List iy)(h1:an fr 1= .i .i64 1)(D:an fr 2=oG)(r:an fr 3= .ptr .L 3 1 0)(E:an fr 7= .i .i64 0)(F:an fr 8=vT)(H:an fr 9= .i .i64 0)(I:a6 lh 3=⟨1,.cells (jb c a7 a8 a9 a10 iH iG) 0 true⟩):
  qG 43 uO fr lh sh (.ext 0)∧
  (an (pb pE 43 uO fr lh sh) 7= .i .i64 (pC A (Uj c))∧nB pE 43 uO fr lh sh=sh):=by
 have K:=hC
 obtain⟨⟨c7,Z,j7⟩,⟨c8,i8,j8⟩,⟨c9,J,j9⟩,⟨tE,i10,yx⟩,⟨vN,i11,A8⟩,⟨vZ,i12,CV⟩⟩:=K
 obtain⟨_,_,sE,hl,_⟩:=tg c hc
 unfold jb at I
 unfold Uj
 refine ll (fun k st=> ∃(fr:Fr),st=⟨fr,lh,sh⟩∧an fr 1= .i .i64 1∧an fr 2=oG∧an fr 3= .ptr .L 3 1 0∧an fr 7= .i .i64 (pC A (yX c 1 k))∧an fr 8=vT∧an fr 9= .i .i64 (k:Int))
  (fun jB je jk=>an jB 7= .i .i64 (pC A (yX c 1 c.co.length))∧jk=sh) _ c.co.length ?_ ?_ fr lh sh ⟨fr,rfl,h1,D,r,E,F,H⟩
 ·rintro k _ N ⟨fr,rfl,h1,D,r,E,F,H⟩
  have V:(k:Int)<c.co.length:=by omega
  have W:=iX (k:=k) (by omega)
  obtain⟨b,cb,rr,X,lE,hb⟩:=F1 J j9 k N
  have Y:=sE _ (List.getElem_mem N)
  have mI:pC A (yX c 1 (k+1))=if c.co[k].sc=1 then wr .i64 (pC A (yX c 1 k)+vH c.cs A c.co[k].x)else pC A (yX c 1 k):=by
   rw[AV c 1 N]
   by_cases e:c.co[k].sc=1
   ·rw[if_pos e,if_pos e]
    unfold pC
    rw[List.map_append,MV,List.map_cons,List.map_nil,Di,Di]
    rw[e,(Uh hA (e▸Y)).2.1]
   ·grind
  have O:=fun e:c.co[k].sc=1=>PH c a7 a8 a9 a10 iH iG vT oG A hC hc hv hA kZ (e▸Y) hb
  rw[mI]
  generalize vH c.cs A c.co[k].x=q at*
  generalize pC A (yX c 1 k)=p at*
  generalize c.co[k]=u at*
  have hz:=kZ.froz
  have U:=hv.froz
  by_cases hs:u.sc=1
  ·have O:=O hs
   rw[if_pos hs]
   simp only[qA,seval,jw,iN,uO,h1,D,r,E,F,H,I,J.lenI,V,W,X,hs,O,hz,U,Z.froz,lE.froz1,Ho,ahg]
   exact kA ⟨_,rfl,by simp only[qA,seval,h1],by simp only[qA,seval,D],by simp only[qA,seval,r],by simp only[qA,seval],by simp only[qA,seval,F],by simp only[qA,seval]⟩
  ·rw[if_neg hs]
   simp only[qA,seval,jw,iN,uO,h1,D,r,E,F,H,I,J.lenI,V,W,X,hs]
   exact kA ⟨_,rfl,by simp only[qA,seval,h1],by simp only[qA,seval,D],by simp only[qA,seval,r],by simp only[qA,seval,E],by simp only[qA,seval,F],by simp only[qA,seval]⟩
 ·rintro _ ⟨fr,rfl,h1,D,r,E,F,H⟩
  simp only[qA,seval,uO,r,H,I,J.lenI,Int.lt_irrefl]
  exact mf ⟨rfl,by simp only[qA,seval,E],rfl⟩
theorem aaq:be pE 116 [.agg (jb c a7 a8 a9 a10 iH iG),.i .i64 1,oG] []=some (.i .i64 (pC A (Uj c)),[]):=by
 obtain⟨r,hv⟩:=JM c a7 a8 a9 a10 iH iG hC hS hc
 have hL:=fun fr lh sh h1 D E F H I J=>aCE c a7 a8 a9 a10 iH iG oG A hC hc hA kZ _ hv fr lh sh h1 D E F H I J
 have K:=ctZ hC
 generalize ku c.cs.length (ints (uG c.cs c.cs.length))=vT at*
 generalize pC A (Uj c)=q at*
 unfold jb at*
 rw[iD agH (by simp[VU])]
 simp only[qA,seval,VU,r,K,hL,W9]
theorem PI:be pE 117 [.agg (jb c a7 a8 a9 a10 iH iG),oG] []=some (.i .i64 (sk A (crS c)),[]):=by
 obtain⟨W,hv⟩:=JM c a7 a8 a9 a10 iH iG hC hS hc
 have X:=ctZ hC
 have D:=kZ.froz
 have I:=hv.froz
 have J:=hC
 obtain⟨⟨c7,i7,j7⟩,⟨c8,i8,j8⟩,⟨c9,i9,j9⟩,⟨tE,E,Y⟩,⟨vN,Z,A8⟩,⟨vZ,i12,CV⟩⟩:=J
 have F:=E.lenI
 have sE:=(tg c hc).2.2.2.2.1
 rw[iD agI (by simp[Sk])]
 unfold crS T2
 rw[List.take_length]
 by_cases O:c.cr= []
 ·rw[O]at F ⊢
  have F:lenI a10=some (.i .i64 0):=F
  have CG:(nI A).length=11:=by unfold nI;rw[List.length_zip,hA.1];rfl
  have K:(nI A).map Prod.fst=jI:=by unfold nI;exact List.map_fst_zip (by rw[hA.1];exact Nat.le_refl _)
  have H:=Rv [98,108,111,99,107] (nI A) oG (by rw[CG];exact kZ) (by omega)
  rw[K,show ixA [98,108,111,99,107] jI 0=3 by decide]at H
  obtain⟨rr,r⟩:=JI (l:=nI A) (v:=oG) (by rw[CG];exact kZ) 3 (by omega)
  have IP:(nI A)[3].2=A.getD 3 0:=by
   grind [nI]
  rw[IP]at r
  have r: ∀kk,ng oG (.i kk 3) 2=_:=r
  unfold sk jb
  simp only[List.map_nil]
  simp only[qA,seval,Sk,F,H,r,D,ahi]
 ·obtain⟨x,l,N⟩: ∃x l,c.cr=x::l:=List.exists_cons_of_ne_nil O
  have U:0<c.cr.length:=by rw[N];simp
  obtain⟨b,cb,rr,r,lE,uE,hb⟩:=nY E Y 0 U
  have V:=sE _ (List.getElem_mem U)
  have iI:=PH c a7 a8 a9 a10 iH iG _ oG A hC hc hv hA kZ V hb
  have hcv:=(Uh hA V).2.1
  have r: ∀kk,ng a10 (.i kk 0) 4=_:=r
  have mR: ¬(c.cr.length:Int)=0:=by omega
  have e:sk A (c.cr.map fun u=>([],comp (nH c.cs) 1 u))=vH c.cs A c.cr[0]:=by
   grind [sk]
  rw[e]
  generalize vH c.cs A c.cr[0]=q at*
  generalize c.cr[0]=y at*
  generalize ku c.cs.length (ints (uG c.cs c.cs.length))=vT at*
  unfold jb
  simp only[qA,seval,jw,iN,Sk,F,mR,W,r,iI,X,D,I,lE.froz1,W9,asK,Ho,ahg]
end
def dE(t:Tt)(c:Ct)(d:List (Int×Bool)):Int:=if mi t c≠0 then mi t c else se c t.fl d
theorem afq(t:Tt)(c:Ct)(d:List (Int×Bool)):Ul t c d=if dE t c d≠0 then(H3,dE t c d)else if pM t c d=true then(kh t c d,0)else(H3,15):=by
 grind [Ul,amg,dE]
section
variable(t:Tt)(c:Ct)(zT aT fT a7 a8 a9 a10 iH iG:T)(hT:ue t zT aT fT)(hC:uF c a7 a8 a9 a10 iH iG)(hN:U9 c)(hL: ∀f∈t.fl,f.nu.length≤mh)(d:List (Int×Bool))(dT:T)(hd:GY d dT)(hlen:d.length≤1000)
include hT hC hN hL hd hlen
theorem aar(h:dE t c d=0):uf t=0∧nL c=0∧AJ c∧1≤d.length∧d.length≤6∧(∀k∈d,yy t.fl.length k.1=true):=by
 have _:=hL;have _:=hd;have _:=hlen
 unfold dE at h
 by_cases r:mi t c=0
 ·rw[if_neg (by simp[r])]at h
  obtain⟨ht,hc⟩:=Pp t c zT aT fT a7 a8 a9 a10 iH iG hT hC hN r
  obtain⟨h1,D,E,_⟩:=AS h
  exact⟨ht,hc,hN.sm (HX c a7 a8 a9 a10 iH iG hC hc),h1,D,E⟩
 ·grind
theorem afr: ∃v,be pE 76 [.agg [zT,aT,fT],.agg (jb c a7 a8 a9 a10 iH iG),dT] []=some (.tup [v,.i .i64 (dE t c d)],[])∧froz1 v=true∧(dE t c d=0→ ∃n:Nat,lenI v=some (.i .i64 (n:Int))∧(n=0↔pM t c d=true)):=by
 have F:=DD t c zT aT fT a7 a8 a9 a10 iH iG hT hC
 have r:=hd.sl.froz
 obtain⟨w,h1,H,K⟩:=Rt t c zT aT fT a7 a8 a9 a10 iH iG hT hC hN hL d dT hd hlen
 rw[show(if mi t c≠0 then mi t c else se c t.fl d)=dE t c d from rfl]at h1 H
 by_cases D:dE t c d=0
 ·obtain⟨ht,hc,hS,I,N,g3⟩:=aar t c zT aT fT a7 a8 a9 a10 iH iG hT hC hN hL d dT hd hlen D
  have hA:=FZ (t:=t) (c:=c) ht hc I (by omega) g3
  have hv:=afp c a7 a8 a9 a10 iH iG (.sl (qf (nI (kI t c d))) 11 false) (kI t c d) hC hS hc hA (.inr ⟨false,rfl⟩)
  have J:=amk (t:=t) hc hA
  rw[H D]at h1
  rw[D]at h1 ⊢
  refine⟨ku (sn c (kI t c d) c.ru.length).length (G3 (sn c (kI t c d) c.ru.length)), ?_, ?_,fun _=>⟨(sn c (kI t c d) c.ru.length).length, ?_, ?_⟩⟩
  ·have E:froz1 (ku (sn c (kI t c d) c.ru.length).length (G3 (sn c (kI t c d) c.ru.length)))=true:=by unfold ku;split <;> rfl
   rw[iD aj5 (by simp[c76])]
   generalize ku (sn c (kI t c d) c.ru.length).length (G3 (sn c (kI t c d) c.ru.length))=vo at*
   unfold jb at*
   simp only[qA,seval,c76,h1,hv,F,r,E,Qg,asu]
  ·unfold ku;split <;> rfl
  ·unfold ku;split
   ·rename_i e;rw[e];rfl
   ·rfl
  ·rw[List.length_eq_zero_iff,J];exact Iff.rfl
 ·refine⟨.nilsl, ?_,rfl,fun h=>absurd h D⟩
  generalize dE t c d=e at*
  rw[iD aj5 (by simp[c76])]
  unfold jb at*
  simp only[qA,seval,c76,h1,D,F,r,Qg]
theorem aml(D:dE t c d=0):be pE 78 [.agg [zT,aT,fT],.agg (jb c a7 a8 a9 a10 iH iG),dT] []=some (.tup [.i .i64 (pC (kI t c d) (Uj c)),.i .i64 0],[])∧be pE 79 [.agg [zT,aT,fT],.agg (jb c a7 a8 a9 a10 iH iG),dT] []=some (.tup [.i .i64 (sk (kI t c d) (crS c)),.i .i64 0],[]):=by
 have E:=DD t c zT aT fT a7 a8 a9 a10 iH iG hT hC
 have r:=hd.sl.froz
 obtain⟨w,h1,F,J⟩:=Rt t c zT aT fT a7 a8 a9 a10 iH iG hT hC hN hL d dT hd hlen
 rw[show(if mi t c≠0 then mi t c else se c t.fl d)=dE t c d from rfl]at h1 F
 obtain⟨ht,hc,hS,H,K,g3⟩:=aar t c zT aT fT a7 a8 a9 a10 iH iG hT hC hN hL d dT hd hlen D
 have hA:=FZ (t:=t) (c:=c) ht hc H (by omega) g3
 have hv:=aaq c a7 a8 a9 a10 iH iG (.sl (qf (nI (kI t c d))) 11 false) (kI t c d) hC hS hc hA (.inr ⟨false,rfl⟩)
 have I:=PI c a7 a8 a9 a10 iH iG (.sl (qf (nI (kI t c d))) 11 false) (kI t c d) hC hS hc hA (.inr ⟨false,rfl⟩)
 rw[F D]at h1
 rw[D]at h1
 generalize pC (kI t c d) (Uj c)=q at*
 generalize sk (kI t c d) (crS c)=q2 at*
 generalize qf (nI (kI t c d))=AC at*
 unfold jb at*
 refine⟨?_, ?_⟩
 ·rw[iD arY (by simp[c78])]
  simp only[qA,seval,c78,h1,hv,E,r,Qg,asv]
 ·rw[iD arZ (by simp[c79])]
  simp only[qA,seval,c79,h1,I,E,r,Qg,asw]
theorem afs: ∃v,be pE 45 [.agg [zT,aT,fT],.agg (jb c a7 a8 a9 a10 iH iG),dT] []=some (.tup [.agg (pe (Ul t c d).1 v),.i .i64 (Ul t c d).2],[])∧LgT (Ul t c d).1 v:=by
 have I:=DD t c zT aT fT a7 a8 a9 a10 iH iG hT hC
 have r:=hd.sl.froz
 obtain⟨w,h1,h2,Y⟩:=afr t c zT aT fT a7 a8 a9 a10 iH iG hT hC hN hL d dT hd hlen
 rw[afq]
 by_cases D:dE t c d=0
 ·rw[if_neg (by simp[D])]
  obtain⟨ht,hc,hS,U,g2,g3⟩:=aar t c zT aT fT a7 a8 a9 a10 iH iG hT hC hN hL d dT hd hlen D
  obtain⟨n,H,Z⟩:=Y D
  rw[D]at h1
  by_cases J:pM t c d=true
  ·have K:=Z.2 J
   subst K
   rw[if_pos J]
   have H:lenI w=some (.i .i64 0):=H
   obtain⟨k1,k2⟩:=aml t c zT aT fT a7 a8 a9 a10 iH iG hT hC hN hL d dT hd hlen D
   have A6:=M4 t c zT aT fT a7 a8 a9 a10 iH iG hT hC ht hc d dT hd U (by omega) g3
   obtain⟨i,j,r1,r2,hi,hj,ef,eg,ha,hb⟩:=H4 t zT aT fT hT ht d dT hd U (by omega) g3
   obtain⟨fc,V,W⟩:=hT.f
   obtain⟨r3,E⟩:=uh V W i hi
   obtain⟨r4,F⟩:=uh V W j hj
   rw[←ef]at E
   rw[←eg]at F
   have hw:=ot (k:=d.length) (by omega) (by omega)
   have lV:=hd.sl.lenI
   have N:=fun lh sh=>hd.sl.slC (lh:=lh) (sh:=sh) (ou d)
   have Dz:d.length*16≤roomy:=by unfold roomy;omega
   have PF:=ou d
   have mR:isNe dT=true:=by
    rcases hd.sl with⟨_,h,_⟩|⟨ex,rfl⟩
    ·omega
    ·cases hq:d.length with
     |zero=>omega
     |succ m=>rfl
   obtain⟨m,X⟩: ∃m,d.length=m+1:=⟨d.length-1,by omega⟩
   have nQ: ∀lh sh,appW lh sh 49 2 16 .nilsl dT=some (.isl .L 49 ((a6 lh 49).g+1) 0 d.length 2,oK lh 49 ⟨(a6 lh 49).g+1,.cells (nM d) 0 false⟩):=fun lh sh=>by
    unfold appW
    rw[N,Option.bind_some,X,At,if_pos (by rw[←X];exact Dz)]
   have O:d.length*2≤(nM d).length:=by omega
   have Ky:List.take (d.length*2) (nM d)=nM d:=List.take_of_length_le (by omega)
   refine⟨.sl (nM d) d.length false, ?_,.inr ⟨false,rfl⟩⟩
   unfold kh pe at*
   simp only
   generalize uk c (kV t.fl d 0)=x1 at*
   generalize um c (kV t.fl d (d.length-1))=x2 at*
   generalize pC (kI t c d) (Uj c)=x5 at*
   generalize sk (kI t c d) (crS c)=x6 at*
   generalize kV t.fl d 0=f at*
   generalize kV t.fl d (d.length-1)=g at*
   unfold jb at*
   rw[iD acB (by simp[c45])]
   simp only[qA,seval,jw,oW,iN,pd,c45,h1,H,k1,k2,A6,ha,hb,E,F,hw,lV,mR,nQ,O,Ky,I,r,Int.lt_irrefl,aj6,arX,aAB,aAC]
  ·rw[if_neg J]
   have K:(0:Int)<(n:Int):=by
    grind
   refine⟨.nilsl, ?_,.inl ⟨rfl,rfl,rfl⟩⟩
   unfold pe H3 jb at*
   rw[iD acB (by simp[c45])]
   simp only[qA,seval,c45,h1,H,K,I,r,aj6]
 ·rw[if_pos D]
  refine⟨.nilsl, ?_,.inl ⟨rfl,rfl,rfl⟩⟩
  generalize dE t c d=e at*
  unfold pe H3 jb at*
  rw[iD acB (by simp[c45])]
  simp only[qA,seval,c45,h1,D,I,r,aj6]
end
theorem aCF(L:List Int)(a b:T)(E:iJ a L.length (ints L))(I:iJ b L.length (ints L))(hlen:L.length≤4611686018427387000)(fr:Fr)(lh:iL iy)(sh:List iy)(r:an fr 0=a)(h1:an fr 1=b)(D:an fr 5= .i .i64 0):
  qG 26 KD fr lh sh (.ext 0)∧(nB pE 26 KD fr lh sh=sh):=by
 refine ll (fun k st=> ∃(fr:Fr) (lh:iL iy),st=⟨fr,lh,sh⟩∧an fr 0=a∧an fr 1=b∧an fr 5= .i .i64 (k:Int)) (fun U V J=>J=sh) _ L.length ?_ ?_ fr lh sh ⟨fr,lh,rfl,r,h1,D⟩
 ·rintro k _ H ⟨fr,lh,rfl,r,h1,D⟩
  have K:(k:Int)<L.length:=by omega
  have N:=iX (k:=k) (by omega)
  obtain⟨W,O⟩:=ints_at E k H
  obtain⟨X,N7⟩:=ints_at I k H
  have F:=E.lenI
  generalize L[k]=y at*
  simp only[qA,seval,KD,r,h1,D,F,K,O,N7,N]
  exact kA ⟨_,_,rfl,by simp only[qA,seval,r],by simp only[qA,seval,h1],by simp only[qA,seval]⟩
 ·rintro _ ⟨fr,lh,rfl,r,h1,D⟩
  have F:=E.lenI
  simp only[qA,seval,KD,r,D,F,Int.lt_irrefl]
  exact mf ⟨rfl,rfl⟩
theorem amm(L:List Int)(a b:T)(E:iJ a L.length (ints L))(F:iJ b L.length (ints L))(hlen:L.length≤4611686018427387000):be pE 8 [a,b] []=some (.b true,[]):=by
 have hL:=fun fr lh sh H h1 I=>aCF L a b E F hlen fr lh sh H h1 I
 have r:=E.lenI
 have D:=F.lenI
 rw[iD fn8 (by simp[c8])]
 simp only[qA,seval,c8,r,D,hL]
theorem amn(i:Int)(h:Bool):be pE 118 [.agg [.i .i64 i,.b h],.agg [.i .i64 i,.b h]] []=some (.i .i64 0,[]):=by
 have r:=DO h
 have D:wr .i64 (te h-te h)=0:=by rw[Int.sub_self];rfl
 rw[iD WX (by simp[VV])]
 simp only[qA,seval,jw,iN,VV,r,D,Qk,Xb]
theorem amo(n:Int):be pE 119 [.i .i64 n,.i .i64 n] []=some (.i .i64 0,[]):=by
 have r:=DO false
 have e:te false=0:=rfl
 rw[e]at r
 rw[iD agJ (by simp[VW])]
 simp only[qA,seval,VW,r,Int.lt_irrefl,Qk]
theorem aiT{d:List (Int×Bool)}{v:T}(h:iJ v d.length (nM d))(j:Nat)(D:j<d.length): ∃r,∀kk,ng v (.i kk (j:Int)) 2=some (.vp (.i .i64 d[j].1:: .b d[j].2::r)):=vV (GY.of h) j D
theorem aCG(d:List (Int×Bool))(a b:T)(E:iJ a d.length (nM d))(J:iJ b d.length (nM d))(hlen:d.length≤4611686018427387000)(fr:Fr)(lh:iL iy)(sh:List iy)(r:an fr 0=a)(h1:an fr 1=b)(D:an fr 5= .i .i64 0):
  qG 36 Bz fr lh sh (.ext 0)∧(nB pE 36 Bz fr lh sh=sh):=by
 refine ll (fun k st=> ∃(fr:Fr) (lh:iL iy),st=⟨fr,lh,sh⟩∧an fr 0=a∧an fr 1=b∧an fr 5= .i .i64 (k:Int)) (fun W X N=>N=sh) _ d.length ?_ ?_ fr lh sh ⟨fr,lh,rfl,r,h1,D⟩
 ·rintro k _ K ⟨fr,lh,rfl,r,h1,D⟩
  have O:(k:Int)<d.length:=by omega
  have U:=iX (k:=k) (by omega)
  obtain⟨Y,V⟩:=aiT E k K
  obtain⟨Z,N7⟩:=aiT J k K
  have F:=E.lenI
  have H:=J.lenI
  have I:=amn d[k].1 d[k].2
  generalize d[k]=y at*
  simp only[qA,seval,jw,iN,Bz,r,h1,D,F,H,O,V,N7,U,I,asx,asy]
  exact kA ⟨_,_,rfl,by simp only[qA,seval,r],by simp only[qA,seval,h1],by simp only[qA,seval]⟩
 ·rintro _ ⟨fr,lh,rfl,r,h1,D⟩
  have F:=E.lenI
  simp only[qA,seval,Bz,r,D,F,Int.lt_irrefl]
  exact mf ⟨rfl,rfl⟩
theorem amp(d:List (Int×Bool))(a b:T)(F:iJ a d.length (nM d))(H:iJ b d.length (nM d))(hlen:d.length≤4611686018427387000):be pE 80 [a,b] []=some (.i .i64 0,[]):=by
 have hL:=fun fr lh sh I h1 J=>aCG d a b F H hlen fr lh sh I h1 J
 have r:=F.lenI
 have D:=H.lenI
 have E:=amo (d.length:Int)
 rw[iD ar0 (by simp[c80])]
 simp only[qA,seval,c80,VC,r,D,hL,E,asz]
theorem amq(g:Lg)(a b:T)(E:LgT g a)(F:LgT g b)(hlen:g.du.length≤4611686018427387000):be pE 27 [.agg (pe g a),.agg (pe g b)] []=some (.b true,[]):=by
 have r:=amp g.du a b E F hlen
 have H:=E.froz
 have I:=F.froz
 have D:be pE 46 [a,b] []=some (.b true,[]):=by
  rw[iD arx (by simp[c46])]
  simp only[qA,seval,c46,r,H,I,aAD]
 unfold pe
 rw[iD ajD (by simp[c27])]
 simp only[qA,seval,c27,D,H,I,aAi]
end Go.Proofs.YtjniffjppoklpaaGreat
