/- Walks of functions of the program and of the reference, and their plain laws, part 19. Conditions: the theorems' own. -/
import Derived.Test.YtcpceiclnbmgiaaGreatGS
import Derived.Test.YtcpceiclnbmgiaaGreatM7
import Derived.Test.YtcpceiclnbmgiaaGreatM11
import Derived.Test.YtcpceiclnbmgiaaGreatM18
import Derived.KernelRfl
set_option maxRecDepth 100000
set_option linter.unusedSimpArgs false
set_option linter.unusedVariables false
set_option maxHeartbeats 16000000
namespace Go.Proofs.YtcpceiclnbmgiaaGreat
open Go Go.Ev
theorem GM{l:List (List Nat×Int)}{v:T}(h:IsSl v l.length (j5 l))(j:Nat)(D:j<l.length): ∃r,∀kk,dV v (.i kk (j:Int)) 2=some (.vp (.s l[j].1:: .i .i64 l[j].2::r)):=by
 refine⟨j5 (l.drop (j+1)),fun kk=> ?_⟩
 rw[h.ia (Zk l) D]
 simp_all[j5,wV]
theorem aGy(s:List Nat)(l:List (List Nat×Int))(a:T)(D:IsSl a l.length (j5 l))(hlen:l.length≤1000)(r:Int)(hr:r=ixA s (l.map Prod.fst) 0)(o:Out)(I:o=if r<0 then .ext 0 else .ret)(fr:Fr)(lh:aB ah)(sh:List ah)(h0:aa fr 0=a)(h1:aa fr 1= .s s)(h5:aa fr 5= .i .i64 0):
  mI 20 rL fr lh sh o∧
  ((¬r<0→aa (kR pE 20 rL fr lh sh) 4= .i .i64 r)∧iF pE 20 rL fr lh sh=sh):=by
 refine dJ (fun k st=> ∃(fr:Fr) (lh:aB ah),st=⟨fr,lh,sh⟩∧r=ixA s ((l.drop k).map Prod.fst) k∧aa fr 0=a∧aa fr 1= .s s∧aa fr 5= .i .i64 (k:Int))
  (fun K X O=>(¬r<0→aa K 4= .i .i64 r)∧O=sh) _ l.length ?_ ?_ fr lh sh ⟨fr,lh,rfl,hr,h0,h1,h5⟩
 ·rintro k _ hk ⟨fr,lh,rfl,hr,h0,h1,h5⟩
  have U:(k:Int)<l.length:=zO
  have V:=aI (k:=k) zO
  obtain⟨Y,W⟩:=GM D k hk
  have F:=D.lenI
  rw[List.drop_eq_getElem_cons hk,List.map_cons,ixA]at hr
  generalize l[k]=y at*
  simp only[qB,seval,rL,h0,h1,h5,F,U,W,V]
  refine px (fun h=> ?_) (fun h=> ?_)
  ·rw[if_pos h]at hr
   exact tz ⟨by rw[I,if_neg zO],fun _=>(by simp only[qA,seval,hr]),rfl⟩
  ·rw[if_neg h]at hr
   exact cS ⟨_,_,rfl,hr,by simp only[qA,seval,h0],by simp only[qA,seval,h1],by simp only[qA,seval]⟩
 ·rintro _ ⟨fr,lh,rfl,hr,h0,h1,h5⟩
  rw[List.drop_length,List.map_nil,ixA]at hr
  have F:=D.lenI
  simp only[qA,seval,rL,h0,h5,F,Int.lt_irrefl]
  grind [eL]
theorem OX(s:List Nat)(l:List (List Nat×Int))(a:T)(r:IsSl a l.length (j5 l))(hlen:l.length≤1000):ae pE 224 [a,.s s] []=some (.i .i64 (ixA s (l.map Prod.fst) 0),[]):=by
 have hL:=fun fr lh sh h0 h1 h5=>aGy s l a r hlen _ rfl _ rfl fr lh sh h0 h1 h5
 have Yw:=BZ s (l.map Prod.fst) 0
 rw[an aic (by simp[P2])]
 generalize ixA s (l.map Prod.fst) 0=v at*
 by_cases h:v<0
 ·have e:=Yw h
  subst e
  simp only[qA,seval,P2,hL]
 ·simp only[h,if_false,not_false_eq_true,forall_const]at hL
  simp only[qA,seval,P2,hL]
theorem afA(k n:Int)(h:Cf k n)(hk:k≠4):ae pE 238 [.i .i64 k,.i .i64 n] []=some (.i .i64 n,[]):=by
 rw[an aio (by simp[K3])]
 have ee:bd n→ae pE 247 [.i .i64 n] []=some (.i .i64 n,[]):=by
  intro r
  have e:max (-1099511627776) (min 1099511627776 n)=n:=by unfold bd at r;omega
  rw[an Vk (by simp[K4])]
  simp only[qA,seval,K4,oC,rf,e]
 rcases h with⟨h1|h1,h2⟩|⟨h1,h2,h3⟩|⟨h1,h2⟩
 ·have hc:=ee h2
  subst h1
  simp only[qA,seval,K3,hc,AU]
 ·have hc:=ee h2
  subst h1
  simp only[qA,seval,K3,hc,AU]
 ·have hs:=xl n (by unfold yp;omega)
  have e:n%1440=n:=zO
  rw[e]at hs
  subst h1
  simp only[qA,seval,K3,hs,No]
 ·grind
theorem R6(s:List Nat):lu s≠4:=by
 grind [lu]
theorem R7{l:List (List Nat)}(h:l.Nodup){i j:Nat}(hi:i<l.length)(r:j<l.length)(e:l[i]=l[j]):i=j:=by
 rcases Nat.lt_trichotomy i j with h1|h1|h1
 ·exact absurd e (List.pairwise_iff_getElem.1 h i j hi r h1)
 ·exact h1
 ·exact absurd e.symm (List.pairwise_iff_getElem.1 h j i r hi h1)
theorem R8{s:List Nat}{i:Nat}(h:KQ 1 s=some i):i<11∧ixA s bG 0=(i:Int):=by
 have h1:bG[i]? =some s:=Ms h
 obtain⟨hi,e⟩:=List.getElem?_eq_some_iff.1 h1
 obtain⟨j,r,e1,e2⟩:=GK (k:=0) (List.mem_of_getElem? h1)
 have:j=i:=R7 JV r hi (by rw[e2,e])
 exact⟨hi,by rw[e1,this];simp⟩
section
variable(l:Cs)(lT vT iP:T)(cl:List T)(A:List Int)(hl:IsSl lT l.length cl)(ee:dx l cl)(hlen:l.length≤kP)(hv:IsSl vT l.length (ints (sV l l.length)))(hA:JO A)(dO:IsSl iP 11 (j5 (gk A)))
def aza(y:Ex):Prop:= ∀k cs,jI y cs→y.nodes≤100000→y.wf=true→y.ty (OQ (Gq l) 1) 0=(k,0)→ae pE 223 [vT,lT,.i .i64 1,iP,.agg cs] []=some (.i .i64 (y.val0 (qp (gf l) 1 A)),[])
include hl hv dO
theorem aGz(xs:List Ex)(ih: ∀y∈xs,aza l lT vT iP A y)(a:T)(X:List T)(O:IsSl a xs.length X)(hx:cG xs X)(hn:ic xs≤100000)(Ae:Gc xs=true)(ts:List Int)(qk:lz (OQ (Gq l) 1) 0 xs= .ok ts)(op num:Int)(s:List Nat)(g:Nat)(fr:Fr)(lh:aB ah)(sh:List ah)
  (h0:aa fr 0=vT) (h1:aa fr 1=lT) (h2:aa fr 2= .i .i64 1) (h3:aa fr 3=iP) (D:aa fr 9= .ptr .L 9 g 0) (U:aa fr 13= .nilsl) (I:aa fr 14= .i .i64 0) (V:ab lh 9=⟨g,.cells [.i .i64 op,.i .i64 num,.s s,a] 0 true⟩):
  mI 70 mS fr lh sh (.ext 0)∧
  (bt (iy pE 70 mS fr lh sh) (aa (kR pE 70 mS fr lh sh) 13) 63 1 xs.length (ints (gm (qp (gf l) 1 A) xs))∧ab (iy pE 70 mS fr lh sh) 9=ab lh 9∧iF pE 70 mS fr lh sh=sh):=by
 refine bF (P:=fun bE Y aY=>bt Y (aa bE 13) 63 1 xs.length (ints (gm (qp (gf l) 1 A) xs))∧ab Y 9=ab lh 9∧aY=sh)
  (cu (fun k st=> ∃(fr:Fr) (K:aB ah),st=⟨fr,K,sh⟩∧aa fr 0=vT∧aa fr 1=lT∧aa fr 2= .i .i64 1∧aa fr 3=iP∧aa fr 9= .ptr .L 9 g 0∧aa fr 14= .i .i64 (k:Int)∧ab K 9=ab lh 9∧
    bt K (aa fr 13) 63 1 k (ints (gm (qp (gf l) 1 A) (xs.take k)))) _ xs.length ?_ ?_ 0 _ (Nat.zero_le _) ⟨fr,lh,rfl,h0,h1,h2,h3,D,I,rfl,by rw[U];exact bt.nil⟩)
 ·rintro k _ S7 ⟨fr,K,rfl,h0,h1,h2,h3,D,I,r,F⟩
  left
  rw[V]at r
  have aN:(k:Int)<xs.length:=zO
  have VV:=ig xs
  have hyk:=mb (List.getElem_mem S7)
  have hw:=bj (k:=k) (iM zO)
  obtain⟨b,cb,rr,aQ,fD,nN,hb⟩:=ma O hx k S7
  obtain⟨t,ht⟩:=OY qk k S7
  have Z:=ih xs[k] (List.getElem_mem S7) t _ hb zO (zM.1 Ae _ (List.getElem_mem S7)) ht
  have W:=Zn F (iM zO) (sh:=sh) (T.i .i64 (xs[k].val0 (qp (gf l) 1 A))) true
  have fO:gm (qp (gf l) 1 A) (xs.take (k+1))=gm (qp (gf l) 1 A) (xs.take k)++ [xs[k].val0 (qp (gf l) 1 A)]:=by
   grind [List.take_succ_eq_append_getElem,xo]
  generalize xs[k].val0 (qp (gf l) 1 A)=q at Z W fO
  generalize U:aa fr 13=v13 at F W
  simp only[qA,seval,repl,mS,h0,h1,h2,h3,D,U,I,r,O.lenI,aN,aQ,hw,Z,H5,fD.froz1,hv.froz,hl.froz,dO.froz,F.notS,W.1]
  refine⟨_,rfl,_,_,rfl, ?_, ?_, ?_, ?_, ?_, ?_, ?_, ?_⟩
  all_goals first|(simp only[qA,seval,h0,h1,h2,h3,D];done)|skip
  ·grind
  ·simp only[qA,seval]
   grind [JW]
 ·rintro _ ⟨fr,K,rfl,h0,h1,h2,h3,D,I,r,F⟩
  rw[V]at r
  rw[List.take_length]at F
  simp only[qA,seval,mS,D,I,r,O.lenI,Int.lt_irrefl]
  refine⟨_,_,k9,rfl,rfl, ?_,by rw[r,V],rfl⟩
  simp only[qA,seval]
  exact F
include ee hlen hA
theorem am8(x:Ex):aza l lT vT iP A x:=by
 induction x using Ex.ind with
 |h x ih=>
  intro k cs hx hn Ae F
  obtain⟨a,cc,rfl,ha,On⟩:=hx.cells
  obtain⟨h1,h2,r,Du,sY,yC⟩:=vM Ae
  have hnd:=x.nodes_eq
  rw[an Vc (by simp[HS]),Ex.val0_eq]
  by_cases h6:x.op=6
  ·rw[if_pos h6]
   have r:=Ja 1 x.name
   unfold qS at r
   by_cases D:dZ 1 x.name=0
   ·rw[if_pos D]at r
    rw[Ex.ty_eq,if_pos h6,if_neg (by simp[kE])]at F
    unfold OQ at F
    rw[if_neg (by simp[D])]at F
    rw[←xh]at F
    obtain⟨i,mC,I,JX,_⟩:=vN (Nat.le_refl _) F
    have K:=afB l x.name lT cl hl ee hlen
    rw[Ez JX]at K
    have e1:=fun kk=>Ci (ts:=sV l l.length) (by rw[lK];exact hv) (k:=i) (by rw[lK];exact I) kk
    have e2:qp (gf l) 1 A x.name=(sV l l.length)[i]'(by rw[lK];exact I):=by
     unfold qp
     rw[(mn 1 x.name).2 D]
     simp_all[VX,vxk,Zp,List.take_length,lK]
    rw[e2]
    simp only[qA,seval,HS,h6,D,r,DH,K,avR,hl.froz,e1]
   ·rw[if_neg D]at r
    cases V:KQ 1 x.name with
    |none=>exact absurd ((mn 1 x.name).1 V) D
    |some i=>
     obtain⟨hi,Rd⟩:=R8 V
     have W:(gk A).length=11:=by unfold gk;rw[List.length_zip,hA.1];rfl
     have X:(gk A).map Prod.fst=bG:=by unfold gk;exact List.map_fst_zip (by rw[hA.1];exact Nat.le_refl _)
     have Zq:=OX x.name (gk A) iP (by rw[W];exact dO) zO
     rw[X,Rd]at Zq
     obtain⟨rr,aQ⟩:=GM (l:=gk A) (v:=iP) (by rw[W];exact dO) i zO
     have wH:(gk A)[i].2=A.getD i 0:=by
      grind [gk]
     rw[wH]at aQ
     have I:=hA.2 i x.name (Ms V)
     have Y:dZ 1 x.name=lu x.name:=rfl
     rw[Y]at r D
     have Z:=afA _ _ I (R6 _)
     have e2:qp (gf l) 1 A x.name=A.getD i 0:=by unfold qp;rw[V]
     rw[e2]
     generalize A.getD i 0=q at*
     generalize lu x.name=kk at*
     have aGB:=dO.froz
     simp only[qA,seval,HS,h6,r,DH,Zq,aid,aQ,Z,av0,aGB]
  ·rw[if_neg h6]
   obtain⟨ts,p6,hr,hk⟩:=vO F h6
   have hL:=fun fr lh sh h0 h1 h2 h3 h9 iN cH o9=>aGz l lT vT iP cl A hl hv dO x.args (fun y hy=>ih y hy) a cc ha On zO yC ts p6 x.op x.num x.name 1 fr lh sh h0 h1 h2 h3 h9 iN cH o9
   have hO:=fun fr lh sh h0 h1 h2 h3 h9 iN cH o9=>bt.fzV (sh:=sh) (keep:=false) (hL fr lh sh h0 h1 h2 h3 h9 iN cH o9).2.1
   have W:=ig x.args
   have I:=JY (Y8 l hA) (scope:=0) (fun s=>kE s) yC p6
   have DU:=vP p6
   have JZ:(gm (qp (gf l) 1 A) x.args).length=x.args.length:=by rw[xo,List.length_map]
   by_cases h5:x.op≤5
   ·have je:x.op=1∨x.op=2∨x.op=3∨x.op=4∨x.op=5:=zO
    have O:=Zr x.op x.num je (cE x.args.length (ints (gm (qp (gf l) 1 A) x.args)))
    have U:(if x.op=1∨x.op=2∨x.op=3 then x.num else if x.op=4 then 1 else if x.op=5 then 0 else Gg x.op (gm (qp (gf l) 1 A) x.args))=(if x.op=1∨x.op=2∨x.op=3 then x.num else if x.op=4 then 1 else 0):=by
     grind
    rw[U]
    generalize (if x.op=1∨x.op=2∨x.op=3 then x.num else if x.op=4 then 1 else 0)=q at O ⊢
    simp only[qA,seval,HS,R9,h6,hL,hO,O,aip]
   ·have h7:7≤x.op:=zO
    have fS:=Zs I h7 h2 (by rw[DU];exact r) hr hk
    have O:=Sa x.op x.num (gm (qp (gf l) 1 A) x.args) (cE x.args.length (ints (gm (qp (gf l) 1 A) x.args))) (by rw[JZ];exact hZ (fun h0=>by rw[h0]at JZ;rw[List.length_eq_zero_iff.1 JZ];rfl)) (by rw[JZ];exact iM zO) h7 h2 (by rw[JZ];exact r) fS.1
    rw[if_neg zO,if_neg zO,if_neg zO]
    generalize Gg x.op (gm (qp (gf l) 1 A) x.args)=q at O ⊢
    simp only[qA,seval,HS,R9,h6,hL,hO,O,aip]
end
def mr(c:Ct)(A:List Int)(k:Nat):List (List Nat):=((c.ru.take k).filter fun u=>u.sc==1&&decide (pN c.cs A u.x=0)).map Ru.nm
def Dv(l:List (List Nat)):List T:=l.flatMap fun s=> [.i .i64 1,.i .i64 0,.s s]
theorem Zt(l:List (List Nat))(s:List Nat):Dv l++ [.i .i64 1,.i .i64 0,.s s]=Dv (l++ [s]):=by unfold Dv;rw[List.flatMap_append];rfl
theorem Sb(c:Ct)(A:List Int){k:Nat}(hk:k<c.ru.length):mr c A (k+1)=if c.ru[k].sc=1∧pN c.cs A c.ru[k].x=0 then mr c A k++ [c.ru[k].nm]else mr c A k:=by
 unfold mr
 rw[List.take_succ_eq_append_getElem hk,List.filter_append,List.map_append]
 by_cases h:c.ru[k].sc=1∧pN c.cs A c.ru[k].x=0
 ·rw[if_pos h];simp[h.1,h.2]
 ·rw[if_neg h]
  have:(c.ru[k].sc==1&&decide (pN c.cs A c.ru[k].x=0))=false:=by
   cases r:(c.ru[k].sc==1&&decide (pN c.cs A c.ru[k].x=0))with
   |false=>rfl
   |true=>exact absurd (by simpa using r) h
  simp[this]
theorem afC(c:Ct)(A:List Int)(k:Nat):(mr c A k).length≤k:=by
 unfold mr
 rw[List.length_map]
 exact Nat.le_trans (List.length_filter_le _ _) (by rw[List.length_take];omega)
theorem Jt.ty0{l:Cs}{x:Ex}(h:Jt l 1 x):x.nodes≤100000∧x.wf=true∧ ∃k,x.ty (OQ (Gq l) 1) 0=(k,0):=by
 obtain⟨_,hv,k,hk⟩:=h
 have:=(jf hv).1
 exact⟨by omega,iX hv,k,by rw[←Zu];exact hk⟩
theorem am9{t:Tt}{c:Ct}(hc:fI c=0){A:List Int}(hA:JO A):(mr c A c.ru.length= []↔oF A (ruS c)=true):=by
 have h1:=(nD c hc).1
 have r: ∀l:List Ru,(∀u∈l,Jt c.cs u.sc u.x)→(((l.filter fun u=>u.sc==1&&decide (pN c.cs A u.x=0)).map Ru.nm= [])↔oF A ((l.filter fun u=>u.sc==1).map fun u=>(u.nm,comp (gf c.cs) u.sc u.x))=true):=by
  intro l
  induction l with
  |nil=>intro _;simp[oF]
  |cons u l ih=>
   intro h
   have ih:=ih fun v hv=>h v (by simp[hv])
   by_cases hs:u.sc=1
   ·have hx:=h u xv
    rw[hs]at hx
    have hv:=(RU hA hx).2.1
    have e1:((u::l).filter fun u=>u.sc==1).map (fun u=>(u.nm,comp (gf c.cs) u.sc u.x))=(u.nm,comp (gf c.cs) 1 u.x)::(l.filter fun u=>u.sc==1).map fun u=>(u.nm,comp (gf c.cs) u.sc u.x):=by simp[hs]
    rw[e1,show oF A ((u.nm,comp (gf c.cs) 1 u.x)::(l.filter fun u=>u.sc==1).map fun u=>(u.nm,comp (gf c.cs) u.sc u.x))=(decide ((comp (gf c.cs) 1 u.x).val A≠0)&&oF A ((l.filter fun u=>u.sc==1).map fun u=>(u.nm,comp (gf c.cs) u.sc u.x)))from rfl,hv]
    by_cases D:pN c.cs A u.x=0
    ·simp[hs,D]
    ·have e2:((u::l).filter fun u=>u.sc==1&&decide (pN c.cs A u.x=0))=l.filter fun u=>u.sc==1&&decide (pN c.cs A u.x=0):=by simp[D]
     rw[e2,ih]
     simp[D]
   ·have e1:((u::l).filter fun u=>u.sc==1)=l.filter fun u=>u.sc==1:=by simp[hs]
    have e2:((u::l).filter fun u=>u.sc==1&&decide (pN c.cs A u.x=0))=l.filter fun u=>u.sc==1&&decide (pN c.cs A u.x=0):=by simp[hs]
    rw[e1,e2,ih]
 have:=r c.ru h1
 unfold mr ruS vz
 rw[List.take_length]
 exact this
section
variable(c:Ct)(a7 a8 a9 a10 aw av vT iP:T)(A:List Int)(hC:oP c a7 a8 a9 a10 aw av)(hS:vn c)(hc:fI c=0)(hv:IsSl vT c.cs.length (ints (sV c.cs c.cs.length)))(hA:JO A)(dO:IsSl iP 11 (j5 (gk A)))
include hC hc hv hA dO
theorem Mv{x:Ex}(hx:Jt c.cs 1 x){cs:List T}(h:jI x cs):ae pE 223 [vT,a7,.i .i64 1,iP,.agg cs] []=some (.i .i64 (pN c.cs A x),[]):=by
 obtain⟨⟨c7,r,D⟩,_⟩:=hC
 obtain⟨F,I,k,K⟩:=hx.ty0
 have:=(nD c hc).2.2.2.2.2.2
 exact am8 c.cs a7 vT iP c7 A r D (iM zO) hv hA dO x k cs h F I K
theorem aGC(fr:Fr)(lh:aB ah)(sh:List ah)(h1:aa fr 1= .i .i64 1)(h2:aa fr 2= .i .i64 0)(h3:aa fr 3=iP)(h4:aa fr 4= .ptr .L 4 1 0)(h9:aa fr 9= .nilsl)(r:aa fr 10=vT)(D:aa fr 11= .i .i64 0)(F:ab lh 4=⟨1,.cells (aR c a7 a8 a9 a10 aw av) 0 true⟩):
  mI 52 lD fr lh sh (.ext 0)∧
  (bt (iy pE 52 lD fr lh sh) (aa (kR pE 52 lD fr lh sh) 9) 50 3 (mr c A c.ru.length).length (Dv (mr c A c.ru.length))∧iF pE 52 lD fr lh sh=sh):=by
 have hC':=hC
 obtain⟨⟨c7,i7,j7⟩,⟨c8,U,j8⟩,⟨c9,i9,j9⟩,⟨ta,i10,ua⟩,⟨tX,i11,yn⟩,⟨xJ,i12,zN⟩⟩:=hC'
 obtain⟨mg,hl,_⟩:=nD c hc
 unfold aR at F
 refine dJ (fun k st=> ∃(fr:Fr) (lh:aB ah),st=⟨fr,lh,sh⟩∧aa fr 1= .i .i64 1∧aa fr 2= .i .i64 0∧aa fr 3=iP∧aa fr 4= .ptr .L 4 1 0∧aa fr 10=vT∧aa fr 11= .i .i64 (k:Int)∧ab lh 4=⟨1,.cells [.i .i64 c.rp,.i .i64 c.rl,.i .i64 c.cn,.i .i64 c.st,.i .i64 c.ly,.i .i64 c.nf,.i .i64 c.nt,a7,a8,a9,a10,aw,av,.i .i64 c.gu] 0 true⟩∧bt lh (aa fr 9) 50 3 (mr c A k).length (Dv (mr c A k)))
  (fun bE O V=>bt O (aa bE 9) 50 3 (mr c A c.ru.length).length (Dv (mr c A c.ru.length))∧V=sh) _ c.ru.length ?_ ?_ fr lh sh ⟨fr,lh,rfl,h1,h2,h3,h4,r,D,F,by rw[h9];exact bt.nil⟩
 ·rintro k _ hk ⟨fr,lh,rfl,h1,h2,h3,h4,r,D,F,K⟩
  have aN:(k:Int)<c.ru.length:=zO
  have hw:=aI (k:=k) zO
  obtain⟨b,cb,rr,aQ,fD,hb⟩:=ym U j8 k hk
  have hx:=mg _ (List.getElem_mem hk)
  have qv:=afC c A k
  have fO:=Sb c A hk
  have X:=fun e:c.ru[k].sc=1=>Mv c a7 a8 a9 a10 aw av vT iP A hC hc hv hA dO (e▸hx) hb
  rw[fO]
  generalize pN c.cs A c.ru[k].x=q at*
  generalize c.ru[k]=u at*
  have Y:=fun(O:aB ah) (V:List ah) (e:ab O 50=ab lh 50)=>(fk (sh:=V) (K.congr e) [.i .i64 1,.i .i64 0,.s u.nm] rfl (bytes:=32) (by unfold roomy;omega) true)
  have W:=fun(O:aB ah) (V:List ah) (e:ab O 50=ab lh 50)=>(Y O V e).1
  have qe:=K.notS
  generalize I:aa fr 9=v9 at K Y W qe
  have hz:=dO.froz
  have Zi:=hv.froz
  by_cases hs:u.sc=1
  ·have X:=X hs
   by_cases Z:q=0
   ·rw[if_pos ⟨hs,Z⟩]
    simp only[qA,seval,repl,lD,h1,h2,h3,h4,I,r,D,F,U.lenI,aN,hw,aQ,hs,X,Z,hz,Zi,i7.froz,fD.froz1,qe,W,H5]
    exact cS ⟨_,_,rfl,by simp only[qA,seval,h1],by simp only[qA,seval,h2],by simp only[qA,seval,h3],by simp only[qA,seval,h4],by simp only[qA,seval,r],by simp only[qA,seval],by rw[(Y _ _ wL).2.2 4 yv];simp only[qA,seval,F],by simp only[qA,seval];rw[List.length_append,←Zt];exact(Y _ _ wL).2.1⟩
   ·rw[if_neg (fun h=>Z h.2)]
    simp only[qA,seval,repl,lD,h1,h2,h3,h4,I,r,D,F,U.lenI,aN,hw,aQ,hs,X,Z,hz,Zi,i7.froz,fD.froz1,H5]
    exact cS ⟨_,_,rfl,by simp only[qA,seval,h1],by simp only[qA,seval,h2],by simp only[qA,seval,h3],by simp only[qA,seval,h4],by simp only[qA,seval,r],by simp only[qA,seval],by simp only[qA,seval,F],by simp only[qA,seval,I];exact K.congr wL⟩
  ·rw[if_neg (fun h=>hs h.1)]
   simp only[qA,seval,repl,lD,h1,h2,h4,I,D,F,U.lenI,aN,hw,aQ,hs]
   exact cS ⟨_,_,rfl,by simp only[qA,seval,h1],by simp only[qA,seval,h2],by simp only[qA,seval,h3],by simp only[qA,seval,h4],by simp only[qA,seval,r],by simp only[qA,seval],by simp only[qA,seval,F],by simp only[qA,seval,I];exact K.congr wL⟩
 ·rintro _ ⟨fr,lh,rfl,h1,h2,h3,h4,r,D,F,K⟩
  simp only[qA,seval,lD,h4,D,F,U.lenI,Int.lt_irrefl]
  exact eL ⟨rfl,by simp only[qA,seval];exact K,rfl⟩
end
theorem ctZ{c:Ct}{a7 a8 a9 a10 aw av:T}(hC:oP c a7 a8 a9 a10 aw av):(froz1 a7=true∧froz1 a8=true∧froz1 a9=true∧froz1 a10=true∧froz1 aw=true∧froz1 av=true)∧cellsOf a7= [a7]∧cellsOf a8= [a8]∧cellsOf a9= [a9]∧cellsOf a10= [a10]∧cellsOf aw= [aw]∧cellsOf av= [av]∧froz a7=true:=by
 obtain⟨⟨_,I,_⟩,⟨_,K,_⟩,⟨_,O,_⟩,⟨_,r,_⟩,⟨_,D,_⟩,⟨_,F,_⟩⟩:=hC
 exact⟨⟨I.froz1,K.froz1,O.froz1,r.froz1,D.froz1,F.froz1⟩,I.cells,K.cells,O.cells,r.cells,D.cells,F.cells,I.froz⟩
section
variable(c:Ct)(a7 a8 a9 a10 aw av iP:T)(A:List Int)(hC:oP c a7 a8 a9 a10 aw av)(hS:vn c)(hc:fI c=0)(hA:JO A)(dO:IsSl iP 11 (j5 (gk A)))
include hC hS hc
theorem GN:ae pE 222 [a7] []=some (cE c.cs.length (ints (sV c.cs c.cs.length)),[])∧IsSl (cE c.cs.length (ints (sV c.cs c.cs.length))) c.cs.length (ints (sV c.cs c.cs.length)):=by
 obtain⟨⟨c7,r,D⟩,_⟩:=hC
 have:=(nD c hc).2.2.2.2.2.2
 refine⟨Rh c.cs a7 c7 r D hS.b7,hZ fun h=> ?_⟩
 grind [ints,List.length_eq_zero_iff.1,lK]
include hA dO
theorem afD:ae pE 194 [.agg (aR c a7 a8 a9 a10 aw av),.i .i64 1,.i .i64 0,iP] []=some (cE (mr c A c.ru.length).length (Dv (mr c A c.ru.length)),[]):=by
 obtain⟨hk,hv⟩:=GN c a7 a8 a9 a10 aw av hC hS hc
 have hL:=fun fr lh sh h1 h2 h3 h4 F r D I=>aGC c a7 a8 a9 a10 aw av _ iP A hC hc hv hA dO fr lh sh h1 h2 h3 h4 F r D I
 have S2:=fun keep fr lh sh h1 h2 h3 h4 F r D I=>bt.fzV (keep:=keep) (sh:=sh) (hL fr lh sh h1 h2 h3 h4 F r D I).2.1
 have K:=ctZ hC
 generalize cE c.cs.length (ints (sV c.cs c.cs.length))=vT at*
 unfold aR at*
 rw[an ahM (by simp[T5])]
 simp only[qA,seval,T5,hk,K,hL,S2,yG,Vb]
omit hS in
theorem aGE(vT:T)(hv:IsSl vT c.cs.length (ints (sV c.cs c.cs.length)))(fr:Fr)(lh:aB ah)(sh:List ah)(h1:aa fr 1= .i .i64 1)(h2:aa fr 2=iP)(h3:aa fr 3= .ptr .L 3 1 0)(r:aa fr 7= .i .i64 0)(D:aa fr 8=vT)(F:aa fr 9= .i .i64 0)(I:ab lh 3=⟨1,.cells (aR c a7 a8 a9 a10 aw av) 0 true⟩):
  mI 43 oR fr lh sh (.ext 0)∧
  (aa (kR pE 43 oR fr lh sh) 7= .i .i64 (jG A (RW c))∧iF pE 43 oR fr lh sh=sh):=by
 have O:=hC
 obtain⟨⟨c7,Y,j7⟩,⟨c8,i8,j8⟩,⟨c9,K,Z⟩,⟨ta,i10,ua⟩,⟨tX,i11,yn⟩,⟨xJ,i12,zN⟩⟩:=O
 obtain⟨_,_,mg,hl,_⟩:=nD c hc
 unfold aR at I
 unfold RW
 refine dJ (fun k st=> ∃(fr:Fr),st=⟨fr,lh,sh⟩∧aa fr 1= .i .i64 1∧aa fr 2=iP∧aa fr 3= .ptr .L 3 1 0∧aa fr 7= .i .i64 (jG A (tF c 1 k))∧aa fr 8=vT∧aa fr 9= .i .i64 (k:Int))
  (fun bE aZ aY=>aa bE 7= .i .i64 (jG A (tF c 1 c.co.length))∧aY=sh) _ c.co.length ?_ ?_ fr lh sh ⟨fr,rfl,h1,h2,h3,r,D,F⟩
 ·rintro k _ hk ⟨fr,rfl,h1,h2,h3,r,D,F⟩
  have V:(k:Int)<c.co.length:=zO
  have W:=aI (k:=k) zO
  obtain⟨b,cb,rr,X,fD,hb⟩:=BR K Z k hk
  have hx:=mg _ (List.getElem_mem hk)
  have fO:jG A (tF c 1 (k+1))=if c.co[k].sc=1 then wr .i64 (jG A (tF c 1 k)+pN c.cs A c.co[k].x)else jG A (tF c 1 k):=by
   rw[vD c 1 hk]
   by_cases e:c.co[k].sc=1
   ·rw[if_pos e,if_pos e]
    unfold jG
    rw[List.map_append,JP,List.map_cons,List.map_nil,yL,yL]
    rw[e,(RU hA (e▸hx)).2.1]
   ·grind
  have U:=fun e:c.co[k].sc=1=>Mv c a7 a8 a9 a10 aw av vT iP A hC hc hv hA dO (e▸hx) hb
  rw[fO]
  generalize pN c.cs A c.co[k].x=q at*
  generalize jG A (tF c 1 k)=p at*
  generalize c.co[k]=u at*
  have hz:=dO.froz
  have Zi:=hv.froz
  by_cases hs:u.sc=1
  ·have U:=U hs
   rw[if_pos hs]
   simp only[qA,seval,bp,aJ,oR,h1,h2,h3,r,D,F,I,K.lenI,V,W,X,hs,U,hz,Zi,Y.froz,fD.froz1,H5,aib]
   exact cS ⟨_,rfl,by simp only[qA,seval,h1],by simp only[qA,seval,h2],by simp only[qA,seval,h3],by simp only[qA,seval],by simp only[qA,seval,D],by simp only[qA,seval]⟩
  ·rw[if_neg hs]
   simp only[qA,seval,bp,aJ,oR,h1,h2,h3,r,D,F,I,K.lenI,V,W,X,hs]
   exact cS ⟨_,rfl,by simp only[qA,seval,h1],by simp only[qA,seval,h2],by simp only[qA,seval,h3],by simp only[qA,seval,r],by simp only[qA,seval,D],by simp only[qA,seval]⟩
 ·rintro _ ⟨fr,rfl,h1,h2,h3,r,D,F⟩
  simp only[qA,seval,oR,h3,F,I,K.lenI,Int.lt_irrefl]
  exact eL ⟨rfl,by simp only[qA,seval,r],rfl⟩
theorem Zv:ae pE 197 [.agg (aR c a7 a8 a9 a10 aw av),.i .i64 1,iP] []=some (.i .i64 (jG A (RW c)),[]):=by
 obtain⟨hk,hv⟩:=GN c a7 a8 a9 a10 aw av hC hS hc
 have hL:=fun fr lh sh h1 h2 h3 r D F I=>aGE c a7 a8 a9 a10 aw av iP A hC hc hA dO _ hv fr lh sh h1 h2 h3 r D F I
 have K:=ctZ hC
 generalize cE c.cs.length (ints (sV c.cs c.cs.length))=vT at*
 generalize jG A (RW c)=q at*
 unfold aR at*
 rw[an ahR (by simp[T8])]
 simp only[qA,seval,T8,hk,K,hL,Vb]
theorem Mw:ae pE 198 [.agg (aR c a7 a8 a9 a10 aw av),iP] []=some (.i .i64 (mq A (crS c)),[]):=by
 obtain⟨hk,hv⟩:=GN c a7 a8 a9 a10 aw av hC hS hc
 have X:=ctZ hC
 have D:=dO.froz
 have Zi:=hv.froz
 have K:=hC
 obtain⟨⟨c7,i7,j7⟩,⟨c8,i8,j8⟩,⟨c9,i9,j9⟩,⟨ta,F,Y⟩,⟨tX,Z,yn⟩,⟨xJ,i12,zN⟩⟩:=K
 have I:=F.lenI
 have mg:=(nD c hc).2.2.2.2.1
 rw[an ahS (by simp[PW])]
 unfold crS RJ
 rw[List.take_length]
 by_cases V:c.cr= []
 ·rw[V]at I ⊢
  have I:lenI a10=some (.i .i64 0):=I
  have W:(gk A).length=11:=by unfold gk;rw[List.length_zip,hA.1];rfl
  have O:(gk A).map Prod.fst=bG:=by unfold gk;exact List.map_fst_zip (by rw[hA.1];exact Nat.le_refl _)
  have Zq:=OX [98,108,111,99,107] (gk A) iP (by rw[W];exact dO) zO
  rw[O,show ixA [98,108,111,99,107] bG 0=3 by decide]at Zq
  obtain⟨rr,r⟩:=GM (l:=gk A) (v:=iP) (by rw[W];exact dO) 3 zO
  have wH:(gk A)[3].2=A.getD 3 0:=by
   grind [gk]
  rw[wH]at r
  have r: ∀kk,dV iP (.i kk 3) 2=_:=r
  unfold mq aR
  simp only[List.map_nil]
  simp only[qA,seval,PW,I,Zq,r,D,aid]
 ·obtain⟨x,l,U⟩: ∃x l,c.cr=x::l:=List.exists_cons_of_ne_nil V
  have h0:0<c.cr.length:=by rw[U];simp
  obtain⟨b,cb,rr,r,fD,nN,hb⟩:=ma F Y 0 h0
  have hx:=mg _ (List.getElem_mem h0)
  have aC:=Mv c a7 a8 a9 a10 aw av _ iP A hC hc hv hA dO hx hb
  have hcv:=(RU hA hx).2.1
  have r: ∀kk,dV a10 (.i kk 0) 4=_:=r
  have fe: ¬(c.cr.length:Int)=0:=zO
  have e:mq A (c.cr.map fun u=>([],comp (gf c.cs) 1 u))=pN c.cs A c.cr[0]:=by
   grind [mq]
  rw[e]
  generalize pN c.cs A c.cr[0]=q at*
  generalize c.cr[0]=y at*
  generalize cE c.cs.length (ints (sV c.cs c.cs.length))=vT at*
  unfold aR
  simp only[qA,seval,bp,aJ,PW,I,fe,hk,r,aC,X,D,Zi,fD.froz1,Vb,avU,H5,aib]
end
def dE(t:Tt)(c:Ct)(d:List (Int×Bool)):Int:=if eO t c≠0 then eO t c else mi c t.fl d
theorem afE(t:Tt)(c:Ct)(d:List (Int×Bool)):RY t c d=if dE t c d≠0 then(Er,dE t c d)else if jL t c d=true then(cJ t c d,0)else(Er,15):=by
 grind [RY,am6,dE]
section
variable(t:Tt)(c:Ct)(zT aT fT a7 a8 a9 a10 aw av:T)(hT:ow t zT aT fT)(hC:oP c a7 a8 a9 a10 aw av)(hN:OE c)(hL: ∀f∈t.fl,f.nu.length≤fj)(d:List (Int×Bool))(dT:T)(hd:Dq d dT)(hlen:d.length≤1000)
include hT hC hN hL hd hlen
theorem Zw(h:dE t c d=0):ou t=0∧fI c=0∧vn c∧1≤d.length∧d.length≤6∧(∀k∈d,sW t.fl.length k.1=true):=by
 have _:=hL;have _:=hd;have _:=hlen
 unfold dE at h
 by_cases hk:eO t c=0
 ·rw[if_neg (by simp[hk])]at h
  obtain⟨r,hc⟩:=Mg t c zT aT fT a7 a8 a9 a10 aw av hT hC hN hk
  obtain⟨h1,h2,h3,_⟩:=vL h
  exact⟨r,hc,hN.sm (El c a7 a8 a9 a10 aw av hC hc),h1,h2,h3⟩
 ·grind
theorem afF: ∃v,ae pE 158 [.agg [zT,aT,fT],.agg (aR c a7 a8 a9 a10 aw av),dT] []=some (.tup [v,.i .i64 (dE t c d)],[])∧froz1 v=true∧(dE t c d=0→ ∃n:Nat,lenI v=some (.i .i64 (n:Int))∧(n=0↔jL t c d=true)):=by
 have F:=zX t c zT aT fT a7 a8 a9 a10 aw av hT hC
 have r:=hd.sl.froz
 obtain⟨w,h1,h2,h3⟩:=OW t c zT aT fT a7 a8 a9 a10 aw av hT hC hN hL d dT hd hlen
 rw[show(if eO t c≠0 then eO t c else mi c t.fl d)=dE t c d from rfl]at h1 h2
 by_cases h0:dE t c d=0
 ·obtain⟨I,hc,hS,K,U,g3⟩:=Zw t c zT aT fT a7 a8 a9 a10 aw av hT hC hN hL d dT hd hlen h0
  have hA:=Ch (t:=t) (c:=c) I hc K zO g3
  have hv:=afD c a7 a8 a9 a10 aw av (.sl (j5 (gk (de t c d))) 11 false) (de t c d) hC hS hc hA (.inr ⟨false,rfl⟩)
  have O:=am9 (t:=t) hc hA
  rw[h2 h0]at h1
  rw[h0]at h1 ⊢
  refine⟨cE (mr c (de t c d) c.ru.length).length (Dv (mr c (de t c d) c.ru.length)), ?_, ?_,fun _=>⟨(mr c (de t c d) c.ru.length).length, ?_, ?_⟩⟩
  ·have D:froz1 (cE (mr c (de t c d) c.ru.length).length (Dv (mr c (de t c d) c.ru.length)))=true:=by unfold cE;split <;> rfl
   rw[an UZ (by simp[KY])]
   generalize cE (mr c (de t c d) c.ru.length).length (Dv (mr c (de t c d) c.ru.length))=vo at*
   unfold aR at*
   simp only[qA,seval,KY,h1,hv,F,r,D,Nl,avJ]
  ·unfold cE;split <;> rfl
  ·unfold cE;split
   ·rename_i e;rw[e];rfl
   ·rfl
  ·rw[List.length_eq_zero_iff,O];exact Iff.rfl
 ·refine⟨.nilsl, ?_,rfl,fun h=>absurd h h0⟩
  generalize dE t c d=e at*
  rw[an UZ (by simp[KY])]
  unfold aR at*
  simp only[qA,seval,KY,h1,h0,F,r,Nl]
theorem ana(h0:dE t c d=0):ae pE 160 [.agg [zT,aT,fT],.agg (aR c a7 a8 a9 a10 aw av),dT] []=some (.tup [.i .i64 (jG (de t c d) (RW c)),.i .i64 0],[])∧ae pE 161 [.agg [zT,aT,fT],.agg (aR c a7 a8 a9 a10 aw av),dT] []=some (.tup [.i .i64 (mq (de t c d) (crS c)),.i .i64 0],[]):=by
 have D:=zX t c zT aT fT a7 a8 a9 a10 aw av hT hC
 have r:=hd.sl.froz
 obtain⟨w,h1,h2,h3⟩:=OW t c zT aT fT a7 a8 a9 a10 aw av hT hC hN hL d dT hd hlen
 rw[show(if eO t c≠0 then eO t c else mi c t.fl d)=dE t c d from rfl]at h1 h2
 obtain⟨F,hc,hS,I,K,g3⟩:=Zw t c zT aT fT a7 a8 a9 a10 aw av hT hC hN hL d dT hd hlen h0
 have hA:=Ch (t:=t) (c:=c) F hc I zO g3
 have hv:=Zv c a7 a8 a9 a10 aw av (.sl (j5 (gk (de t c d))) 11 false) (de t c d) hC hS hc hA (.inr ⟨false,rfl⟩)
 have hr:=Mw c a7 a8 a9 a10 aw av (.sl (j5 (gk (de t c d))) 11 false) (de t c d) hC hS hc hA (.inr ⟨false,rfl⟩)
 rw[h2 h0]at h1
 rw[h0]at h1
 generalize jG (de t c d) (RW c)=q at*
 generalize mq (de t c d) (crS c)=q2 at*
 generalize j5 (gk (de t c d))=AC at*
 unfold aR at*
 refine⟨?_, ?_⟩
 ·rw[an ahp (by simp[TR])]
  simp only[qA,seval,TR,h1,hv,D,r,Nl,avK]
 ·rw[an ahq (by simp[TS])]
  simp only[qA,seval,TS,h1,hr,D,r,Nl,avL]
theorem afG: ∃v,ae pE 106 [.agg [zT,aT,fT],.agg (aR c a7 a8 a9 a10 aw av),dT] []=some (.tup [.agg (jl (RY t c d).1 v),.i .i64 (RY t c d).2],[])∧LgT (RY t c d).1 v:=by
 have I:=zX t c zT aT fT a7 a8 a9 a10 aw av hT hC
 have r:=hd.sl.froz
 obtain⟨w,h1,h2,h3⟩:=afF t c zT aT fT a7 a8 a9 a10 aw av hT hC hN hL d dT hd hlen
 rw[afE]
 by_cases h0:dE t c d=0
 ·rw[if_neg (by simp[h0])]
  obtain⟨X,hc,hS,Y,g2,g3⟩:=Zw t c zT aT fT a7 a8 a9 a10 aw av hT hC hN hL d dT hd hlen h0
  obtain⟨n,h4,h5⟩:=h3 h0
  rw[h0]at h1
  by_cases K:jL t c d=true
  ·have O:=h5.2 K
   subst O
   rw[if_pos K]
   have h4:lenI w=some (.i .i64 0):=h4
   obtain⟨k1,k2⟩:=ana t c zT aT fT a7 a8 a9 a10 aw av hT hC hN hL d dT hd hlen h0
   have U:=JU t c zT aT fT a7 a8 a9 a10 aw av hT hC X hc d dT hd Y zO g3
   obtain⟨i,j,r1,r2,hi,hj,ef,eg,ha,hb⟩:=Et t zT aT fT hT X d dT hd Y zO g3
   obtain⟨fc,Z,f2⟩:=hT.f
   obtain⟨r3,D⟩:=ot Z f2 i hi
   obtain⟨r4,F⟩:=ot Z f2 j hj
   rw[←ef]at D
   rw[←eg]at F
   have hw:=iA (k:=d.length) zO zO
   have dm:=hd.sl.lenI
   have V:=fun lh sh=>hd.sl.slC (lh:=lh) (sh:=sh) (iC d)
   have zS:d.length*16≤roomy:=by unfold roomy;omega
   have JS:=iC d
   have fe:isNe dT=true:=by
    rcases hd.sl with⟨_,h,_⟩|⟨ex,rfl⟩
    ·omega
    ·cases hq:d.length with
     |zero=>omega
     |succ m=>rfl
   obtain⟨m,hm⟩: ∃m,d.length=m+1:=⟨d.length-1,by omega⟩
   have fS: ∀lh sh,appW lh sh 49 2 16 .nilsl dT=some (.isl .L 49 ((ab lh 49).g+1) 0 d.length 2,iK lh 49 ⟨(ab lh 49).g+1,.cells (gh d) 0 false⟩):=fun lh sh=>by
    unfold appW
    rw[V,Option.bind_some,hm,uX,if_pos (by rw[←hm];exact zS)]
   have W:d.length*2≤(gh d).length:=zO
   have Af:List.take (d.length*2) (gh d)=gh d:=List.take_of_length_le zO
   refine⟨.sl (gh d) d.length false, ?_,.inr ⟨false,rfl⟩⟩
   unfold cJ jl at*
   simp only
   generalize oD c (dt t.fl d 0)=x1 at*
   generalize oE c (dt t.fl d (d.length-1))=x2 at*
   generalize jG (de t c d) (RW c)=x5 at*
   generalize mq (de t c d) (crS c)=x6 at*
   generalize dt t.fl d 0=f at*
   generalize dt t.fl d (d.length-1)=g at*
   unfold aR at*
   rw[an Na (by simp[Fg])]
   simp only[qA,seval,bp,wY,aJ,gv,Fg,h1,h4,k1,k2,U,ha,hb,D,F,hw,dm,fe,fS,W,Af,I,r,Int.lt_irrefl,U0,aho,avA,avB]
  ·rw[if_neg K]
   have O:(0:Int)<(n:Int):=by
    grind
   refine⟨.nilsl, ?_,.inl ⟨rfl,rfl,rfl⟩⟩
   unfold jl Er aR at*
   rw[an Na (by simp[Fg])]
   simp only[qA,seval,Fg,h1,h4,O,I,r,U0]
 ·rw[if_pos h0]
  refine⟨.nilsl, ?_,.inl ⟨rfl,rfl,rfl⟩⟩
  generalize dE t c d=e at*
  unfold jl Er aR at*
  rw[an Na (by simp[Fg])]
  simp only[qA,seval,Fg,h1,h0,I,r,U0]
end
theorem aGF(L:List Int)(a b:T)(r:IsSl a L.length (ints L))(F:IsSl b L.length (ints L))(hlen:L.length≤4611686018427387000)(fr:Fr)(lh:aB ah)(sh:List ah)(h0:aa fr 0=a)(h1:aa fr 1=b)(h5:aa fr 5= .i .i64 0):
  mI 26 Au fr lh sh (.ext 0)∧(iF pE 26 Au fr lh sh=sh):=by
 refine dJ (fun k st=> ∃(fr:Fr) (lh:aB ah),st=⟨fr,lh,sh⟩∧aa fr 0=a∧aa fr 1=b∧aa fr 5= .i .i64 (k:Int)) (fun V W I=>I=sh) _ L.length ?_ ?_ fr lh sh ⟨fr,lh,rfl,h0,h1,h5⟩
 ·rintro k _ hk ⟨fr,lh,rfl,h0,h1,h5⟩
  have K:(k:Int)<L.length:=zO
  have O:=aI (k:=k) zO
  obtain⟨X,U⟩:=ints_at r k hk
  obtain⟨Y,KP⟩:=ints_at F k hk
  have D:=r.lenI
  generalize L[k]=y at*
  simp only[qA,seval,Au,h0,h1,h5,D,K,U,KP,O]
  exact cS ⟨_,_,rfl,by simp only[qA,seval,h0],by simp only[qA,seval,h1],by simp only[qA,seval]⟩
 ·rintro _ ⟨fr,lh,rfl,h0,h1,h5⟩
  have D:=r.lenI
  simp only[qA,seval,Au,h0,h5,D,Int.lt_irrefl]
  exact eL ⟨rfl,rfl⟩
theorem anb(L:List Int)(a b:T)(D:IsSl a L.length (ints L))(F:IsSl b L.length (ints L))(hlen:L.length≤4611686018427387000):ae pE 33 [a,b] []=some (.b true,[]):=by
 have hL:=fun fr lh sh h0 h1 h5=>aGF L a b D F hlen fr lh sh h0 h1 h5
 have Oz:=D.lenI
 have r:=F.lenI
 rw[an akf (by simp[c33])]
 simp only[qA,seval,c33,Oz,r,hL]
theorem anc(i:Int)(h:Bool):ae pE 147 [.agg [.i .i64 i,.b h],.agg [.i .i64 i,.b h]] []=some (.i .i64 0,[]):=by
 have r:=Ag h
 have D:wr .i64 (nq h-nq h)=0:=by rw[Int.sub_self];rfl
 rw[an UQ (by simp[TJ])]
 simp only[qA,seval,bp,aJ,TJ,r,D,Nj,U5]
theorem ane(n:Int):ae pE 148 [.i .i64 n,.i .i64 n] []=some (.i .i64 0,[]):=by
 have r:=Ag false
 have e:nq false=0:=rfl
 rw[e]at r
 rw[an ahf (by simp[TK])]
 simp only[qA,seval,TK,r,Int.lt_irrefl,Nj]
theorem ajl{d:List (Int×Bool)}{v:T}(h:IsSl v d.length (gh d))(j:Nat)(D:j<d.length): ∃r,∀kk,dV v (.i kk (j:Int)) 2=some (.vp (.i .i64 d[j].1:: .b d[j].2::r)):=qd (Dq.of h) j D
theorem aGG(d:List (Int×Bool))(a b:T)(r:IsSl a d.length (gh d))(K:IsSl b d.length (gh d))(hlen:d.length≤4611686018427387000)(fr:Fr)(lh:aB ah)(sh:List ah)(h0:aa fr 0=a)(h1:aa fr 1=b)(h5:aa fr 5= .i .i64 0):
  mI 36 ue fr lh sh (.ext 0)∧(iF pE 36 ue fr lh sh=sh):=by
 refine dJ (fun k st=> ∃(fr:Fr) (lh:aB ah),st=⟨fr,lh,sh⟩∧aa fr 0=a∧aa fr 1=b∧aa fr 5= .i .i64 (k:Int)) (fun X Y O=>O=sh) _ d.length ?_ ?_ fr lh sh ⟨fr,lh,rfl,h0,h1,h5⟩
 ·rintro k _ hk ⟨fr,lh,rfl,h0,h1,h5⟩
  have U:(k:Int)<d.length:=zO
  have V:=aI (k:=k) zO
  obtain⟨Z,W⟩:=ajl r k hk
  obtain⟨r2,KP⟩:=ajl K k hk
  have D:=r.lenI
  have F:=K.lenI
  have I:=anc d[k].1 d[k].2
  generalize d[k]=y at*
  simp only[qA,seval,bp,aJ,ue,h0,h1,h5,D,F,U,W,KP,V,I,avr,avs]
  exact cS ⟨_,_,rfl,by simp only[qA,seval,h0],by simp only[qA,seval,h1],by simp only[qA,seval]⟩
 ·rintro _ ⟨fr,lh,rfl,h0,h1,h5⟩
  have D:=r.lenI
  simp only[qA,seval,ue,h0,h5,D,Int.lt_irrefl]
  exact eL ⟨rfl,rfl⟩
theorem anf(d:List (Int×Bool))(a b:T)(F:IsSl a d.length (gh d))(I:IsSl b d.length (gh d))(hlen:d.length≤4611686018427387000):ae pE 101 [a,b] []=some (.i .i64 0,[]):=by
 have hL:=fun fr lh sh h0 h1 h5=>aGG d a b F I hlen fr lh sh h0 h1 h5
 have Oz:=F.lenI
 have r:=I.lenI
 have D:=ane (d.length:Int)
 rw[an agF (by simp[Ti])]
 simp only[qA,seval,Ti,apv,Oz,r,hL,D,avt]
theorem ang(g:Lg)(a b:T)(F:LgT g a)(I:LgT g b)(hlen:g.du.length≤4611686018427387000):ae pE 26 [.agg (jl g a),.agg (jl g b)] []=some (.b true,[]):=by
 have r:=anf g.du a b F I hlen
 have K:=F.froz
 have O:=I.froz
 have D:ae pE 60 [a,b] []=some (.b true,[]):=by
  rw[an auv (by simp[c60])]
  simp only[qA,seval,c60,r,K,O,au5]
 unfold jl
 rw[an akd (by simp[c26])]
 simp only[qA,seval,c26,D,K,O,aDi]
end Go.Proofs.YtcpceiclnbmgiaaGreat
namespace Go.Proofs.YtcpceiclnbmgiaaGreat
open Go.Ev
def Sm:Nat→(Nat→Nat)→Nat
 |0,_=>0
 |n+1,f=>Sm n f+f n
theorem bH{f g:Nat→Nat}: ∀{n:Nat},(∀i,i<n→f i=g i)→Sm n f=Sm n g
 |0,_=>rfl
 |n+1,h=>by rw[Sm,Sm,bH (fun i hi=>h i zO),h n zO]
theorem tO(f g:Nat→Nat): ∀n,Sm n (fun i=>f i+g i)=Sm n f+Sm n g
 |0=>rfl
 |n+1=>by simp only[Sm,tO f g n];omega
theorem xp(c:Nat)(f:Nat→Nat): ∀n,Sm n (fun i=>c*f i)=c*Sm n f
 |0=>rfl
 |n+1=>by simp only[Sm,xp c f n,Nat.mul_add]
theorem afH(c:Nat)(f:Nat→Nat)(n:Nat):Sm n (fun i=>f i*c)=Sm n f*c:=by
 rw[Nat.mul_comm,←xp];exact bH fun i _=>Nat.mul_comm _ _
theorem kF: ∀n,Sm n (fun _=>0)=0
 |0=>rfl
 |n+1=>by rw[Sm,kF n]
theorem vQ(f:Nat→Nat→Nat)(m:Nat): ∀n,Sm n (fun i=>Sm m fun j=>f i j)=Sm m fun j=>Sm n fun i=>f i j
 |0=>by simp only[Sm,kF]
 |n+1=>by simp only[Sm,vQ f m n];rw[←tO]
theorem Cj(f:Nat→Nat): ∀n,Sm (n+1) f=f 0+Sm n fun i=>f (i+1)
 |0=>by simp[Sm]
 |n+1=>by rw[Sm,Cj f n,Sm];omega
def cv(p q:Nat→Nat)(h:Nat):Nat:=Sm (h+1) fun i=>p i*q (h-i)
def sf(p:Nat→Nat):Nat→Nat
 |0=>0
 |h+1=>p h
theorem Zx(p q:Nat→Nat): ∀h,cv (sf p) q h=match h with|0=>0|h+1=>cv p q h
 |0=>by simp[cv,Sm,sf]
 |h+1=>by
  unfold cv
  rw[Cj]
  simp only[sf,Nat.zero_mul,Nat.zero_add]
  exact bH fun i hi=>by rw[show h+1-(i+1)=h-i by omega]
theorem anh(p q:Nat→Nat): ∀h,cv p (sf q) h=match h with|0=>0|h+1=>cv p q h
 |0=>by simp[cv,Sm,sf]
 |h+1=>by
  unfold cv
  rw[Sm]
  simp only[Nat.sub_self,sf,Nat.mul_zero,Nat.add_zero]
  exact bH fun i hi=>by rw[show h+1-i=(h-i)+1 by omega]
theorem afI(p q r:Nat→Nat)(h:Nat):cv (fun i=>p i+q i) r h=cv p r h+cv q r h:=by
 unfold cv;rw[←tO];exact bH fun i _=>Nat.add_mul _ _ _
theorem afJ(p q r:Nat→Nat)(h:Nat):cv p (fun i=>q i+r i) h=cv p q h+cv p r h:=by
 unfold cv;rw[←tO];exact bH fun i _=>Nat.mul_add _ _ _
theorem ani(n:Nat)(p:Nat→Nat→Nat)(r:Nat→Nat)(h:Nat):cv (fun i=>Sm n fun f=>p f i) r h=Sm n fun f=>cv (p f) r h:=by
 unfold cv;rw[←vQ];exact bH fun i _=>(afH _ _ _).symm
theorem anj(n:Nat)(p:Nat→Nat)(r:Nat→Nat→Nat)(h:Nat):cv p (fun i=>Sm n fun f=>r f i) h=Sm n fun f=>cv p (r f) h:=by
 unfold cv;rw[←vQ];exact bH fun i _=>(xp _ _ _).symm
theorem ajm(c:Nat)(p q:Nat→Nat)(h:Nat):cv (fun i=>c*p i) q h=c*cv p q h:=by
 unfold cv;rw[←xp];exact bH fun i _=>Nat.mul_assoc _ _ _
theorem ajn(c:Nat)(p q:Nat→Nat)(h:Nat):cv p (fun i=>c*q i) h=c*cv p q h:=by
 unfold cv;rw[←xp];exact bH fun i _=>by rw[Nat.mul_left_comm]
def pO:Nat→Nat
 |0=>1
 |_+1=>0
theorem ank(p:Nat→Nat): ∀h,cv p pO h=p h:=by
 intro h
 unfold cv
 rw[Sm,Nat.sub_self,pO,Nat.mul_one]
 have:Sm h (fun i=>p i*pO (h-i))=0:=by
  rw[←kF h]
  exact bH fun i hi=>by rw[show h-i=(h-i-1)+1 by omega,pO,Nat.mul_zero]
 omega
theorem OZ(p:Nat→Nat)(h:Nat):cv pO p h=p h:=by
 unfold cv
 rw[Cj,pO,Nat.one_mul,Nat.sub_zero]
 have:Sm h (fun i=>pO (i+1)*p (h-(i+1)))=0:=by
  rw[←kF h]
  exact bH fun i _=>by rw[pO,Nat.zero_mul]
 omega
section
variable(N:Nat)(J:Nat→Nat→Bool)(aH:Nat→Bool)
def lA(b:Bool):Nat:=if b then 1 else 0
def EA(g:Nat)(p:Nat→Nat)(h:Nat):Nat:=lA (aH g)*p h+sf p h
def cA:Nat→Nat→Nat→Nat
 |0,_,_=>0
 |1,g,h=>EA aH g pO h
 |k+2,g,h=>EA aH g (fun h=>Sm N fun f=>lA (J f g)*cA (k+1) f h) h
def cB:Nat→Nat→Nat→Nat
 |0,_,_=>0
 |1,i,h=>EA aH i pO h
 |k+2,i,h=>EA aH i (fun h=>Sm N fun j=>lA (J i j)*cB (k+1) j h) h
def cC(k f h:Nat):Nat:=match k with|0=>pO h|k+1=>Sm N fun j=>lA (J f j)*cB N J aH (k+1) j h
theorem O0(k i h:Nat):cB N J aH (k+1) i h=EA aH i (fun h=>cC N J aH k i h) h:=by
 cases k <;> rfl
theorem afK(g:Nat)(p q:Nat→Nat)(h:Nat):cv p (fun h=>EA aH g q h) h=lA (aH g)*cv p q h+cv p (sf q) h:=by
 unfold EA;rw[afJ,ajn]
theorem O1(g:Nat)(p q:Nat→Nat)(h:Nat):cv (fun h=>EA aH g p h) q h=lA (aH g)*cv p q h+cv (sf p) q h:=by
 unfold EA;rw[afI,ajm]
theorem afL(m k h:Nat):(Sm N fun f=>cv (fun i=>cA N J aH (m+1) f i) (fun i=>cC N J aH (k+1) f i) h)=Sm N fun g=>cv (fun i=>cA N J aH (m+2) g i) (fun i=>cC N J aH k g i) h:=by
 have e1:(Sm N fun f=>cv (fun i=>cA N J aH (m+1) f i) (fun i=>cC N J aH (k+1) f i) h)=Sm N fun g=>cv (fun i=>Sm N fun f=>lA (J f g)*cA N J aH (m+1) f i) (fun i=>cB N J aH (k+1) g i) h:=by
  have: ∀f,cv (fun i=>cA N J aH (m+1) f i) (fun i=>cC N J aH (k+1) f i) h=Sm N fun g=>lA (J f g)*cv (fun i=>cA N J aH (m+1) f i) (fun i=>cB N J aH (k+1) g i) h:=by
   intro f
   rw[show(fun i=>cC N J aH (k+1) f i)=fun i=>Sm N fun j=>lA (J f j)*cB N J aH (k+1) j i from rfl,anj]
   exact bH fun g _=>ajn _ _ _ _
  simp only[this]
  rw[vQ]
  refine bH fun g _=> ?_
  rw[ani]
  exact bH fun f _=>(ajm _ _ _ _).symm
 rw[e1]
 refine bH fun g _=> ?_
 rw[show(fun i=>cB N J aH (k+1) g i)=fun i=>EA aH g (fun h=>cC N J aH k g h) i from funext fun i=>O0 N J aH k g i,afK,show(fun i=>cA N J aH (m+2) g i)=fun i=>EA aH g (fun h=>Sm N fun f=>lA (J f g)*cA N J aH (m+1) f h) i from rfl,O1,Zx,anh]
theorem cAB(k h:Nat):(Sm N fun g=>cA N J aH (k+1) g h)=Sm N fun i=>cB N J aH (k+1) i h:=by
 have r: ∀k m,(Sm N fun f=>cv (fun i=>cA N J aH (m+1) f i) (fun i=>cC N J aH k f i) h)=Sm N fun f=>cv (fun i=>cA N J aH (m+k+1) f i) (fun i=>cC N J aH 0 f i) h:=by
  intro k
  induction k with
  |zero=>intro m;rfl
  |succ k ih=>intro m;rw[afL,ih (m+1),show m+1+k+1=m+(k+1)+1 by omega]
 have h1:=r k 0
 rw[show 0+k+1=k+1 by omega]at h1
 have e2:(Sm N fun f=>cv (fun i=>cA N J aH (k+1) f i) (fun i=>cC N J aH 0 f i) h)=Sm N fun g=>cA N J aH (k+1) g h:=bH fun f _=>ank _ _
 have e3:(Sm N fun f=>cv (fun i=>cA N J aH 1 f i) (fun i=>cC N J aH k f i) h)=Sm N fun i=>cB N J aH (k+1) i h:=bH fun f _=>by
  rw[show(fun i=>cA N J aH 1 f i)=fun i=>EA aH f pO i from rfl,O1,OZ,Zx,O0]
  unfold EA
  cases h with
  |zero=>rfl
  |succ h=>simp only[sf,OZ]
 rw[←e2,←h1]
 exact e3
end
section
variable(N H:Nat)(J:Nat→Nat→Bool)(aH:Nat→Bool)
def Ck(h g w:Nat)(n:Nat→Nat→Nat):Nat→Nat→Nat:=fun r D=>n r D+(if D=g then(if r=h then lA (aH D)*w else 0)+(if r=h+1∧h<H then w else 0)else 0)
def Dw(h g w:Nat):Nat:=lA (aH g)*w+(if h<H then w else 0)
def dM(f:Nat):List Nat:=(List.range N).filter fun g=>J f g
def rnG(h w:Nat):List Nat→(Nat→Nat→Nat)→Nat→Nat→Nat
 | [],n=>n
 |g::l,n=>rnG h w l (Ck H aH h g w n)
def rnF(r:Nat→Nat→Nat)(h:Nat):Nat→(Nat→Nat→Nat)→Nat→Nat→Nat
 |0,n=>n
 |k+1,n=>rnG H aH h (r h k) (dM N J k) (rnF r h k n)
def Zy(r:Nat→Nat→Nat):Nat→Nat→Nat→Nat
 |0=>fun _ _=>0
 |k+1=>rnF N H J aH r k N (Zy r k)
theorem Mx(h w:Nat): ∀(l:List Nat) (n:Nat→Nat→Nat) (D r:Nat),rnG H aH h w l n D r=n D r+l.count r*((if D=h then lA (aH r)*w else 0)+(if D=h+1∧h<H then w else 0))
 | [],n,D,r=>by simp[rnG]
 |g::l,n,D,r=>by
  rw[rnG,Mx h w l,Ck,List.count_cons]
  by_cases e:r=g
  ·subst e
   simp only[if_true,BEq.rfl,Nat.add_mul,Nat.one_mul]
   omega
  ·have e2:(g==r)=false:=by simpa using fun h=>e h.symm
   simp only[if_neg e,e2,Bool.false_eq_true,if_false,Nat.add_zero]
theorem xq{g:Nat}: ∀{n:Nat},g<n→(List.range n).count g=1
 |n+1,h=>by
  rw[List.range_succ,List.count_append]
  by_cases e:g=n
  ·subst e
   rw[List.count_eq_zero_of_not_mem xv]
   simp
  ·rw[xq (n:=n) zO,List.count_cons]
   simp
   exact fun h=>e h.symm
theorem Sc(f g:Nat)(r:g<N):(dM N J f).count g=lA (J f g):=by
 unfold dM lA
 by_cases h:J f g=true
 ·rw[List.count_filter h,if_pos h]
  exact xq r
 ·rw[if_neg h]
  exact List.count_eq_zero_of_not_mem fun D=>h (List.mem_filter.1 D).2
theorem Zz(r:Nat→Nat→Nat)(h:Nat): ∀(k:Nat) (n:Nat→Nat→Nat) (F D:Nat),D<N→rnF N H J aH r h k n F D=n F D+Sm k fun f=>lA (J f D)*((if F=h then lA (aH D)*r h f else 0)+(if F=h+1∧h<H then r h f else 0))
 |0,n,F,D,_=>rfl
 |k+1,n,F,D,I=>by
  rw[rnF,Mx,Zz r h k n F D I,Sc N J k D I,Sm]
  omega
theorem ZA(r:Nat→Nat→Nat): ∀(k:Nat) (F D:Nat),k≤H+1→D<N→Zy N H J aH r k F D=Sm k fun h=>Sm N fun f=>lA (J f D)*((if F=h then lA (aH D)*r h f else 0)+(if F=h+1∧h<H then r h f else 0))
 |0,F,D,_,_=>rfl
 |k+1,F,D,hk,I=>by
  rw[Zy,Zz N H J aH r k N _ F D I,ZA r k F D zO I,Sm]
theorem sq(f:Nat→Nat)(j:Nat): ∀n,Sm n (fun i=>if i=j then f i else 0)=if j<n then f j else 0
 |0=>rfl
 |n+1=>by
  rw[Sm,sq f j n]
  by_cases h:n=j
  ·subst h;simp
  ·rw[if_neg h]
   by_cases h2:j<n
   ·rw[if_pos h2,if_pos zO];omega
   ·rw[if_neg h2,if_neg zO]
theorem ZB(r:Nat→Nat→Nat)(D F:Nat)(O:D≤H)(I:F<N):Zy N H J aH r (H+1) D F=EA aH F (fun h=>Sm N fun f=>lA (J f F)*r h f) D:=by
 rw[ZA N H J aH r (H+1) D F (Nat.le_refl _) I]
 have e:(Sm (H+1) fun h=>Sm N fun f=>lA (J f F)*((if D=h then lA (aH F)*r h f else 0)+(if D=h+1∧h<H then r h f else 0)))=
   (Sm (H+1) fun h=>if h=D then lA (aH F)*Sm N (fun f=>lA (J f F)*r h f)else 0)+Sm (H+1) fun h=>if h+1=D then(if h<H then Sm N (fun f=>lA (J f F)*r h f)else 0)else 0:=by
  rw[←tO]
  refine bH fun h _=> ?_
  by_cases h1:h=D
  ·subst h1
   have h2: ¬h=h+1:=zO
   simp only[if_true,h2,false_and,if_false,Nat.add_zero,show¬h+1=h by omega]
   rw[←xp]
   exact bH fun f _=>Nat.mul_left_comm _ _ _
  ·have K: ¬D=h:=fun e=>h1 e.symm
   simp only[if_neg h1,if_neg K,Nat.zero_add]
   by_cases h2:h+1=D
   ·have Lj:D=h+1:=h2.symm
    by_cases h3:h<H
    ·simp only[Lj,h3,and_self,if_true]
    ·simp only[Lj,h3,and_false,if_false,if_true,Nat.mul_zero,kF]
   ·have Lj: ¬D=h+1:=fun e=>h2 e.symm
    simp only[if_neg h2,Lj,false_and,if_false,Nat.mul_zero,kF]
 rw[e,sq,if_pos zO]
 unfold EA
 congr 1
 cases D with
 |zero=>
  exact(bH (g:=fun _=>0) fun h _=>if_neg (Nat.succ_ne_zero h)).trans (kF _)
 |succ m=>
  rw[sf]
  have:(Sm (H+1) fun h=>if h+1=m+1 then(if h<H then Sm N (fun f=>lA (J f F)*r h f)else 0)else 0)=Sm (H+1) fun h=>if h=m then(if h<H then Sm N (fun f=>lA (J f F)*r h f)else 0)else 0:=bH fun h _=>by
   by_cases e:h=m
   ·rw[if_pos e,if_pos zO]
   ·rw[if_neg e,if_neg zO]
  rw[this,sq,if_pos zO,if_pos zO]
def O2(n:Nat→Nat→Nat):Nat:=Sm (H+1) fun h=>Sm N fun g=>n h g
theorem afM(h g w:Nat)(n:Nat→Nat→Nat)(I:h≤H)(F:g<N):O2 N H (Ck H aH h g w n)=O2 N H n+Dw H aH h g w:=by
 unfold O2 Ck
 simp only[tO]
 congr 1
 have e: ∀r,(Sm N fun D=>if D=g then(if r=h then lA (aH D)*w else 0)+(if r=h+1∧h<H then w else 0)else 0)=(if r=h then lA (aH g)*w else 0)+(if r=h+1∧h<H then w else 0):=fun r=>by
  rw[sq (fun D=>(if r=h then lA (aH D)*w else 0)+(if r=h+1∧h<H then w else 0)),if_pos F]
 simp only[e,tO]
 unfold Dw
 congr 1
 ·rw[sq (fun _=>lA (aH g)*w),if_pos zO]
 ·by_cases hl:h<H
  ·simp only[hl,and_true,if_true]
   rw[sq (fun _=>w),if_pos zO]
  ·simp only[hl,and_false,if_false,kF]
def tnG(h w:Nat):List Nat→Nat→Nat
 | [],t=>t
 |g::l,t=>tnG h w l (t+Dw H aH h g w)
def tnF(r:Nat→Nat→Nat)(h:Nat):Nat→Nat→Nat
 |0,t=>t
 |k+1,t=>tnG H aH h (r h k) (dM N J k) (tnF r h k t)
def tnH(r:Nat→Nat→Nat):Nat→Nat→Nat
 |0,t=>t
 |k+1,t=>tnF N H J aH r k N (tnH r k t)
theorem My(h w:Nat)(r:h≤H): ∀(l:List Nat) (n:Nat→Nat→Nat) (t:Nat),(∀g∈l,g<N)→tnG H aH h w l t+O2 N H n=t+O2 N H (rnG H aH h w l n)
 | [],n,t,_=>rfl
 |g::l,n,t,hl=>by
  have:=My h w r l (Ck H aH h g w n) (t+Dw H aH h g w) fun x hx=>hl x (List.mem_cons_of_mem _ hx)
  rw[afM N H aH h g w n r (hl g List.mem_cons_self)]at this
  rw[tnG,rnG]
  omega
theorem ZC(r:Nat→Nat→Nat)(h:Nat)(D:h≤H)(n:Nat→Nat→Nat)(t:Nat): ∀k,tnF N H J aH r h k t+O2 N H n=t+O2 N H (rnF N H J aH r h k n)
 |0=>rfl
 |k+1=>by
  have h1:=ZC r h D n t k
  have h2:=My N H aH h (r h k) D (dM N J k) (rnF N H J aH r h k n) (tnF N H J aH r h k t) fun g F=>List.mem_range.1 (List.mem_filter.1 F).1
  rw[tnF,rnF]
  omega
theorem ZD(r:Nat→Nat→Nat)(t:Nat): ∀k,k≤H+1→tnH N H J aH r k t=t+O2 N H (Zy N H J aH r k)
 |0,_=>by
  rw[tnH,Zy]
  unfold O2
  simp only[kF,Nat.add_zero]
 |k+1,hk=>by
  have h1:=ZD r t k zO
  have h2:=ZC N H J aH r k zO (Zy N H J aH r k) (tnH N H J aH r k t) N
  rw[tnH,Zy]
  omega
end
end Go.Proofs.YtcpceiclnbmgiaaGreat
