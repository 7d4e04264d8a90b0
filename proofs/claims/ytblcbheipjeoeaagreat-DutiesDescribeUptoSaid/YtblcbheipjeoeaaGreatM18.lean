/- Walks of functions of the program and of the reference, and their plain laws, part 18. Conditions: the theorems' own. -/
import Derived.Test.YtblcbheipjeoeaaGreatM17
import Derived.KernelRfl
set_option maxRecDepth 100000
set_option linter.unusedSimpArgs false
set_option linter.unusedVariables false
set_option maxHeartbeats 16000000
namespace Go.Proofs.YtblcbheipjeoeaaGreat
open Go Go.Ev
def rX(c:Ct)(A:List Int)(k:Nat):List (List Nat):=((c.ru.take k).filter fun u=>u.sc==1&&decide (vE c.cs A u.x=0)).map Ru.nm
def FT(l:List (List Nat)):List T:=l.flatMap fun s=> [.i .i64 1,.i .i64 0,.s s]
theorem YP(l:List (List Nat))(s:List Nat):FT l++ [.i .i64 1,.i .i64 0,.s s]=FT (l++ [s]):=by unfold FT;rw[List.flatMap_append];rfl
theorem SW(c:Ct)(A:List Int){k:Nat}(i:k<c.ru.length):rX c A (k+1)=if c.ru[k].sc=1∧vE c.cs A c.ru[k].x=0 then rX c A k++ [c.ru[k].nm]else rX c A k:=by
 unfold rX
 rw[List.take_succ_eq_append_getElem i,List.filter_append,List.map_append]
 by_cases h:c.ru[k].sc=1∧vE c.cs A c.ru[k].x=0
 ·rw[if_pos h];simp[h.1,h.2]
 ·rw[if_neg h]
  have:(c.ru[k].sc==1&&decide (vE c.cs A c.ru[k].x=0))=false:=by
   cases r:(c.ru[k].sc==1&&decide (vE c.cs A c.ru[k].x=0))with
   |false=>rfl
   |true=>exact absurd (by simpa using r) h
  simp[this]
theorem ac8(c:Ct)(A:List Int)(k:Nat):(rX c A k).length≤k:=by
 unfold rX
 rw[List.length_map]
 exact Nat.le_trans (List.length_filter_le _ _) (by rw[List.length_take];omega)
theorem KT.ty0{l:Cs}{x:Ex}(h:KT l 1 x):x.nodes≤100000∧x.wf=true∧ ∃k,x.ty (PX (Is l) 1) 0=(k,0):=by
 obtain⟨_,hv,k,i⟩:=h
 have:=(oa hv).1
 exact⟨by omega,na hv,k,by rw[←YQ];exact i⟩
theorem ajP{t:Tt}{c:Ct}(hc:my c=0){A:List Int}(hA:Lb A):(rX c A c.ru.length= []↔uc A (ruS c)=true):=by
 have F:=(sS c hc).1
 have i: ∀l:List Ru,(∀u∈l,KT c.cs u.sc u.x)→(((l.filter fun u=>u.sc==1&&decide (vE c.cs A u.x=0)).map Ru.nm= [])↔uc A ((l.filter fun u=>u.sc==1).map fun u=>(u.nm,comp (mw c.cs) u.sc u.x))=true):=by
  intro l
  induction l with
  |nil=>intro _;simp[uc]
  |cons u l ih=>
   intro h
   have ih:=ih fun v hv=>h v (by simp[hv])
   by_cases hs:u.sc=1
   ·have E:=h u (by simp)
    rw[hs]at E
    have hv:=(SL hA E).2.1
    have r:((u::l).filter fun u=>u.sc==1).map (fun u=>(u.nm,comp (mw c.cs) u.sc u.x))=(u.nm,comp (mw c.cs) 1 u.x)::(l.filter fun u=>u.sc==1).map fun u=>(u.nm,comp (mw c.cs) u.sc u.x):=by simp[hs]
    rw[r,show uc A ((u.nm,comp (mw c.cs) 1 u.x)::(l.filter fun u=>u.sc==1).map fun u=>(u.nm,comp (mw c.cs) u.sc u.x))=(decide ((comp (mw c.cs) 1 u.x).val A≠0)&&uc A ((l.filter fun u=>u.sc==1).map fun u=>(u.nm,comp (mw c.cs) u.sc u.x)))from rfl,hv]
    by_cases C:vE c.cs A u.x=0
    ·simp[hs,C]
    ·have D:((u::l).filter fun u=>u.sc==1&&decide (vE c.cs A u.x=0))=l.filter fun u=>u.sc==1&&decide (vE c.cs A u.x=0):=by simp[C]
     rw[D,ih]
     simp[C]
   ·have r:((u::l).filter fun u=>u.sc==1)=l.filter fun u=>u.sc==1:=by simp[hs]
    have D:((u::l).filter fun u=>u.sc==1&&decide (vE c.cs A u.x=0))=l.filter fun u=>u.sc==1&&decide (vE c.cs A u.x=0):=by simp[hs]
    rw[r,D,ih]
 have:=i c.ru F
 unfold rX ruS AG
 rw[List.take_length]
 exact this
section
variable(c:Ct)(a7 a8 a9 a10 hZ hU vT nL:T)(A:List Int)(hC:xG c a7 a8 a9 a10 hZ hU)(hS:AK c)(hc:my c=0)(hv:g8 vT c.cs.length (ints (tr c.cs c.cs.length)))(hA:Lb A)(jZ:g8 nL 11 (px (mA A)))
include hC hc hv hA jZ
theorem NT{x:Ex}(r:KT c.cs 1 x){cs:List T}(h:lK x cs):gS pE 78 [vT,a7,.i .i64 1,nL,.agg cs] []=some (.i .i64 (vE c.cs A x),[]):=by
 obtain⟨⟨C,D,E⟩,_⟩:=hC
 obtain⟨F,H,k,I⟩:=r.ty0
 have:=(sS c hc).2.2.2.2.2.2
 exact ajO c.cs a7 vT nL C A D E (ku (by omega)) hv hA jZ x k cs h F H I
theorem ax8(fr:Fr)(lh:hJ gR)(sh:List gR)(H:an fr 1= .i .i64 1)(I:an fr 2= .i .i64 0)(J:an fr 3=nL)(F:an fr 4= .ptr .L 4 1 0)(h9:an fr 9= .nilsl)(r:an fr 10=vT)(C:an fr 11= .i .i64 0)(D:a6 lh 4=⟨1,.cells (iS c a7 a8 a9 a10 hZ hU) 0 true⟩):
  kV 52 qQ fr lh sh (.ext 0)∧
  (iT (kH pE 52 qQ fr lh sh) (an (kh pE 52 qQ fr lh sh) 9) 50 3 (rX c A c.ru.length).length (FT (rX c A c.ru.length))∧kb pE 52 qQ fr lh sh=sh):=by
 have Y:=hC
 obtain⟨⟨c7,i7,j7⟩,⟨c8,O,j8⟩,⟨c9,i9,j9⟩,⟨vv,i10,vw⟩,⟨yg,i11,xH⟩,⟨yY,i12,yt⟩⟩:=Y
 obtain⟨rZ,hl,_⟩:=sS c hc
 unfold iS at D
 refine jo (fun k st=> ∃(fr:Fr) (lh:hJ gR),st=⟨fr,lh,sh⟩∧an fr 1= .i .i64 1∧an fr 2= .i .i64 0∧an fr 3=nL∧an fr 4= .ptr .L 4 1 0∧an fr 10=vT∧an fr 11= .i .i64 (k:Int)∧a6 lh 4=⟨1,.cells [.i .i64 c.rp,.i .i64 c.rl,.i .i64 c.cn,.i .i64 c.st,.i .i64 c.ly,.i .i64 c.nf,.i .i64 c.nt,a7,a8,a9,a10,hZ,hU,.i .i64 c.gu] 0 true⟩∧iT lh (an fr 9) 50 3 (rX c A k).length (FT (rX c A k)))
  (fun iq N U=>iT N (an iq 9) 50 3 (rX c A c.ru.length).length (FT (rX c A c.ru.length))∧U=sh) _ c.ru.length ?_ ?_ fr lh sh ⟨fr,lh,rfl,H,I,J,F,r,C,D,by rw[h9];exact iT.nil⟩
 ·rintro k _ Z ⟨fr,lh,rfl,H,I,J,F,r,C,D,K⟩
  have iu:(k:Int)<c.ru.length:=by omega
  have hw:=iG (k:=k) (by omega)
  obtain⟨b,cb,rr,iv,jE,hb⟩:=Ck O j8 k Z
  have hx:=rZ _ (List.getElem_mem Z)
  have uR:=ac8 c A k
  have sd:=SW c A Z
  have V:=fun e:c.ru[k].sc=1=>NT c a7 a8 a9 a10 hZ hU vT nL A hC hc hv hA jZ (e▸hx) hb
  rw[sd]
  generalize vE c.cs A c.ru[k].x=q at*
  generalize c.ru[k]=u at*
  have W:=fun(N:hJ gR) (U:List gR) (e:a6 N 50=a6 lh 50)=>(wT (sh:=U) (K.congr e) [.i .i64 1,.i .i64 0,.s u.nm] rfl (bytes:=32) (by unfold roomy;omega) true)
  have wW:=fun(N:hJ gR) (U:List gR) (e:a6 N 50=a6 lh 50)=>(W N U e).1
  have FQ:=K.notS
  generalize E:an fr 9=v9 at K W wW FQ
  have hz:=jZ.froz
  have TC:=hv.froz
  by_cases hs:u.sc=1
  ·have V:=V hs
   by_cases X:q=0
   ·rw[if_pos ⟨hs,X⟩]
    simp only[qA,seval,repl,qQ,H,I,J,F,E,r,C,D,O.lenI,iu,hw,iv,hs,V,X,hz,TC,i7.froz,jE.froz1,FQ,wW,Rc]
    exact iN ⟨_,_,rfl,by simp only[qA,seval,H],by simp only[qA,seval,I],by simp only[qA,seval,J],by simp only[qA,seval,F],by simp only[qA,seval,r],by simp only[qA,seval],by rw[(W _ _ (by simp only[qA,seval])).2.2 4 (by decide)];simp only[qA,seval,D],by simp only[qA,seval];rw[List.length_append,←YP];exact(W _ _ (by simp only[qA,seval])).2.1⟩
   ·rw[if_neg (fun h=>X h.2)]
    simp only[qA,seval,repl,qQ,H,I,J,F,E,r,C,D,O.lenI,iu,hw,iv,hs,V,X,hz,TC,i7.froz,jE.froz1,Rc]
    exact iN ⟨_,_,rfl,by simp only[qA,seval,H],by simp only[qA,seval,I],by simp only[qA,seval,J],by simp only[qA,seval,F],by simp only[qA,seval,r],by simp only[qA,seval],by simp only[qA,seval,D],by simp only[qA,seval,E];exact K.congr (by simp only[qA,seval])⟩
  ·rw[if_neg (fun h=>hs h.1)]
   simp only[qA,seval,repl,qQ,H,I,F,E,C,D,O.lenI,iu,hw,iv,hs]
   exact iN ⟨_,_,rfl,by simp only[qA,seval,H],by simp only[qA,seval,I],by simp only[qA,seval,J],by simp only[qA,seval,F],by simp only[qA,seval,r],by simp only[qA,seval],by simp only[qA,seval,D],by simp only[qA,seval,E];exact K.congr (by simp only[qA,seval])⟩
 ·rintro _ ⟨fr,lh,rfl,H,I,J,F,r,C,D,K⟩
  simp only[qA,seval,qQ,F,C,D,O.lenI,Int.lt_irrefl]
  exact jD ⟨rfl,by simp only[qA,seval];exact K,rfl⟩
end
theorem ctZ{c:Ct}{a7 a8 a9 a10 hZ hU:T}(hC:xG c a7 a8 a9 a10 hZ hU):(froz1 a7=true∧froz1 a8=true∧froz1 a9=true∧froz1 a10=true∧froz1 hZ=true∧froz1 hU=true)∧cellsOf a7= [a7]∧cellsOf a8= [a8]∧cellsOf a9= [a9]∧cellsOf a10= [a10]∧cellsOf hZ= [hZ]∧cellsOf hU= [hU]∧froz a7=true:=by
 obtain⟨⟨_,D,_⟩,⟨_,E,_⟩,⟨_,F,_⟩,⟨_,i,_⟩,⟨_,r,_⟩,⟨_,C,_⟩⟩:=hC
 exact⟨⟨D.froz1,E.froz1,F.froz1,i.froz1,r.froz1,C.froz1⟩,D.cells,E.cells,F.cells,i.cells,r.cells,C.cells,D.froz⟩
section
variable(c:Ct)(a7 a8 a9 a10 hZ hU nL:T)(A:List Int)(hC:xG c a7 a8 a9 a10 hZ hU)(hS:AK c)(hc:my c=0)(hA:Lb A)(jZ:g8 nL 11 (px (mA A)))
include hC hS hc
theorem IP:gS pE 77 [a7] []=some (lJ c.cs.length (ints (tr c.cs c.cs.length)),[])∧g8 (lJ c.cs.length (ints (tr c.cs c.cs.length))) c.cs.length (ints (tr c.cs c.cs.length)):=by
 obtain⟨⟨r,C,D⟩,_⟩:=hC
 have:=(sS c hc).2.2.2.2.2.2
 refine⟨SX c.cs a7 r C D (ku (by omega)) hS.s7.1,oA fun h=> ?_⟩
 have i:=nw c.cs c.cs.length
 rw[h]at i
 unfold ints
 rw[h,List.length_eq_zero_iff.1 i];rfl
include hA jZ
theorem ac9:gS pE 105 [.agg (iS c a7 a8 a9 a10 hZ hU),.i .i64 1,.i .i64 0,nL] []=some (lJ (rX c A c.ru.length).length (FT (rX c A c.ru.length)),[]):=by
 obtain⟨K,hv⟩:=IP c a7 a8 a9 a10 hZ hU hC hS hc
 have hL:=fun fr lh sh D E F H I r C J=>ax8 c a7 a8 a9 a10 hZ hU _ nL A hC hc hv hA jZ fr lh sh D E F H I r C J
 have Ty:=fun keep fr lh sh D E F H I r C J=>iT.fzV (keep:=keep) (sh:=sh) (hL fr lh sh D E F H I r C J).2.1
 have N:=ctZ hC
 generalize lJ c.cs.length (ints (tr c.cs c.cs.length))=vT at*
 unfold iS at*
 rw[gX adO (by simp[TP])]
 simp only[qA,seval,TP,K,N,hL,Ty,Nd,ahC]
omit hS in
theorem aya(vT:T)(hv:g8 vT c.cs.length (ints (tr c.cs c.cs.length)))(fr:Fr)(lh:hJ gR)(sh:List gR)(C:an fr 1= .i .i64 1)(D:an fr 2=nL)(r:an fr 3= .ptr .L 3 1 0)(E:an fr 7= .i .i64 0)(F:an fr 8=vT)(H:an fr 9= .i .i64 0)(I:a6 lh 3=⟨1,.cells (iS c a7 a8 a9 a10 hZ hU) 0 true⟩):
  kV 43 uD fr lh sh (.ext 0)∧
  (an (kh pE 43 uD fr lh sh) 7= .i .i64 (oM A (SN c))∧kb pE 43 uD fr lh sh=sh):=by
 have K:=hC
 obtain⟨⟨c7,Y,j7⟩,⟨c8,i8,j8⟩,⟨c9,J,Z⟩,⟨vv,i10,vw⟩,⟨yg,i11,xH⟩,⟨yY,i12,yt⟩⟩:=K
 obtain⟨_,_,rZ,hl,_⟩:=sS c hc
 unfold iS at I
 unfold SN
 refine jo (fun k st=> ∃(fr:Fr),st=⟨fr,lh,sh⟩∧an fr 1= .i .i64 1∧an fr 2=nL∧an fr 3= .ptr .L 3 1 0∧an fr 7= .i .i64 (oM A (yV c 1 k))∧an fr 8=vT∧an fr 9= .i .i64 (k:Int))
  (fun iq il iw=>an iq 7= .i .i64 (oM A (yV c 1 c.co.length))∧iw=sh) _ c.co.length ?_ ?_ fr lh sh ⟨fr,rfl,C,D,r,E,F,H⟩
 ·rintro k _ N ⟨fr,rfl,C,D,r,E,F,H⟩
  have U:(k:Int)<c.co.length:=by omega
  have V:=iG (k:=k) (by omega)
  obtain⟨b,cb,rr,W,jE,hb⟩:=Ez J Z k N
  have X:=rZ _ (List.getElem_mem N)
  have sd:oM A (yV c 1 (k+1))=if c.co[k].sc=1 then wr .i64 (oM A (yV c 1 k)+vE c.cs A c.co[k].x)else oM A (yV c 1 k):=by
   rw[AH c 1 N]
   by_cases e:c.co[k].sc=1
   ·rw[if_pos e,if_pos e]
    unfold oM
    rw[List.map_append,Lc,List.map_cons,List.map_nil,CI,CI]
    rw[e,(SL hA (e▸X)).2.1]
   ·rw[if_neg e,if_neg e]
  have O:=fun e:c.co[k].sc=1=>NT c a7 a8 a9 a10 hZ hU vT nL A hC hc hv hA jZ (e▸X) hb
  rw[sd]
  generalize vE c.cs A c.co[k].x=q at*
  generalize oM A (yV c 1 k)=p at*
  generalize c.co[k]=u at*
  have hz:=jZ.froz
  have TC:=hv.froz
  by_cases hs:u.sc=1
  ·have O:=O hs
   rw[if_pos hs]
   simp only[qA,seval,iR,iy,uD,C,D,r,E,F,H,I,J.lenI,U,V,W,hs,O,hz,TC,Y.froz,jE.froz1,Rc,aoF]
   exact iN ⟨_,rfl,by simp only[qA,seval,C],by simp only[qA,seval,D],by simp only[qA,seval,r],by simp only[qA,seval],by simp only[qA,seval,F],by simp only[qA,seval]⟩
  ·rw[if_neg hs]
   simp only[qA,seval,iR,iy,uD,C,D,r,E,F,H,I,J.lenI,U,V,W,hs]
   exact iN ⟨_,rfl,by simp only[qA,seval,C],by simp only[qA,seval,D],by simp only[qA,seval,r],by simp only[qA,seval,E],by simp only[qA,seval,F],by simp only[qA,seval]⟩
 ·rintro _ ⟨fr,rfl,C,D,r,E,F,H⟩
  simp only[qA,seval,uD,r,H,I,J.lenI,Int.lt_irrefl]
  exact jD ⟨rfl,by simp only[qA,seval,E],rfl⟩
theorem YR:gS pE 108 [.agg (iS c a7 a8 a9 a10 hZ hU),.i .i64 1,nL] []=some (.i .i64 (oM A (SN c)),[]):=by
 obtain⟨r,hv⟩:=IP c a7 a8 a9 a10 hZ hU hC hS hc
 have hL:=fun fr lh sh C D E F H I J=>aya c a7 a8 a9 a10 hZ hU nL A hC hc hA jZ _ hv fr lh sh C D E F H I J
 have K:=ctZ hC
 generalize lJ c.cs.length (ints (tr c.cs c.cs.length))=vT at*
 generalize oM A (SN c)=q at*
 unfold iS at*
 rw[gX adT (by simp[TS])]
 simp only[qA,seval,TS,r,K,hL,ahC]
theorem NU:gS pE 109 [.agg (iS c a7 a8 a9 a10 hZ hU),nL] []=some (.i .i64 (rV A (Z8 c)),[]):=by
 obtain⟨W,hv⟩:=IP c a7 a8 a9 a10 hZ hU hC hS hc
 have X:=ctZ hC
 have C:=jZ.froz
 have TC:=hv.froz
 have I:=hC
 obtain⟨⟨c7,i7,j7⟩,⟨c8,i8,j8⟩,⟨c9,i9,j9⟩,⟨vv,D,Y⟩,⟨yg,Z,xH⟩,⟨yY,i12,yt⟩⟩:=I
 have E:=D.lenI
 have rZ:=(sS c hc).2.2.2.2.1
 rw[gX adU (by simp[Qs])]
 unfold Z8 Sw
 rw[List.take_length]
 by_cases N:c.cr= []
 ·rw[N]at E ⊢
  have E:lenI a10=some (.i .i64 0):=E
  have O:(mA A).length=11:=by unfold mA;rw[List.length_zip,hA.1];rfl
  have J:(mA A).map Prod.fst=jb:=by unfold mA;exact List.map_fst_zip (by rw[hA.1];exact Nat.le_refl _)
  have F:=P2 [98,108,111,99,107] (mA A) nL (by rw[O];exact jZ) (by omega)
  rw[J,show ixA [98,108,111,99,107] jb 0=3 by decide]at F
  obtain⟨rr,r⟩:=IK (l:=mA A) (v:=nL) (by rw[O];exact jZ) 3 (by omega)
  have JV:(mA A)[3].2=A.getD 3 0:=by
   unfold mA
   rw[List.getElem_zip,List.getD_eq_getElem?_getD,List.getElem?_eq_getElem (by rw[hA.1];decide)];rfl
  rw[JV]at r
  have r: ∀kk,sH nL (.i kk 3) 2=_:=r
  unfold rV iS
  simp only[List.map_nil]
  simp only[qA,seval,Qs,E,F,r,C,ad8]
 ·obtain⟨x,l,H⟩: ∃x l,c.cr=x::l:=List.exists_cons_of_ne_nil N
  have U:0<c.cr.length:=by rw[H];simp
  obtain⟨b,cb,rr,r,jE,oV,hb⟩:=mY D Y 0 U
  have V:=rZ _ (List.getElem_mem U)
  have gZ:=NT c a7 a8 a9 a10 hZ hU _ nL A hC hc hv hA jZ V hb
  have K:=(SL hA V).2.1
  have r: ∀kk,sH a10 (.i kk 0) 4=_:=r
  have lI: ¬(c.cr.length:Int)=0:=by omega
  have e:rV A (c.cr.map fun u=>([],comp (mw c.cs) 1 u))=vE c.cs A c.cr[0]:=by
   rw[←K]
   simp only[H,List.map_cons,rV,List.getElem_cons_zero]
  rw[e]
  generalize vE c.cs A c.cr[0]=q at*
  generalize c.cr[0]=y at*
  generalize lJ c.cs.length (ints (tr c.cs c.cs.length))=vT at*
  unfold iS
  simp only[qA,seval,iR,iy,Qs,E,lI,W,r,gZ,X,C,TC,jE.froz1,ahC,av0,Rc,aoF]
end
def dE(t:Tt)(c:Ct)(d:List (Int×Bool)):Int:=if nq t c≠0 then nq t c else vz c t.fl d
theorem ada(t:Tt)(c:Ct)(d:List (Int×Bool)):BM t c d=if dE t c d≠0 then(TB,dE t c d)else if okS t c d=true then(NR t c d,0)else(TB,15):=by
 unfold BM Lf dE
 by_cases h:nq t c=0
 ·simp only[h,ne_eq,not_true_eq_false,if_false]
 ·rw[if_pos h,if_pos h,if_pos h]
section
variable(t:Tt)(c:Ct)(zT aT fT a7 a8 a9 a10 hZ hU:T)(hT:vq t zT aT fT)(hC:xG c a7 a8 a9 a10 hZ hU)(hN:CtN c)(hL: ∀f∈t.fl,f.nu.length≤l6)(d:List (Int×Bool))(dT:T)(hd:EA d dT)(hlen:d.length≤1000)
include hT hC hN hL hd hlen
theorem YS(h:dE t c d=0):tq t=0∧my c=0∧AK c∧1≤d.length∧d.length≤6∧(∀k∈d,A0 t.fl.length k.1=true):=by
 have _:=hL;have _:=hd;have _:=hlen
 unfold dE at h
 by_cases i:nq t c=0
 ·rw[if_neg (by simp[i])]at h
  obtain⟨r,hc⟩:=Nz t c zT aT fT a7 a8 a9 a10 hZ hU hT hC hN i
  obtain⟨C,D,E,_⟩:=II h
  exact⟨r,hc,hN.sm (G3 c a7 a8 a9 a10 hZ hU hC hc),C,D,E⟩
 ·rw[if_pos i]at h;exact absurd h i
theorem adb: ∃v,gS pE 64 [.agg [zT,aT,fT],.agg (iS c a7 a8 a9 a10 hZ hU),dT] []=some (.tup [v,.i .i64 (dE t c d)],[])∧froz1 v=true∧(dE t c d=0→ ∃n:Nat,lenI v=some (.i .i64 (n:Int))∧(n=0↔okS t c d=true)):=by
 have F:=Yn t c zT aT fT a7 a8 a9 a10 hZ hU hT hC
 have r:=hd.sl.froz
 obtain⟨w,C,H,O⟩:=P1 t c zT aT fT a7 a8 a9 a10 hZ hU hT hC hN hL d dT hd hlen
 rw[show(if nq t c≠0 then nq t c else vz c t.fl d)=dE t c d from rfl]at C H
 by_cases D:dE t c d=0
 ·obtain⟨I,hc,hS,J,U,K⟩:=YS t c zT aT fT a7 a8 a9 a10 hZ hU hT hC hN hL d dT hd hlen D
  have hA:=EN (t:=t) (c:=c) I hc J (by omega) K
  have hv:=ac9 c a7 a8 a9 a10 hZ hU (.sl (px (mA (jU t c d))) 11 false) (jU t c d) hC hS hc hA (.inr ⟨false,rfl⟩)
  have N:=ajP (t:=t) hc hA
  rw[H D]at C
  rw[D]at C ⊢
  refine⟨lJ (rX c (jU t c d) c.ru.length).length (FT (rX c (jU t c d) c.ru.length)), ?_, ?_,fun _=>⟨(rX c (jU t c d) c.ru.length).length, ?_, ?_⟩⟩
  ·have E:froz1 (lJ (rX c (jU t c d) c.ru.length).length (FT (rX c (jU t c d) c.ru.length)))=true:=by unfold lJ;split <;> rfl
   rw[gX ahx (by simp[c64])]
   generalize lJ (rX c (jU t c d) c.ru.length).length (FT (rX c (jU t c d) c.ru.length))=vo at*
   unfold iS at*
   simp only[qA,seval,c64,C,hv,F,r,E,Om,aoQ]
  ·unfold lJ;split <;> rfl
  ·unfold lJ;split
   ·rename_i e;rw[e];rfl
   ·rfl
  ·rw[List.length_eq_zero_iff,N];exact Iff.rfl
 ·refine⟨.nilsl, ?_,rfl,fun h=>absurd h D⟩
  generalize dE t c d=e at*
  rw[gX ahx (by simp[c64])]
  unfold iS at*
  simp only[qA,seval,c64,C,D,F,r,Om]
theorem ajQ(D:dE t c d=0):gS pE 66 [.agg [zT,aT,fT],.agg (iS c a7 a8 a9 a10 hZ hU),dT] []=some (.tup [.i .i64 (oM (jU t c d) (SN c)),.i .i64 0],[])∧gS pE 67 [.agg [zT,aT,fT],.agg (iS c a7 a8 a9 a10 hZ hU),dT] []=some (.tup [.i .i64 (rV (jU t c d) (Z8 c)),.i .i64 0],[]):=by
 have E:=Yn t c zT aT fT a7 a8 a9 a10 hZ hU hT hC
 have r:=hd.sl.froz
 obtain⟨w,C,F,N⟩:=P1 t c zT aT fT a7 a8 a9 a10 hZ hU hT hC hN hL d dT hd hlen
 rw[show(if nq t c≠0 then nq t c else vz c t.fl d)=dE t c d from rfl]at C F
 obtain⟨H,hc,hS,I,O,J⟩:=YS t c zT aT fT a7 a8 a9 a10 hZ hU hT hC hN hL d dT hd hlen D
 have hA:=EN (t:=t) (c:=c) H hc I (by omega) J
 have hv:=YR c a7 a8 a9 a10 hZ hU (.sl (px (mA (jU t c d))) 11 false) (jU t c d) hC hS hc hA (.inr ⟨false,rfl⟩)
 have K:=NU c a7 a8 a9 a10 hZ hU (.sl (px (mA (jU t c d))) 11 false) (jU t c d) hC hS hc hA (.inr ⟨false,rfl⟩)
 rw[F D]at C
 rw[D]at C
 generalize oM (jU t c d) (SN c)=q at*
 generalize rV (jU t c d) (Z8 c)=q2 at*
 generalize px (mA (jU t c d))=AC at*
 unfold iS at*
 refine⟨?_, ?_⟩
 ·rw[gX aoy (by simp[c66])]
  simp only[qA,seval,c66,C,hv,E,r,Om,aoR]
 ·rw[gX aoz (by simp[c67])]
  simp only[qA,seval,c67,C,K,E,r,Om,aoS]
theorem ade: ∃v,gS pE 27 [.agg [zT,aT,fT],.agg (iS c a7 a8 a9 a10 hZ hU),dT] []=some (.tup [.agg (ue (BM t c d).1 v),.i .i64 (BM t c d).2],[])∧LgT (BM t c d).1 v:=by
 have J:=Yn t c zT aT fT a7 a8 a9 a10 hZ hU hT hC
 have r:=hd.sl.froz
 obtain⟨w,F,h2,h3⟩:=adb t c zT aT fT a7 a8 a9 a10 hZ hU hT hC hN hL d dT hd hlen
 rw[ada]
 by_cases C:dE t c d=0
 ·rw[if_neg (by simp[C])]
  obtain⟨V,hc,hS,W,g2,X⟩:=YS t c zT aT fT a7 a8 a9 a10 hZ hU hT hC hN hL d dT hd hlen C
  obtain⟨n,H,Y⟩:=h3 C
  rw[C]at F
  by_cases I:okS t c d=true
  ·have K:=Y.2 I
   subst K
   rw[if_pos I]
   have H:lenI w=some (.i .i64 0):=H
   obtain⟨k1,k2⟩:=ajQ t c zT aT fT a7 a8 a9 a10 hZ hU hT hC hN hL d dT hd hlen C
   have CV:=Lj t c zT aT fT a7 a8 a9 a10 hZ hU hT hC V hc d dT hd W (by omega) X
   obtain⟨i,j,r1,r2,hi,hj,ef,eg,ha,hb⟩:=Ha t zT aT fT hT V d dT hd W (by omega) X
   obtain⟨fc,Z,f2⟩:=hT.f
   obtain⟨r3,D⟩:=tX Z f2 i hi
   obtain⟨r4,E⟩:=tX Z f2 j hj
   rw[←ef]at D
   rw[←eg]at E
   have hw:=oF (k:=d.length) (by omega) (by omega)
   have nV:=hd.sl.lenI
   have N:=fun lh sh=>hd.sl.slC (lh:=lh) (sh:=sh) (AQ d)
   have C3:d.length*16≤roomy:=by unfold roomy;omega
   have hdl:=AQ d
   have lI:isNe dT=true:=by
    rcases hd.sl with⟨_,h,_⟩|⟨ex,rfl⟩
    ·omega
    ·cases hq:d.length with
     |zero=>omega
     |succ m=>rfl
   obtain⟨m,hm⟩: ∃m,d.length=m+1:=⟨d.length-1,by omega⟩
   have mF: ∀lh sh,appW lh sh 49 2 16 .nilsl dT=some (.isl .L 49 ((a6 lh 49).g+1) 0 d.length 2,pk lh 49 ⟨(a6 lh 49).g+1,.cells (y8 d) 0 false⟩):=fun lh sh=>by
    unfold appW
    rw[N,Option.bind_some,hm,wM,if_pos (by rw[←hm];exact C3)]
   have O:d.length*2≤(y8 d).length:=by omega
   have U:List.take (d.length*2) (y8 d)=y8 d:=List.take_of_length_le (by omega)
   refine⟨.sl (y8 d) d.length false, ?_,.inr ⟨false,rfl⟩⟩
   unfold NR ue at*
   simp only
   generalize tm c (kF t.fl d 0)=x1 at*
   generalize tn c (kF t.fl d (d.length-1))=x2 at*
   generalize oM (jU t c d) (SN c)=x5 at*
   generalize rV (jU t c d) (Z8 c)=x6 at*
   generalize kF t.fl d 0=f at*
   generalize kF t.fl d (d.length-1)=g at*
   unfold iS at*
   rw[gX aap (by simp[c27])]
   simp only[qA,seval,iR,Bz,iy,qb,c27,F,H,k1,k2,CV,ha,hb,D,E,hw,nV,lI,mF,O,U,J,r,Int.lt_irrefl,ahy,aox,avU,avV]
  ·rw[if_neg I]
   have K:(0:Int)<(n:Int):=by
    have:n≠0:=fun e=>I (Y.1 e)
    omega
   refine⟨.nilsl, ?_,.inl ⟨rfl,rfl,rfl⟩⟩
   unfold ue TB iS at*
   rw[gX aap (by simp[c27])]
   simp only[qA,seval,c27,F,H,K,J,r,ahy]
 ·rw[if_pos C]
  refine⟨.nilsl, ?_,.inl ⟨rfl,rfl,rfl⟩⟩
  generalize dE t c d=e at*
  unfold ue TB iS at*
  rw[gX aap (by simp[c27])]
  simp only[qA,seval,c27,F,C,J,r,ahy]
end
theorem ayb(L:List Int)(a b:T)(E:g8 a L.length (ints L))(I:g8 b L.length (ints L))(hlen:L.length≤4611686018427387000)(fr:Fr)(lh:hJ gR)(sh:List gR)(r:an fr 0=a)(C:an fr 1=b)(D:an fr 5= .i .i64 0):
  kV 26 Df fr lh sh (.ext 0)∧(kb pE 26 Df fr lh sh=sh):=by
 refine jo (fun k st=> ∃(fr:Fr) (lh:hJ gR),st=⟨fr,lh,sh⟩∧an fr 0=a∧an fr 1=b∧an fr 5= .i .i64 (k:Int)) (fun U V J=>J=sh) _ L.length ?_ ?_ fr lh sh ⟨fr,lh,rfl,r,C,D⟩
 ·rintro k _ H ⟨fr,lh,rfl,r,C,D⟩
  have K:(k:Int)<L.length:=by omega
  have N:=iG (k:=k) (by omega)
  obtain⟨W,O⟩:=ints_at E k H
  obtain⟨X,Cj⟩:=ints_at I k H
  have F:=E.lenI
  generalize L[k]=y at*
  simp only[qA,seval,Df,r,C,D,F,K,O,Cj,N]
  exact iN ⟨_,_,rfl,by simp only[qA,seval,r],by simp only[qA,seval,C],by simp only[qA,seval]⟩
 ·rintro _ ⟨fr,lh,rfl,r,C,D⟩
  have F:=E.lenI
  simp only[qA,seval,Df,r,D,F,Int.lt_irrefl]
  exact jD ⟨rfl,rfl⟩
theorem ajR(L:List Int)(a b:T)(C:g8 a L.length (ints L))(D:g8 b L.length (ints L))(hlen:L.length≤4611686018427387000):gS pE 20 [a,b] []=some (.b true,[]):=by
 have hL:=fun fr lh sh E F H=>ayb L a b C D hlen fr lh sh E F H
 have i:=C.lenI
 have r:=D.lenI
 rw[gX aoj (by simp[c20])]
 simp only[qA,seval,c20,i,r,hL]
theorem ajS(i:Int)(h:Bool):gS pE 167 [.agg [.i .i64 i,.b h],.agg [.i .i64 i,.b h]] []=some (.i .i64 0,[]):=by
 have r:=xN h
 have C:wr .i64 (sO h-sO h)=0:=by rw[Int.sub_self];rfl
 rw[gX Vh (by simp[T7])]
 simp only[qA,seval,iR,iy,T7,r,C,Gj,JL]
theorem ajT(n:Int):gS pE 168 [.i .i64 n,.i .i64 n] []=some (.i .i64 0,[]):=by
 have r:=xN false
 have e:sO false=0:=rfl
 rw[e]at r
 rw[gX aew (by simp[T8])]
 simp only[qA,seval,T8,r,Int.lt_irrefl,Gj]
theorem P4{d:List (Int×Bool)}{v:T}(h:g8 v d.length (y8 d))(j:Nat)(C:j<d.length): ∃r,∀kk,sH v (.i kk (j:Int)) 2=some (.vp (.i .i64 d[j].1:: .b d[j].2::r)):=rQ (EA.of h) j C
theorem ayc(d:List (Int×Bool))(a b:T)(E:g8 a d.length (y8 d))(J:g8 b d.length (y8 d))(hlen:d.length≤4611686018427387000)(fr:Fr)(lh:hJ gR)(sh:List gR)(r:an fr 0=a)(C:an fr 1=b)(D:an fr 5= .i .i64 0):
  kV 36 xc fr lh sh (.ext 0)∧(kb pE 36 xc fr lh sh=sh):=by
 refine jo (fun k st=> ∃(fr:Fr) (lh:hJ gR),st=⟨fr,lh,sh⟩∧an fr 0=a∧an fr 1=b∧an fr 5= .i .i64 (k:Int)) (fun W X N=>N=sh) _ d.length ?_ ?_ fr lh sh ⟨fr,lh,rfl,r,C,D⟩
 ·rintro k _ K ⟨fr,lh,rfl,r,C,D⟩
  have O:(k:Int)<d.length:=by omega
  have U:=iG (k:=k) (by omega)
  obtain⟨Y,V⟩:=P4 E k K
  obtain⟨Z,Cj⟩:=P4 J k K
  have F:=E.lenI
  have H:=J.lenI
  have I:=ajS d[k].1 d[k].2
  generalize d[k]=y at*
  simp only[qA,seval,iR,iy,xc,r,C,D,F,H,O,V,Cj,U,I,ao9,apa]
  exact iN ⟨_,_,rfl,by simp only[qA,seval,r],by simp only[qA,seval,C],by simp only[qA,seval]⟩
 ·rintro _ ⟨fr,lh,rfl,r,C,D⟩
  have F:=E.lenI
  simp only[qA,seval,xc,r,D,F,Int.lt_irrefl]
  exact jD ⟨rfl,rfl⟩
theorem ajU(d:List (Int×Bool))(a b:T)(E:g8 a d.length (y8 d))(F:g8 b d.length (y8 d))(hlen:d.length≤4611686018427387000):gS pE 110 [a,b] []=some (.i .i64 0,[]):=by
 have hL:=fun fr lh sh H I J=>ayc d a b E F hlen fr lh sh H I J
 have r:=E.lenI
 have C:=F.lenI
 have D:=ajT (d.length:Int)
 rw[gX adV (by simp[TT])]
 simp only[qA,seval,TT,Qt,r,C,hL,D,apb]
theorem ajV(g:Lg)(a b:T)(C:LgT g a)(D:LgT g b)(hlen:g.du.length≤4611686018427387000):gS pE 28 [.agg (ue g a),.agg (ue g b)] []=some (.b true,[]):=by
 have i:=ajU g.du a b C D hlen
 have E:=C.froz
 have F:=D.froz
 have r:gS pE 68 [a,b] []=some (.b true,[]):=by
  rw[gX aoA (by simp[c68])]
  simp only[qA,seval,c68,i,E,F,aoT]
 unfold ue
 rw[gX aok (by simp[c28])]
 simp only[qA,seval,c28,r,E,F,avW]
def LgR(g:Lg)(c:List T):Prop:= ∃v,c=ue g v∧LgT g v
theorem LgR.len(g:Lg)(c:List T)(h:LgR g c):c.length=7:=by obtain⟨v,rfl,_⟩:=h;rfl
def ES(l:List Lg)(a:T):Prop:= ∃i,g8 a l.length i∧ic LgR l i
theorem agK{l:List Lg}{a:T}(h:ES l a)(j:Nat)(C:j<l.length): ∃v r,(∀kk,sH a (.i kk (j:Int)) 7=some (.vp (v:: .i .i64 l[j].rp:: .i .i64 l[j].rl:: .s l[j].fr:: .s l[j].to:: .i .i64 l[j].co:: .i .i64 l[j].cr::r)))∧LgT l[j] v:=by
 obtain⟨H,D,E⟩:=h
 obtain⟨c,r,e,v,rfl,F⟩:=oK (k:=7) LgR.len D E j C
 exact⟨v,r,e,F⟩
def y9(d:List (Int×Bool)):List Int:=(d.filter fun k=> !k.2).map (·.1)
def yu(l:List Lg):List Int:=l.flatMap fun g=>y9 g.du
def zd(l:List Lg):Nat:=(l.map fun g=>g.du.length).sum
theorem IQ(d:List (Int×Bool)):(y9 d).length≤d.length:=by unfold y9;rw[List.length_map];exact List.length_filter_le _ _
theorem Lm{d:List (Int×Bool)}{k:Nat}(i:k<d.length):y9 (d.take (k+1))=y9 (d.take k)++if d[k].2=true then []else [d[k].1]:=by
 unfold y9
 rw[List.take_succ_eq_append_getElem i,List.filter_append,List.map_append]
 cases h:d[k].2 <;> simp[h]
theorem Ln{l:List Lg}{k:Nat}(i:k<l.length):yu (l.take (k+1))=yu (l.take k)++y9 l[k].du:=by
 unfold yu
 rw[List.take_succ_eq_append_getElem i,List.flatMap_append];simp
theorem AS: ∀l:List Lg,(yu l).length≤zd l
 | []=>by simp[yu]
 |g::l=>by
  have C:=IQ g.du
  have D:=AS l
  have i:yu (g::l)=y9 g.du++yu l:=rfl
  have r:zd (g::l)=g.du.length+zd l:=by simp[zd]
  rw[i,r,List.length_append];omega
theorem Lo: ∀(l:List Lg) (k:Nat),zd (l.take k)≤zd l
 | [],k=>by simp[zd]
 |g::l,0=>by simp[zd]
 |g::l,k+1=>by
  have i:zd ((g::l).take (k+1))=g.du.length+zd (l.take k):=by simp[zd]
  have r:zd (g::l)=g.du.length+zd l:=by simp[zd]
  have:=Lo l k
  omega
theorem YT(l:List Lg)(g:Lg):zd (l++ [g])=zd l+g.du.length:=by unfold zd;rw[List.map_append,List.sum_append];simp
theorem YU{l:List Lg}{k:Nat}(i:k<l.length):zd (l.take k)+l[k].du.length≤zd l:=by
 have h:=Lo l (k+1)
 rw[List.take_succ_eq_append_getElem i]at h
 rw[YT]at h
 omega
def rY(lh:hJ gR)(v:T)(k sz n:Nat)(cs:List T):Prop:=
 (n=0∧v= .nilsl∧cs= [])∨(∃g,v= .isl .L k g 0 n sz∧a6 lh k=⟨g,.cells cs 0 false⟩∧cs.length=n*sz∧0<n)
section
variable{lh:hJ gR}{sh:List gR}{v:T}{k sz n:Nat}{cs:List T}
theorem rY.nil:rY lh .nilsl k sz 0 []:=Or.inl ⟨rfl,rfl,rfl⟩
theorem rY.out(h:rY lh v k sz n cs):iT lh v k sz n cs:=by
 rcases h with h|⟨g,i,r,C,D⟩
 ·exact Or.inl h
 ·exact Or.inr ⟨g,0,i,r,C,D⟩
theorem rY.notS(h:rY lh v k sz n cs):Ev.notS v=true:=h.out.notS
theorem rY.congr{i:hJ gR}(h:rY lh v k sz n cs)(e:a6 i k=a6 lh k):rY i v k sz n cs:=by
 rcases h with h|⟨g,r,C,D,E⟩
 ·exact Or.inl h
 ·exact Or.inr ⟨g,r,by rw[e,C],D,E⟩
theorem YV{bytes:Nat}(h:rY lh v k sz n cs)(ps:List T)(I:ps.length=sz)(J:(n+1)*bytes≤roomy)(ex:Bool):
  appW lh sh k sz bytes v (.sl ps 1 ex)=some (Ij lh sh k sz bytes v (.sl ps 1 ex),Ar lh sh k sz bytes v (.sl ps 1 ex))∧rY (Ar lh sh k sz bytes v (.sl ps 1 ex)) (Ij lh sh k sz bytes v (.sl ps 1 ex)) k sz (n+1) (cs++ps)∧ ∀j,j≠k→a6 (Ar lh sh k sz bytes v (.sl ps 1 ex)) j=a6 lh j:=by
 have K:slC lh sh sz (.sl ps 1 ex)=some (0+1,ps):=by rw[yI,if_pos (by omega)]
 have D: ∃r i,appW lh sh k sz bytes v (.sl ps 1 ex)=some (r,i)∧rY i r k sz (n+1) (cs++ps)∧ ∀j,j≠k→a6 i j=a6 lh j:=by
  unfold appW
  rw[K,Option.bind_some]
  rcases h with⟨rfl,rfl,rfl⟩|⟨g,rfl,E,C,h4⟩
  ·rw[wM,if_pos (by simpa using J)]
   refine⟨_,_,rfl,Or.inr ⟨_,by rw[Nat.zero_add],tN _ _ _,by simpa using I,by omega⟩,fun j F=>jl _ _ F⟩
  ·rw[wN,E,yK,if_pos ⟨rfl,rfl,J,rfl,C.symm⟩]
   refine⟨_,_,rfl,Or.inr ⟨_,rfl,tN _ _ _,by rw[List.length_append,C,I,Nat.add_mul n 1,Nat.one_mul],by omega⟩,fun j F=>jl _ _ F⟩
 obtain⟨r,i,H,E,C⟩:=D
 have N:Ij lh sh k sz bytes v (.sl ps 1 ex)=r:=by unfold Ij;rw[H]
 have O:Ar lh sh k sz bytes v (.sl ps 1 ex)=i:=by unfold Ar;rw[H]
 rw[N,O]
 exact⟨H,E,C⟩
end
theorem ayd(d:List (Int×Bool))(v:T)(hv:g8 v d.length (y8 d))(L0:List Int)(hl:L0.length+d.length≤1048576)(fr:Fr)(lh:hJ gR)(sh:List gR)(W:rY lh (an fr 3) 28 1 L0.length (ints L0))(C:an fr 15=v)(r:an fr 16= .i .i64 (d.length:Int))(F:an fr 17= .i .i64 0):
  kV 35 rv fr lh sh (.ext 2)∧
  (rY (kH pE 35 rv fr lh sh) (an (kh pE 35 rv fr lh sh) 3) 28 1 (L0++y9 d).length (ints (L0++y9 d))∧kb pE 35 rv fr lh sh=sh):=by
 refine jo (fun k st=> ∃(fr:Fr) (lh:hJ gR),st=⟨fr,lh,sh⟩∧rY lh (an fr 3) 28 1 (L0++y9 (d.take k)).length (ints (L0++y9 (d.take k)))∧an fr 15=v∧an fr 16= .i .i64 (d.length:Int)∧an fr 17= .i .i64 (k:Int))
  (fun X H I=>rY H (an X 3) 28 1 (L0++y9 d).length (ints (L0++y9 d))∧I=sh) _ d.length ?_ ?_ fr lh sh ⟨fr,lh,rfl,by simpa[y9]using W,C,r,F⟩
 ·rintro k _ K ⟨fr,lh,rfl,D,C,r,F⟩
  have N:(k:Int)<d.length:=by omega
  have O:=iG (k:=k) (by omega)
  obtain⟨rr,U⟩:=P4 hv k K
  have Y:(y9 (d.take k)).length≤k:=Nat.le_trans (IQ _) (by rw[List.length_take];omega)
  have Z:=Lm K
  have wD:(L0++y9 (d.take k)).length≤1048576:=by rw[List.length_append];omega
  rw[Z]
  have J:=fun(H:hJ gR) (I:List gR) (e:a6 H 28=a6 lh 28)=>(YV (sh:=I) (D.congr e) [.i .i64 d[k].1] rfl (bytes:=8) (by unfold roomy;omega) true)
  have V:=fun(H:hJ gR) (I:List gR) (e:a6 H 28=a6 lh 28)=>(J H I e).1
  have FQ:=D.notS
  generalize E:an fr 3=v3 at D J V FQ
  generalize d[k]=y at*
  generalize y9 (d.take k)=P at*
  obtain⟨y1,y2⟩:=y
  cases y2 with
  |true=>
   simp only[if_true,List.append_nil]
   simp only[qA,seval,repl,rv,E,C,r,F,N,U,O]
   exact iN ⟨_,_,rfl,by simp only[qA,seval,E];exact D.congr (by simp only[qA,seval]),by simp only[qA,seval,C],by simp only[qA,seval,r],by simp only[qA,seval]⟩
  |false=>
   simp only[Bool.false_eq_true,if_false]
   simp only[qA,seval,repl,rv,E,C,r,F,N,U,O,FQ,V]
   exact iN ⟨_,_,rfl,by simp only[qA,seval];rw[←List.append_assoc,List.length_append,rW];exact(J _ _ (by simp only[qA,seval])).2.1,by simp only[qA,seval,C],by simp only[qA,seval,r],by simp only[qA,seval]⟩
 ·rintro _ ⟨fr,lh,rfl,D,C,r,F⟩
  rw[List.take_length]at D
  simp only[qA,seval,rv,r,F,Int.lt_irrefl]
  exact jD ⟨rfl,by simp only[qA,seval];exact D,rfl⟩
theorem asI{fr:Fr}{lh:hJ gR}{sh:List gR}{D:Option (Out×St)}(d:List (Int×Bool))(v:T)(hv:g8 v d.length (y8 d))(L0:List Int)(E:L0.length+d.length≤1048576)(F:DC pE 35 (.loop rv) ⟨fr,lh,sh⟩=D)(H:rY lh (an fr 3) 28 1 L0.length (ints L0))(I:an fr 15=v)(J:an fr 16= .i .i64 (d.length:Int))(K:an fr 17= .i .i64 0):
  ∃r C,D=some (.ext 2,⟨r,C,sh⟩)∧rY C (an r 3) 28 1 (L0++y9 d).length (ints (L0++y9 d))∧ ∀s,(kJ (.loop rv)).contains s=false→an r s=an fr s:=by
 obtain⟨e,N,O⟩:=ayd d v hv L0 E fr lh sh H I J K
 unfold kV at e;rw[O]at e
 exact⟨_,_,F.symm.trans e,N,fun s hs=>lW e s hs⟩
theorem aye(l:List Lg)(a:T)(O:ES l a)(hl:zd l≤1048576)(hn:l.length≤1000)(fr:Fr)(lh:hJ gR)(sh:List gR)(U:an fr 3= .nilsl)(E:an fr 8=a)(C:an fr 9= .i .i64 (l.length:Int))(r:an fr 10= .i .i64 0):
  kV 35 uo fr lh sh (.ext 0)∧
  (rY (kH pE 35 uo fr lh sh) (an (kh pE 35 uo fr lh sh) 3) 28 1 (yu l).length (ints (yu l))∧kb pE 35 uo fr lh sh=sh):=by
 refine jo (fun k st=> ∃(fr:Fr) (lh:hJ gR),st=⟨fr,lh,sh⟩∧rY lh (an fr 3) 28 1 (yu (l.take k)).length (ints (yu (l.take k)))∧an fr 8=a∧an fr 9= .i .i64 (l.length:Int)∧an fr 10= .i .i64 (k:Int))
  (fun F N V=>rY N (an F 3) 28 1 (yu l).length (ints (yu l))∧V=sh) _ l.length ?_ ?_ fr lh sh ⟨fr,lh,rfl,by rw[U];exact rY.nil,E,C,r⟩
 ·rintro k _ I ⟨fr,lh,rfl,H,E,C,r⟩
  have W:(k:Int)<l.length:=by omega
  have X:=iG (k:=k) (by omega)
  obtain⟨v,rr,Y,hv⟩:=agK O k I
  have wD:=AS (l.take k)
  have jZ:=YU I
  have Z:=hv.lenI
  have TC:=hv.froz1
  have hvc:=hv.cells
  have hvn:=hv.noTup
  rw[Ln I]
  generalize l[k]=g at*
  generalize yu (l.take k)=P at*
  generalize J:an fr 3=v3 at H
  simp only[qA,seval,uo,E,C,r,W,Y,Z]
  generalize hD:DC pE 35 (.loop rv) _=D
  obtain⟨F,N,rfl,r1,K⟩:=asI g.du v hv P (by omega) hD (by simp only[qA,seval,J];exact H.congr (by simp only[qA,seval])) (by simp only[qA,seval]) (by simp only[qA,seval]) (by simp only[qA,seval])
  have p8:an F 8=a:=by rw[K 8 (by decide)];simp only[qA,seval,E]
  have p9:an F 9= .i .i64 (l.length:Int):=by rw[K 9 (by decide)];simp only[qA,seval,C]
  have Z5:an F 10= .i .i64 (k:Int):=by rw[K 10 (by decide)];simp only[qA,seval,r]
  simp only[qA,seval,Z5,X]
  exact iN ⟨_,_,rfl,by simp only[qA,seval];exact r1,by simp only[qA,seval,p8],by simp only[qA,seval,p9],by simp only[qA,seval]⟩
 ·rintro _ ⟨fr,lh,rfl,H,E,C,r⟩
  rw[List.take_length]at H
  simp only[qA,seval,uo,C,r,Int.lt_irrefl]
  exact jD ⟨rfl,by simp only[qA,seval];exact H,rfl⟩
theorem asJ{z:Nat}{fr:Fr}{lh:hJ gR}{sh:List gR}{args:List T}:iU pE (gS pE) z ⟨fr,lh,sh⟩ 69 args=vL td ⟨fr,lh,sh⟩ args:=Kq rfl rfl rfl
theorem asK{z:Nat}{fr:Fr}{lh:hJ gR}{sh:List gR}{args:List T}:iU pE (gS pE) z ⟨fr,lh,sh⟩ 70 args=vL te ⟨fr,lh,sh⟩ args:=Kq rfl rfl rfl
theorem BN: ∀l:List Int,tT (ints l)=some l
 | []=>rfl
 |x::l=>by
  have e:ints (x::l)= .i .i64 x::ints l:=rfl
  rw[e,tT,BN l];rfl
theorem BO(l:List Int):(qc l).length=l.length:=by unfold qc;exact List.length_mergeSort _
theorem Lq(l:List Int):(ints l).all single=true:=by unfold ints;rw[List.all_map,List.all_eq_true];intro x _;rfl
theorem YW{l:List Int}(h:l.length≤1048576):td (ints l)=some (ints (qc l),none):=by
 unfold td;rw[BN];simp only[];rw[if_pos (by omega)];rfl
def ET(l:List Int):List Int:=k9 l++List.replicate (l.length-(k9 l).length) 0
theorem He: ∀(p:Int) (l:List Int),(oB p l).length≤l.length
 |_,[]=>Nat.le_refl _
 |p,y::r=>by
  simp only[oB]
  have:=He y r
  split <;> simp <;> omega
theorem Hf: ∀(l:List Int),(k9 l).length≤l.length
 | []=>Nat.le_refl _
 |x::r=>by simp only[k9,List.length_cons];have:=He x r;omega
theorem EU(l:List Int):(ET l).length=l.length:=by unfold ET;have:=Hf l;simp;omega
theorem YX{l:List Int}(h:l.length≤1048576):te (ints l)=some (ints (ET l),some (k9 l).length):=by
 unfold te;rw[BN];simp only[];rw[if_pos (by omega)];rfl
theorem nZ: ∀(a b:List T),b.length=a.length→splice a 0 b=b
 | [],b,i=>by cases b with|nil=>rfl|cons _ _=>simp at i
 |x::a,b,i=>by
  cases b with
  |nil=>simp at i
  |cons y b=>simp only[splice];rw[nZ a b (by simpa using i)]
theorem P5{h:List T→Option (List T×Option Nat)}{fr:Fr}{lh:hJ gR}{sh:List gR}{l i:List Int}{k g n:Nat}{r:Option Nat}(D:a6 lh k=⟨g,.cells (ints l) 0 false⟩)(E:n=l.length)(F:h (ints l)=some (ints i,r))(C:i.length=l.length)(H:r.getD 0≤l.length):
  vL h ⟨fr,lh,sh⟩ [.isl .L k g 0 n 1]=some (VM .L k g 0 r,⟨fr,pk lh k ⟨g,.cells (ints i) 0 false⟩,sh⟩):=by
 subst E
 have I:(St.mk fr lh sh).get .L k=⟨g,.cells (ints l) 0 false⟩:=D
 unfold vL
 simp only[I]
 have J:((ints l).drop 0).take l.length=ints l:=by rw[List.drop_zero,List.take_of_length_le (by rw[kg];omega)]
 rw[if_pos ⟨trivial,Nat.le_refl _,by rw[kg];omega⟩,J,F]
 simp only[]
 rw[if_pos ⟨by rw[kg,C],Lq i,H⟩,nZ _ _ (by rw[kg,kg,C])]
 rfl
theorem ajW{h:List T→Option (List T×Option Nat)}{st:St}(i:h []=some ([],none)):vL h st [.nilsl]=some (.tup [],st):=by
 unfold vL;simp only[i]
theorem adf{h:List T→Option (List T×Option Nat)}{st:St}(i:h []=some ([],some 0)):vL h st [.nilsl]=some (.nilsl,st):=by
 unfold vL;simp only[i]
def FU(l:List Lg):List Int:=k9 (qc (yu l))
theorem asL{fr:Fr}{lh:hJ gR}{sh:List gR}{D:Option (Out×St)}(l:List Lg)(a:T)(F:ES l a)(H:zd l≤1048576)(I:l.length≤1000)(J:DC pE 35 (.loop uo) ⟨fr,lh,sh⟩=D)(K:an fr 3= .nilsl)(N:an fr 8=a)(O:an fr 9= .i .i64 (l.length:Int))(r:an fr 10= .i .i64 0):
  ∃C E,D=some (.ext 0,⟨C,E,sh⟩)∧rY E (an C 3) 28 1 (yu l).length (ints (yu l)):=by
 obtain⟨e,U,V⟩:=aye l a F H I fr lh sh K N O r
 unfold kV at e;rw[V]at e
 exact⟨_,_,J.symm.trans e,U⟩
theorem adg(l:List Lg)(a:T)(Z:ES l a)(V:zd l≤1048576)(r:l.length≤1000): ∃t s,gS pE 29 [a] []=some (t,s)∧g8 t (FU l).length (ints (FU l)):=by
 obtain⟨cc,E,J⟩:=Z
 rw[gX aol (by simp[c29])]
 simp only[qA,seval,c29,E.lenI]
 generalize hD:DC pE 35 (.loop uo) _=D
 obtain⟨iq,il,rfl,K⟩:=asL l a ⟨cc,E,J⟩ V r hD (by simp only[qA,seval]) (by simp only[qA,seval]) (by simp only[qA,seval]) (by simp only[qA,seval])
 have W:=Nat.le_trans (AS l) V
 unfold FU
 generalize yu l=L at*
 generalize i:an iq 3=v3 at K
 by_cases X:L= []
 ·subst X
  have e3:v3= .nilsl:=by
   rcases K with⟨_,h,_⟩|⟨_,_,_,_,h⟩
   ·exact h
   ·exact absurd h (by simp)
  subst e3
  have I:=fun st=>ajW (h:=td) (st:=st) (by simp[td,tT,qc])
  have C:=fun st=>adf (h:=te) (st:=st) (by simp[te,tT,k9])
  simp only[qA,seval,i,asJ,asK,I,C]
  refine⟨_,_,rfl,.inl ⟨rfl, ?_, ?_⟩⟩ <;> simp[qc,k9,ints]
 ·obtain⟨n,r⟩: ∃n,n=L.length:=⟨_,rfl⟩
  have hnp:0<n:=by rw[r];exact List.length_pos_iff.2 X
  rcases K with⟨h,_,_⟩|⟨g,rfl,ho,_,_⟩
  ·omega
  rw[←r]at i
  obtain⟨m,N⟩: ∃m,m=(k9 (qc L)).length:=⟨_,rfl⟩
  have Y:=Hf (qc L)
  have I:=fun(fr:Fr) (F:hJ gR) (e:a6 F 28=a6 il 28)=>P5 (h:=td) (fr:=fr) (lh:=F) (sh:= []) (k:=28) (g:=g) (e.trans ho) r (YW W) (BO L) (Nat.zero_le _)
  have C:=fun(fr:Fr) (F:hJ gR) (e:a6 F 28=⟨g,.cells (ints (qc L)) 0 false⟩)=>P5 (h:=te) (fr:=fr) (lh:=F) (sh:= []) (k:=28) (g:=g) e (r.trans (BO L).symm) (YX (l:=qc L) (by rw[BO];exact W)) (EU _) (by simpa using Y)
  rw[←N]at C ⊢
  simp only[VM]at I C
  obtain⟨H,O6⟩: ∃H,H=ET (qc L):=⟨_,rfl⟩
  rw[←O6]at C
  simp only[qA,seval,i,asJ,asK,I,C]
  have O:H.take m=k9 (qc L):=by rw[O6,N];unfold ET;exact List.take_left
  have ZY:m≤H.length:=by rw[O6,EU,N];exact Y
  rw[if_pos (by rw[kg];exact ZY)]
  have U:(ints H).take m=ints (k9 (qc L)):=by rw[←O];unfold ints;rw[List.map_take]
  exact⟨_,_,rfl,.inr ⟨false,by rw[U]⟩⟩
end Go.Proofs.YtblcbheipjeoeaaGreat
