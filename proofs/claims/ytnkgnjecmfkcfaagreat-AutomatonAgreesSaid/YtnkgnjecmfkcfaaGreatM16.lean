/- Walks of functions of the program and of the reference, and their plain laws, part 16. Conditions: the theorems' own. -/
import Derived.Test.YtnkgnjecmfkcfaaGreatGS
import Derived.Test.YtnkgnjecmfkcfaaGreatM10
import Derived.Test.YtnkgnjecmfkcfaaGreatM11
import Derived.Test.YtnkgnjecmfkcfaaGreatM12
import Derived.Test.YtnkgnjecmfkcfaaGreatM13
import Derived.Test.YtnkgnjecmfkcfaaGreatM14
import Derived.Test.YtnkgnjecmfkcfaaGreatM15
import Derived.KernelRfl
set_option maxRecDepth 100000
set_option linter.unusedSimpArgs false
set_option linter.unusedVariables false
set_option maxHeartbeats 16000000
namespace Go.Proofs.YtnkgnjecmfkcfaaGreat
open Go Go.Ev
theorem ctZ{c:Ct}{a7 a8 a9 aw aA az:T}(hC:mG c a7 a8 a9 aw aA az):(froz1 a7=true∧froz1 a8=true∧froz1 a9=true∧froz1 aw=true∧froz1 aA=true∧froz1 az=true)∧cellsOf a7= [a7]∧cellsOf a8= [a8]∧cellsOf a9= [a9]∧cellsOf aw= [aw]∧cellsOf aA= [aA]∧cellsOf az= [az]∧froz a7=true:=by
 obtain⟨⟨_,K,_⟩,⟨_,O,_⟩,⟨_,U,_⟩,⟨_,D,_⟩,⟨_,F,_⟩,⟨_,I,_⟩⟩:=hC
 exact⟨⟨K.froz1,O.froz1,U.froz1,D.froz1,F.froz1,I.froz1⟩,K.cells,O.cells,U.cells,D.cells,F.cells,I.cells,K.froz⟩
section
variable(c:Ct)(a7 a8 a9 aw aA az iA:T)(A:List Int)(hC:mG c a7 a8 a9 aw aA az)(hS:vq c)(hc:fi c=0)(hA:JJ A)(dh:IsSl iA 11 (jB (fD A)))
include hC hS hc
theorem Gf:ae pE 56 [a7] []=some (bA c.cs.length (ints (sF c.cs c.cs.length)),[])∧IsSl (bA c.cs.length (ints (sF c.cs c.cs.length))) c.cs.length (ints (sF c.cs c.cs.length)):=by
 obtain⟨⟨c7,D,F⟩,_⟩:=hC
 have:=(mL c hc).2.2.2.2.2.2
 refine⟨Ro c.cs a7 c7 D F hS.b7,fe fun h=> ?_⟩
 grind [ints,List.length_eq_zero_iff.1,lp]
include hA dh
theorem aeH:ae pE 203 [.agg (aY c a7 a8 a9 aw aA az),.i .i64 1,.i .i64 0,iA] []=some (bA (lY c A c.ru.length).length (C1 (lY c A c.ru.length)),[]):=by
 obtain⟨hk,O⟩:=Gf c a7 a8 a9 aw aA az hC hS hc
 have hL:=fun fr lh sh h1 h2 h3 h4 I D F K=>aD6 c a7 a8 a9 aw aA az _ iA A hC hc O hA dh fr lh sh h1 h2 h3 h4 I D F K
 have SU:=fun keep fr lh sh h1 h2 h3 h4 I D F K=>bg.fzV (keep:=keep) (sh:=sh) (hL fr lh sh h1 h2 h3 h4 I D F K).2.1
 have U:=ctZ hC
 generalize bA c.cs.length (ints (sF c.cs c.cs.length))=vT at*
 unfold aY at*
 rw[au agM (by simp[TV])]
 simp only[qA,seval,TV,hk,U,hL,SU,xk,aju]
omit hS in
theorem aD8(vT:T)(Z:IsSl vT c.cs.length (ints (sF c.cs c.cs.length)))(fr:Fr)(lh:aD ah)(sh:List ah)(h1:aa fr 1= .i .i64 1)(h2:aa fr 2=iA)(h3:aa fr 3= .ptr .L 3 1 0)(D:aa fr 7= .i .i64 0)(F:aa fr 8=vT)(I:aa fr 9= .i .i64 0)(U:ab lh 3=⟨1,.cells (aY c a7 a8 a9 aw aA az) 0 true⟩):
  pT 43 oB fr lh sh (.ext 0)∧
  (aa (mY pE 43 oB fr lh sh) 7= .i .i64 (mO A (YX c))∧iH pE 43 oB fr lh sh=sh):=by
 have W:=hC
 obtain⟨⟨c7,i7,j7⟩,⟨c8,i8,j8⟩,⟨c9,V,j9⟩,⟨wh,i10,yD⟩,⟨yS,i11,Ch⟩,⟨Ce,i12,D1⟩⟩:=W
 obtain⟨_,_,jb,hl,_⟩:=mL c hc
 unfold aY at U
 unfold YX
 refine eu (fun k st=> ∃(fr:Fr),st=⟨fr,lh,sh⟩∧aa fr 1= .i .i64 1∧aa fr 2=iA∧aa fr 3= .ptr .L 3 1 0∧aa fr 7= .i .i64 (mO A (tm c 1 k))∧aa fr 8=vT∧aa fr 9= .i .i64 (k:Int))
  (fun bK aU aX=>aa bK 7= .i .i64 (mO A (tm c 1 c.co.length))∧aX=sh) _ c.co.length ?_ ?_ fr lh sh ⟨fr,rfl,h1,h2,h3,D,F,I⟩
 ·rintro k _ hk ⟨fr,rfl,h1,h2,h3,D,F,I⟩
  have K:(k:Int)<c.co.length:=yv
  have hw:=aG (k:=k) yv
  obtain⟨b,cb,rr,O,fL,hb⟩:=DY V j9 k hk
  have hx:=jb _ (List.getElem_mem hk)
  have iw:mO A (tm c 1 (k+1))=if c.co[k].sc=1 then wr .i64 (mO A (tm c 1 k)+pn c.cs A c.co[k].x)else mO A (tm c 1 k):=by
   rw[vE c 1 hk]
   by_cases e:c.co[k].sc=1
   ·rw[if_pos e,if_pos e]
    unfold mO
    rw[List.map_append,JK,List.map_cons,List.map_nil,F7,F7]
    rw[e,(RK hA (e▸hx)).2.1]
   ·grind
  have X:=fun e:c.co[k].sc=1=>Mq c a7 a8 a9 aw aA az vT iA A hC hc Z hA dh (e▸hx) hb
  rw[iw]
  generalize pn c.cs A c.co[k].x=q at*
  generalize mO A (tm c 1 k)=p at*
  generalize c.co[k]=u at*
  have hz:=dh.froz
  have Y:=Z.froz
  by_cases hs:u.sc=1
  ·have X:=X hs
   rw[if_pos hs]
   simp only[qA,seval,bp,aH,oB,h1,h2,h3,D,F,I,U,V.lenI,K,hw,O,hs,X,hz,Y,i7.froz,fL.froz1,Uz,asS]
   exact cU ⟨_,rfl,by simp only[qA,seval,h1],by simp only[qA,seval,h2],by simp only[qA,seval,h3],by simp only[qA,seval],by simp only[qA,seval,F],by simp only[qA,seval]⟩
  ·rw[if_neg hs]
   simp only[qA,seval,bp,aH,oB,h1,h2,h3,D,F,I,U,V.lenI,K,hw,O,hs]
   exact cU ⟨_,rfl,by simp only[qA,seval,h1],by simp only[qA,seval,h2],by simp only[qA,seval,h3],by simp only[qA,seval,D],by simp only[qA,seval,F],by simp only[qA,seval]⟩
 ·rintro _ ⟨fr,rfl,h1,h2,h3,D,F,I⟩
  simp only[qA,seval,oB,h3,I,U,V.lenI,Int.lt_irrefl]
  exact fv ⟨rfl,by simp only[qA,seval,D],rfl⟩
theorem Zp:ae pE 206 [.agg (aY c a7 a8 a9 aw aA az),.i .i64 1,iA] []=some (.i .i64 (mO A (YX c)),[]):=by
 obtain⟨hk,D⟩:=Gf c a7 a8 a9 aw aA az hC hS hc
 have hL:=fun fr lh sh h1 h2 h3 F I K O=>aD8 c a7 a8 a9 aw aA az iA A hC hc hA dh _ D fr lh sh h1 h2 h3 F I K O
 have U:=ctZ hC
 generalize bA c.cs.length (ints (sF c.cs c.cs.length))=vT at*
 generalize mO A (YX c)=q at*
 unfold aY at*
 rw[au agR (by simp[TY])]
 simp only[qA,seval,TY,hk,U,hL,aju]
theorem Mr:ae pE 207 [.agg (aY c a7 a8 a9 aw aA az),iA] []=some (.i .i64 (yp A (crS c)),[]):=by
 obtain⟨hk,Z⟩:=Gf c a7 a8 a9 aw aA az hC hS hc
 have hz:=ctZ hC
 have F:=dh.froz
 have U:=Z.froz
 have V:=hC
 obtain⟨⟨c7,i7,j7⟩,⟨c8,i8,j8⟩,⟨c9,i9,j9⟩,⟨wh,I,yD⟩,⟨yS,i11,Ch⟩,⟨Ce,i12,D1⟩⟩:=V
 have K:=I.lenI
 have jb:=(mL c hc).2.2.2.2.1
 rw[au agS (by simp[PZ])]
 unfold crS Rv
 rw[List.take_length]
 by_cases hn:c.cr= []
 ·rw[hn]at K ⊢
  have K:lenI aw=some (.i .i64 0):=K
  have yV:(fD A).length=11:=by unfold fD;rw[List.length_zip,hA.1];rfl
  have W:(fD A).map Prod.fst=bw:=by unfold fD;exact List.map_fst_zip (by rw[hA.1];exact Nat.le_refl _)
  have O:=OU [98,108,111,99,107] (fD A) iA (by rw[yV];exact dh) yv
  rw[W,show ixA [98,108,111,99,107] bw 0=3 by decide]at O
  obtain⟨rr,D⟩:=Ge (l:=fD A) (v:=iA) (by rw[yV];exact dh) 3 yv
  have wS:(fD A)[3].2=A.getD 3 0:=by
   grind [fD]
  rw[wS]at D
  have D: ∀kk,iaV iA (.i kk 3) 2=_:=D
  unfold yp aY
  simp only[List.map_nil]
  simp only[qA,seval,PZ,K,O,D,F,afN]
 ·obtain⟨x,l,X⟩: ∃x l,c.cr=x::l:=List.exists_cons_of_ne_nil hn
  have h0:0<c.cr.length:=by rw[X];simp
  obtain⟨b,cb,rr,D,fL,rP,hb⟩:=oZ I yD 0 h0
  have hx:=jb _ (List.getElem_mem h0)
  have aE:=Mq c a7 a8 a9 aw aA az _ iA A hC hc Z hA dh hx hb
  have hcv:=(RK hA hx).2.1
  have D: ∀kk,iaV aw (.i kk 0) 4=_:=D
  have Y: ¬(c.cr.length:Int)=0:=yv
  have e:yp A (c.cr.map fun u=>([],comp (fC c.cs) 1 u))=pn c.cs A c.cr[0]:=by
   grind [yp]
  rw[e]
  generalize pn c.cs A c.cr[0]=q at*
  generalize c.cr[0]=y at*
  generalize bA c.cs.length (ints (sF c.cs c.cs.length))=vT at*
  unfold aY
  simp only[qA,seval,bp,aH,PZ,K,Y,hk,D,aE,hz,F,U,fL.froz1,aju,aAS,Uz,asS]
end
def dE(t:Tt)(c:Ct)(d:List (Int×Bool)):Int:=if eK t c≠0 then eK t c else ev c t.fl d
theorem aeI(t:Tt)(c:Ct)(d:List (Int×Bool)):RN t c d=if dE t c d≠0 then(RM,dE t c d)else if iI t c d=true then(cz t c d,0)else(RM,15):=by
 grind [RN,al6,dE]
section
variable(t:Tt)(c:Ct)(zT aT fT a7 a8 a9 aw aA az:T)(hT:kN t zT aT fT)(hC:mG c a7 a8 a9 aw aA az)(hN:Hb c)(hL: ∀f∈t.fl,f.nu.length≤gm)(d:List (Int×Bool))(dT:T)(hd:tw d dT)(hlen:d.length≤1000)
include hT hC hN hL hd hlen
theorem Zq(h:dE t c d=0):nR t=0∧fi c=0∧vq c∧1≤d.length∧d.length≤6∧(∀k∈d,lj t.fl.length k.1=true):=by
 have _:=hL;have _:=hd;have _:=hlen
 unfold dE at h
 by_cases hk:eK t c=0
 ·rw[if_neg (by simp[hk])]at h
  obtain⟨D,hc⟩:=ng t c zT aT fT a7 a8 a9 aw aA az hT hC hN hk
  obtain⟨h1,h2,h3,_⟩:=fJ h
  exact⟨D,hc,hN.sm (Ec c a7 a8 a9 aw aA az hC hc),h1,h2,h3⟩
 ·grind
theorem aeJ: ∃v,ae pE 122 [.agg [zT,aT,fT],.agg (aY c a7 a8 a9 aw aA az),dT] []=some (.tup [v,.i .i64 (dE t c d)],[])∧froz1 v=true∧(dE t c d=0→ ∃n:Nat,lenI v=some (.i .i64 (n:Int))∧(n=0↔iI t c d=true)):=by
 have I:=yJ t c zT aT fT a7 a8 a9 aw aA az hT hC
 have D:=hd.sl.froz
 obtain⟨w,h1,h2,h3⟩:=OT t c zT aT fT a7 a8 a9 aw aA az hT hC hN hL d dT hd hlen
 rw[show(if eK t c≠0 then eK t c else ev c t.fl d)=dE t c d from rfl]at h1 h2
 by_cases h0:dE t c d=0
 ·obtain⟨K,hc,hS,O,X,U⟩:=Zq t c zT aT fT a7 a8 a9 aw aA az hT hC hN hL d dT hd hlen h0
  have hA:=lX (t:=t) (c:=c) K hc O yv U
  have V:=aeH c a7 a8 a9 aw aA az (.sl (jB (fD (aN t c d))) 11 false) (aN t c d) hC hS hc hA (.inr ⟨false,rfl⟩)
  have W:=amg (t:=t) hc hA
  rw[h2 h0]at h1
  rw[h0]at h1 ⊢
  refine⟨bA (lY c (aN t c d) c.ru.length).length (C1 (lY c (aN t c d) c.ru.length)), ?_, ?_,fun _=>⟨(lY c (aN t c d) c.ru.length).length, ?_, ?_⟩⟩
  ·have F:froz1 (bA (lY c (aN t c d) c.ru.length).length (C1 (lY c (aN t c d) c.ru.length)))=true:=by unfold bA;split <;> rfl
   rw[au UG (by simp[KS])]
   generalize bA (lY c (aN t c d) c.ru.length).length (C1 (lY c (aN t c d) c.ru.length))=vo at*
   unfold aY at*
   simp only[qA,seval,KS,h1,V,I,D,F,Ng,aua]
  ·unfold bA;split <;> rfl
  ·unfold bA;split
   ·rename_i e;rw[e];rfl
   ·rfl
  ·rw[List.length_eq_zero_iff,W];exact Iff.rfl
 ·refine⟨.nilsl, ?_,rfl,fun h=>absurd h h0⟩
  generalize dE t c d=e at*
  rw[au UG (by simp[KS])]
  unfold aY at*
  simp only[qA,seval,KS,h1,h0,I,D,Ng]
theorem amh(h0:dE t c d=0):ae pE 124 [.agg [zT,aT,fT],.agg (aY c a7 a8 a9 aw aA az),dT] []=some (.tup [.i .i64 (mO (aN t c d) (YX c)),.i .i64 0],[])∧ae pE 125 [.agg [zT,aT,fT],.agg (aY c a7 a8 a9 aw aA az),dT] []=some (.tup [.i .i64 (yp (aN t c d) (crS c)),.i .i64 0],[]):=by
 have F:=yJ t c zT aT fT a7 a8 a9 aw aA az hT hC
 have D:=hd.sl.froz
 obtain⟨w,h1,h2,h3⟩:=OT t c zT aT fT a7 a8 a9 aw aA az hT hC hN hL d dT hd hlen
 rw[show(if eK t c≠0 then eK t c else ev c t.fl d)=dE t c d from rfl]at h1 h2
 obtain⟨I,hc,hS,K,V,O⟩:=Zq t c zT aT fT a7 a8 a9 aw aA az hT hC hN hL d dT hd hlen h0
 have hA:=lX (t:=t) (c:=c) I hc K yv O
 have U:=Zp c a7 a8 a9 aw aA az (.sl (jB (fD (aN t c d))) 11 false) (aN t c d) hC hS hc hA (.inr ⟨false,rfl⟩)
 have hr:=Mr c a7 a8 a9 aw aA az (.sl (jB (fD (aN t c d))) 11 false) (aN t c d) hC hS hc hA (.inr ⟨false,rfl⟩)
 rw[h2 h0]at h1
 rw[h0]at h1
 generalize mO (aN t c d) (YX c)=q at*
 generalize yp (aN t c d) (crS c)=q2 at*
 generalize jB (fD (aN t c d))=AC at*
 unfold aY at*
 refine⟨?_, ?_⟩
 ·rw[au afW (by simp[To])]
  simp only[qA,seval,To,h1,U,F,D,Ng,aub]
 ·rw[au afX (by simp[Tp])]
  simp only[qA,seval,Tp,h1,hr,F,D,Ng,auc]
theorem aeK: ∃v,ae pE 67 [.agg [zT,aT,fT],.agg (aY c a7 a8 a9 aw aA az),dT] []=some (.tup [.agg (F9 (RN t c d).1 v),.i .i64 (RN t c d).2],[])∧LgT (RN t c d).1 v:=by
 have K:=yJ t c zT aT fT a7 a8 a9 aw aA az hT hC
 have D:=hd.sl.froz
 obtain⟨w,h1,h2,h3⟩:=aeJ t c zT aT fT a7 a8 a9 aw aA az hT hC hN hL d dT hd hlen
 rw[aeI]
 by_cases h0:dE t c d=0
 ·rw[if_neg (by simp[h0])]
  obtain⟨ht,hc,hS,g1,g2,g3⟩:=Zq t c zT aT fT a7 a8 a9 aw aA az hT hC hN hL d dT hd hlen h0
  obtain⟨n,h4,h5⟩:=h3 h0
  rw[h0]at h1
  by_cases O:iI t c d=true
  ·have U:=h5.2 O
   subst U
   rw[if_pos O]
   have h4:lenI w=some (.i .i64 0):=h4
   obtain⟨k1,k2⟩:=amh t c zT aT fT a7 a8 a9 aw aA az hT hC hN hL d dT hd hlen h0
   have V:=JT t c zT aT fT a7 a8 a9 aw aA az hT hC ht hc d dT hd g1 yv g3
   obtain⟨i,j,r1,r2,hi,hj,ef,eg,ha,hb⟩:=YY t zT aT fT hT ht d dT hd g1 yv g3
   obtain⟨fc,f1,f2⟩:=hT.f
   obtain⟨r3,F⟩:=mI f1 f2 i hi
   obtain⟨r4,I⟩:=mI f1 f2 j hj
   rw[←ef]at F
   rw[←eg]at I
   have hw:=iY (k:=d.length) yv yv
   have eF:=hd.sl.lenI
   have W:=fun lh sh=>hd.sl.slC (lh:=lh) (sh:=sh) (mP d)
   have Cl:d.length*16≤roomy:=by unfold roomy;omega
   have SZ:=mP d
   have X:isNe dT=true:=by
    rcases hd.sl with⟨_,h,_⟩|⟨ex,rfl⟩
    ·omega
    ·cases hq:d.length with
     |zero=>omega
     |succ m=>rfl
   obtain⟨m,hm⟩: ∃m,d.length=m+1:=⟨d.length-1,by omega⟩
   have eU: ∀lh sh,appW lh sh 49 2 16 .nilsl dT=some (.isl .L 49 ((ab lh 49).g+1) 0 d.length 2,je lh 49 ⟨(ab lh 49).g+1,.cells (l6 d) 0 false⟩):=fun lh sh=>by
    unfold appW
    rw[W,Option.bind_some,hm,Ba,if_pos (by rw[←hm];exact Cl)]
   have Y:d.length*2≤(l6 d).length:=yv
   have Z:List.take (d.length*2) (l6 d)=l6 d:=List.take_of_length_le yv
   refine⟨.sl (l6 d) d.length false, ?_,.inr ⟨false,rfl⟩⟩
   unfold cz F9 at*
   simp only
   generalize ph c (db t.fl d 0)=x1 at*
   generalize pj c (db t.fl d (d.length-1))=x2 at*
   generalize mO (aN t c d) (YX c)=x5 at*
   generalize yp (aN t c d) (crS c)=x6 at*
   generalize db t.fl d 0=f at*
   generalize db t.fl d (d.length-1)=g at*
   unfold aY at*
   rw[au abh (by simp[c67])]
   simp only[qA,seval,bp,Bj,aH,fK,c67,h1,h4,k1,k2,V,ha,hb,F,I,hw,eF,X,eU,Y,Z,K,D,Int.lt_irrefl,UH,afV,atw,atx]
  ·rw[if_neg O]
   have U:(0:Int)<(n:Int):=by
    grind
   refine⟨.nilsl, ?_,.inl ⟨rfl,rfl,rfl⟩⟩
   unfold F9 RM aY at*
   rw[au abh (by simp[c67])]
   simp only[qA,seval,c67,h1,h4,U,K,D,UH]
 ·rw[if_pos h0]
  refine⟨.nilsl, ?_,.inl ⟨rfl,rfl,rfl⟩⟩
  generalize dE t c d=e at*
  unfold F9 RM aY at*
  rw[au abh (by simp[c67])]
  simp only[qA,seval,c67,h1,h0,K,D,UH]
end
end Go.Proofs.YtnkgnjecmfkcfaaGreat
namespace Go.Proofs.YtnkgnjecmfkcfaaGreat
open Go.Ev
def Sm:Nat→(Nat→Nat)→Nat
 |0,_=>0
 |n+1,f=>Sm n f+f n
theorem vV{f g:Nat→Nat}: ∀{n:Nat},(∀i,i<n→f i=g i)→Sm n f=Sm n g
 |0,_=>rfl
 |n+1,h=>by rw[Sm,Sm,vV (fun i hi=>h i yv),h n yv]
theorem Zr(f g:Nat→Nat): ∀n,Sm n (fun i=>f i+g i)=Sm n f+Sm n g
 |0=>rfl
 |n+1=>by simp only[Sm,Zr f g n];omega
theorem OW: ∀n,Sm n (fun _=>0)=0
 |0=>rfl
 |n+1=>by rw[Sm,OW n]
theorem OX(f:Nat→Nat→Nat)(m:Nat): ∀n,Sm n (fun i=>Sm m fun j=>f i j)=Sm m fun j=>Sm n fun i=>f i j
 |0=>by simp only[Sm,OW]
 |n+1=>by simp only[Sm,OX f m n];rw[←Zr]
theorem JZ(f:Nat→Nat): ∀n,Sm (n+1) f=f 0+Sm n fun i=>f (i+1)
 |0=>by simp[Sm]
 |n+1=>by rw[Sm,JZ f n,Sm];omega
def cv(p q:Nat→Nat)(h:Nat):Nat:=Sm (h+1) fun i=>p i*q (h-i)
def sf(p:Nat→Nat):Nat→Nat
 |0=>0
 |h+1=>p h
def Ms:Nat→Nat
 |0=>1
 |_+1=>0
section
variable(N:Nat)(J:Nat→Nat→Bool)(cg:Nat→Bool)
def tD(b:Bool):Nat:=if b then 1 else 0
def stp(g:Nat)(p:Nat→Nat)(h:Nat):Nat:=tD (cg g)*p h+sf p h
def cA:Nat→Nat→Nat→Nat
 |0,_,_=>0
 |1,g,h=>stp cg g Ms h
 |k+2,g,h=>stp cg g (fun h=>Sm N fun f=>tD (J f g)*cA (k+1) f h) h
def cB:Nat→Nat→Nat→Nat
 |0,_,_=>0
 |1,i,h=>stp cg i Ms h
 |k+2,i,h=>stp cg i (fun h=>Sm N fun j=>tD (J i j)*cB (k+1) j h) h
def cC(k f h:Nat):Nat:=match k with|0=>Ms h|k+1=>Sm N fun j=>tD (J f j)*cB N J cg (k+1) j h
theorem aix(k i h:Nat):cB N J cg (k+1) i h=stp cg i (fun h=>cC N J cg k i h) h:=by
 cases k <;> rfl
end
section
variable(N H:Nat)(J:Nat→Nat→Bool)(cg:Nat→Bool)
def j5(f:Nat):List Nat:=(List.range N).filter fun g=>J f g
def Csu(n:Nat→Nat→Nat):Nat:=Sm (H+1) fun h=>Sm N fun g=>n h g
end
def jn(c:Ct)(l:List Fl)(i j:Nat):Bool:=match l[i]?,l[j]? with
 |some x,some y=>yI c x y
 |_,_=>false
theorem OY{c:Ct}{l:List Fl}{i j:Nat}(hi:i<l.length)(D:j<l.length):jn c l i j=yI c l[i] l[j]:=by
 unfold jn;rw[List.getElem?_eq_getElem hi,List.getElem?_eq_getElem D]
theorem Gg(J:Nat→Bool)(k:Nat):(List.range (k+1)).filter J=if J k then(List.range k).filter J++ [k]else(List.range k).filter J:=by
 rw[List.range_succ,List.filter_append]
 by_cases h:J k=true <;> simp[h]
theorem Gh(J:Nat→Bool)(k:Nat):((List.range k).filter J).length≤k:=by
 have:=List.length_filter_le J (List.range k)
 rwa [List.length_range]at this
section
variable(zT aT fT a7 a8 a9 aw aA az:T)(c:Ct)(uA fc:List T)(l:List Fl)(hf:IsSl fT l.length fc)(hr:aB SM l fc)(hN:l.length≤1000)
include hf hr hN
def CO(s:List ah)(v:T)(r:List Nat):Prop:=(r= []∧v= .nilsl)∨r≠ []∧ ∃k g,v= .isl .S k g 0 r.length 1∧k<s.length∧aI s k=⟨g,.cells (ints (r.map Int.ofNat)) 0 false⟩
omit hf hr hN in
theorem CO.mono{s:List ah}{v:T}{r:List Nat}(h:CO s v r)(x:List ah):CO (s++x) v r:=by
 rcases h with h|⟨h0,k,g,h1,h2,h3⟩
 ·exact .inl h
 ·exact .inr ⟨h0,k,g,h1,by rw[List.length_append];omega,by rw[rS h2];exact h3⟩
def COs(s:List ah):List T→List (List Nat)→Prop
 | [],[]=>True
 |v::D,r::rs=>CO s v r∧COs s D rs
 |_,_=>False
omit hf hr hN in
theorem COs.mono{s:List ah}(x:List ah): ∀{D:List T} {rs:List (List Nat)},COs s D rs→COs (s++x) D rs
 | [],[],_=>trivial
 |_::_,_::_,h=>⟨h.1.mono x,h.2.mono x⟩
omit hf hr hN in
theorem COs.len{s:List ah}: ∀{D:List T} {rs:List (List Nat)},COs s D rs→D.length=rs.length
 | [],[],_=>rfl
 |_::_,_::_,g=>by rw[List.length_cons,List.length_cons,g.2.len]
def qd(r:List Nat):T:=if r= []then .nilsl else .sl (ints (r.map Int.ofNat)) r.length false
omit hf hr hN in
theorem CO.fz{s:List ah}{v:T}{r:List Nat}{lh:aD ah}{m:Nat}(h:CO s v r): ∃us,(fz false (m+1) v).run (St.mk .nil lh s).get s.length=some (qd r,us):=by
 rcases h with⟨rfl,rfl⟩|⟨h0,k,g,rfl,h2,h3⟩
 ·exact⟨_,rfl⟩
 ·unfold Ev.fz
  have D:(St.mk .nil lh s).get .S k=aI s k:=rfl
  simp only[Bool.false_and,Bool.false_eq_true,if_false,Q.run,D,h3,if_true]
  have e1:(ints (r.map Int.ofNat)).length=r.length:=by rw[dX,List.length_map]
  rw[if_pos yv]
  refine⟨_,congrArg some (Prod.ext ?_ rfl)⟩
  show T.sl _ _ _=_
  rw[List.drop_zero,Nat.mul_one,List.take_of_length_le yv]
  unfold qd
  rw[if_neg h0]
omit hf hr hN in
theorem COs.fz{s:List ah}{lh:aD ah}{m:Nat}: ∀{D:List T} {rs:List (List Nat)},COs s D rs→ ∃us,(bh (Ev.fz false (m+1)) D).run (St.mk .nil lh s).get s.length=some (rs.map qd,us)
 | [],[],_=>⟨_,rfl⟩
 |v::D,r::rs,h=>by
  obtain⟨F,e1⟩:=h.1.fz (lh:=lh) (m:=m)
  obtain⟨I,e2⟩:=h.2.fz (lh:=lh) (m:=m)
  simp only[bh,bt,e1,e2,Option.bind_some,Q.run,List.map_cons]
  exact⟨_,rfl⟩
end
def iF(ops:List Int)(f:Nat):Bool:=decide ((f:Int)∈ops)
theorem Zs(N:Nat)(ops:List Int)(f:Nat)(hf:f<N): ∃q,∀kk,iaV (.sl (xw (inB N ops)) N false) (.i kk (f:Int)) 1=some (.vp (.b (iF ops f)::q)):=by
 refine⟨(xw (inB N ops)).drop (f+1),fun kk=> ?_⟩
 rw[cO,if_pos ⟨by omega,by simpa using hf,by rw[vN];simp;omega⟩,Int.toNat_natCast,Nat.mul_one,List.drop_eq_getElem_cons (by rw[vN];exact hf)]
 refine congrArg some (congrArg T.vp (congrArg (· ::_) ?_))
 simp[xw,inB,iF]
section
variable(zT aT fT a7 a8 a9 aw aA az:T)(c:Ct)(uA fc:List T)(l:List Fl)(hf:IsSl fT l.length fc)(hr:aB SM l fc)(hN:l.length≤1000)
include hf hr hN
end
def il(n:Nat):Int:=wr .i64 (n:Int)
theorem wrap64(n:Int):IntKind.i64.wrap n=if 9223372036854775808≤n%18446744073709551616 then n%18446744073709551616-18446744073709551616 else n%18446744073709551616:=by
 unfold IntKind.wrap
 simp[IntKind.bits,IntKind.signed]
theorem Mt(n:Nat): ∃k:Int,il n=n+18446744073709551616*k∧ -9223372036854775808≤il n∧il n<9223372036854775808:=by
 unfold il
 rw[wr_eq,wrap64]
 split
 ·exact⟨-((n:Int)/18446744073709551616)-1,by omega,by omega,by omega⟩
 ·exact⟨-((n:Int)/18446744073709551616),by omega,by omega,by omega⟩
theorem ami{a b:Int}(h: ∃k:Int,a=b+18446744073709551616*k):wr .i64 a=wr .i64 b:=by
 obtain⟨k,rfl⟩:=h
 rw[wr_eq,wr_eq,wrap64,wrap64,show(b+18446744073709551616*k)%18446744073709551616=b%18446744073709551616 by omega]
theorem zE(a b:Nat):wr .i64 (il a+il b)=il (a+b):=by
 obtain⟨k,h,_⟩:=Mt a
 obtain⟨m,D,_⟩:=Mt b
 exact ami ⟨k+m,by rw[h,D];push_cast;omega⟩
theorem J0:il 0=0:=xW
theorem aeL:il 1=1:=xW
theorem Zt(a:Nat):wr .i64 (il a)=il a:=by
 obtain⟨k,h,h1,h2⟩:=Mt a
 exact bj ⟨by omega,by omega⟩
section
variable(N H:Nat)(J:Nat→Nat→Bool)(cg:Nat→Bool)
def yO(c:Nat→Nat→Nat→Nat):Nat→Nat
 |0=>0
 |k+1=>yO c k+Csu N H (fun h g=>c (k+1) g h)
end
def Cq(N:Nat):Option Int→List Int→Int
 |_,[]=>0
 |p,x::l=>if 0≤x∧x<(N:Int)then match p with
    |some q=>if x≤q then 8 else Cq N (some x) l
    |none=>Cq N (some x) l
  else 6
def RX(l:List Int)(k:Nat):Option Int:=if k=0 then none else l[k-1]?
theorem RY(l:List Int)(k:Nat)(hk:k<l.length):RX l (k+1)=some l[k]:=by
 unfold RX;rw[if_neg yv,Nat.add_sub_cancel,List.getElem?_eq_getElem hk]
theorem Zu(l:List Int)(k:Nat)(hk:k<l.length)(h0:k≠0):RX l k=some l[k-1]:=by
 unfold RX;rw[if_neg h0,List.getElem?_eq_getElem yv]
theorem J1(N:Nat)(p:Option Int)(x:Int)(l:List Int):Cq N p (x::l)=if 0≤x∧x<(N:Int)then(match p with|some q=>if x≤q then 8 else Cq N (some x) l|none=>Cq N (some x) l)else 6:=by cases p <;> rfl
theorem aeM(N:Nat)(p:Option Int):Cq N p []=0:=by cases p <;> rfl
section
variable(zT aT fT:T)(r fc:List T)(N:Nat)(hf:IsSl fT N fc)(hN:N≤1000)(ops:List Int)(oT:T)(ho:IsSl oT ops.length (ints ops))(hl:ops.length≤1000)
include hf hN ho hl
end
def RZ(H:Nat)(w:Nat→Int):T:= .sl (eV (H+1) w) (H+1) false
def Zv(N H:Nat)(w:Nat→Nat→Int):T:= .sl ((List.range N).map fun i=>RZ H (w i)) N false
def Gi(r:List Nat)(f:Nat→Nat):Nat:=(r.map f).sum
theorem aeN(N:Nat)(J:Nat→Bool)(f:Nat→Nat):Gi ((List.range N).filter J) f=Sm N fun j=>tD (J j)*f j:=by
 induction N with
 |zero=>rfl
 |succ n ih=>
  rw[Gg,Sm,←ih]
  cases h:J n
  ·simp[tD]
  ·simp[tD,Gi]
theorem amj(N H:Nat)(w:Nat→Nat→Int)(i:Nat)(hi:i<N): ∃q,∀kk,iaV (Zv N H w) (.i kk (i:Int)) 1=some (.vp (RZ H (w i)::q)):=by
 refine⟨((List.range N).map fun i=>RZ H (w i)).drop (i+1),fun kk=> ?_⟩
 unfold Zv
 rw[cO,if_pos ⟨by omega,by simpa using hi,by simp;omega⟩,Int.toNat_natCast,Nat.mul_one,List.drop_eq_getElem_cons (by simpa using hi)]
 simp
theorem aeO(H:Nat)(w:Nat→Int)(h:Nat)(D:h≤H): ∃q,∀kk,iaV (RZ H w) (.i kk (h:Int)) 1=some (.vp (.i .i64 (w h)::q)):=by
 refine⟨(eV (H+1) w).drop (h+1),fun kk=> ?_⟩
 unfold RZ
 rw[cO,if_pos ⟨by omega,by simp;omega,by rw[nY];simp;omega⟩,Int.toNat_natCast,Nat.mul_one,List.drop_eq_getElem_cons (by rw[nY];omega)]
 simp[eV]
theorem axC(N H:Nat)(w:Nat→Nat→Nat)(r:List Nat)(hr: ∀j∈r,j<N)(hlen:r.length≤1000)(X:T)(D:IsSl X r.length (ints (r.map Int.ofNat)))(h:Nat)(Y:h≤H)(fr:Fr)(lh:aD ah)(sh:List ah)(h0:aa fr 0=Zv N H fun i g=>il (w i g))(h1:aa fr 1=X)(h3:aa fr 3= .i .i64 (h:Int))(Z:aa fr 9= .i .i64 0)(O:aa fr 10= .i .i64 0):
  Lp pE 34 wG fr lh sh (.ext 0) fun f l s=>aa f 9= .i .i64 (il (Gi r fun j=>w j h))∧l=lh∧s=sh:=by
 refine cV Hy (fun k f l s=>aa f 9= .i .i64 (il (Gi (r.take k) fun j=>w j h))∧aa f 10= .i .i64 (k:Int)∧l=lh∧s=sh) r.length ⟨Z,O,rfl,rfl⟩ ?_ ?_
 ·rintro k f _ _ hk U ⟨K,F,rfl,rfl⟩
  have V:(k:Int)<r.length:=yv
  have hw:=aG (k:=k) yv
  have I:=fun kk=>D.ia (sz:=1) (k:=k) (kk:=kk) (by rw[dX,List.length_map];omega) hk
  have hd:(ints (r.map Int.ofNat)).drop (k*1)= .i .i64 (r[k]:Int)::(ints (r.map Int.ofNat)).drop (k+1):=by
   rw[Nat.mul_one,List.drop_eq_getElem_cons (by simpa[ints]using hk)]
   simp[ints]
  rw[hd]at I
  have iw:Gi (r.take (k+1)) (fun j=>w j h)=Gi (r.take k) (fun j=>w j h)+w r[k] h:=by
   unfold Gi;rw[List.take_succ_eq_append_getElem hk,List.map_append,List.sum_append];simp
  obtain⟨q1,e1⟩:=amj N H (fun i g=>il (w i g)) r[k] (hr _ (List.getElem_mem hk))
  obtain⟨q2,e2⟩:=aeO H (fun g=>il (w r[k] g)) h Y
  have W:=D.lenI
  rw[iw]
  generalize r[k]=x at*
  simp(maxDischargeDepth:=6) only[qA,seval,gd,wG,U,h0,h1,h3,K,F,V,hw,I,W,e1,e2,zE]
 ·rintro f _ _ U ⟨K,F,rfl,rfl⟩
  rw[List.take_length]at K
  have W:=D.lenI
  simp only[qA,seval,gd,wG,U,h1,K,F,W,Int.lt_irrefl]
theorem aeP(N H:Nat)(w:Nat→Nat→Nat)(r:List Nat)(hr: ∀j∈r,j<N)(hlen:r.length≤1000)(I:T)(K:IsSl I r.length (ints (r.map Int.ofNat)))(h:Nat)(O:h≤H)(F:Int)(hs:F≠1):ae pE 66 [Zv N H fun i g=>il (w i g),I,.i .i64 F,.i .i64 (h:Int)] []=some (.i .i64 (il (Gi r fun j=>w j h)),[]):=by
 rw[au Qj (by simp[c66])]
 simp(maxDischargeDepth:=6) only[qA,seval,c66,hs]
 generalize U:DC pE 34 (.loop wG) _=D
 obtain⟨W,X,s2,rfl,⟨V,rfl,rfl⟩,Y⟩:=yq Hy U (axC N H w r hr hlen I K h O _ _ _ wW wW wW wW wW)
 simp(maxDischargeDepth:=6) only[qA,seval,V]
theorem Zw(F I:T)(h:Nat):ae pE 66 [F,I,.i .i64 1,.i .i64 (h:Int)] []=some (.i .i64 (il (Ms h)),[]):=by
 rw[au Qj (by simp[c66])]
 cases h with
 |zero=>
  have D:((0:Nat):Int)=0:=rfl
  simp(maxDischargeDepth:=6) only[qA,seval,c66,Ms,aeL,D]
 |succ h=>
  have h0: ¬((h+1:Nat):Int)=0:=yv
  simp(maxDischargeDepth:=6) only[qA,seval,c66,Ms,J0,h0]
section
variable(t:Tt)(c:Ct)(zT aT fT a7 a8 a9 aw aA az:T)(hT:kN t zT aT fT)(hC:mG c a7 a8 a9 aw aA az)(hN:t.fl.length≤1000)
include hT hC hN
theorem rj1(i:Nat)(hi:i<t.fl.length)(fr:Fr)(lh:aD ah)(sh:List ah)(h2:aa fr 2= .ptr .L 2 1 0)(h3:aa fr 3= .ptr .L 3 1 0)(h6:aa fr 6= .i .i64 (i:Int))(h7:aa fr 7= .nilsl)(h8:aa fr 8= .i .i64 0)(o2:ab lh 2=⟨1,.cells [zT,aT,fT] 0 true⟩)(o3:ab lh 3=⟨1,.cells (aY c a7 a8 a9 aw aA az) 0 true⟩):
  Lp pE 37 sL fr lh sh (.ext 2) fun f l s=>s=sh∧bg l (aa f 7) 31 1 (j5 t.fl.length (jn c t.fl) i).length (ints ((j5 t.fl.length (jn c t.fl) i).map Int.ofNat))∧(∀j,j≠31→ab l j=ab lh j):=by
 have W:=hT.f
 obtain⟨fc,f1,f2⟩:=W
 have X:=f1.lenI
 have Y:=fun k (hk:k<t.fl.length)=>Ju t c zT aT fT a7 a8 a9 aw aA az hT hC (i:=(i:Int)) (j:=(k:Int)) (by unfold lj;simpa using hi) (by unfold lj;simpa using hk)
 have hz:=yJ t c zT aT fT a7 a8 a9 aw aA az hT hC
 unfold aY at*
 refine cV Hr (fun k f l s=>aa f 8= .i .i64 (k:Int)∧s=sh∧bg l (aa f 7) 31 1 ((List.range k).filter fun j=>jn c t.fl i j).length (ints (((List.range k).filter fun j=>jn c t.fl i j).map Int.ofNat))∧(∀j,j≠31→ab l j=ab lh j)) t.fl.length ⟨h8,rfl,by rw[h7];exact bg.nil,fun _ _=>rfl⟩ ?_ ?_
 ·rintro k f l _ hk O ⟨U,rfl,F,D⟩
  have I:(k:Int)<t.fl.length:=yv
  have hw:=aG (k:=k) yv
  have e1:=Y k hk
  rw[show pL c t.fl (i:Int) (k:Int)=jn c t.fl i k by rw[nX c t.fl hi hk,OY hi hk]]at e1
  have V:=(D 2 xW).trans o2
  have q3:=(D 3 xW).trans o3
  have hlen:((List.range k).filter fun j=>jn c t.fl i j).length≤k:=Gh (jn c t.fl i) k
  have Z:=fun(aU:aD ah) (aX:List ah) (e:ab aU 31=ab l 31)=>dO (sh:=aX) (F.congr e) [.i .i64 (k:Int)] rfl (bytes:=8) (by unfold roomy;omega) true
  have mN:=F.notS
  rw[Gg]
  generalize (List.range k).filter (fun j=>jn c t.fl i j)=r at*
  generalize K:aa f 7=v7 at F Z mN
  cases hb:jn c t.fl i k
  ·simp(maxDischargeDepth:=6) only[qA,seval,gd,sL,O,h2,h3,h6,U,V,q3,X,I,hw,e1,hb,ajA,K,hz]
   exact⟨F,D⟩
  ·simp(maxDischargeDepth:=6) only[qA,seval,gd,sL,O,h2,h3,h6,U,V,q3,X,I,hw,e1,hb,ajA,K,hz,Z,mN,repl]
   obtain⟨_,k1,k2⟩:=Z l _ rfl
   rw[show ints ((r++ [k]).map Int.ofNat)=ints (r.map Int.ofNat)++ [.i .i64 (k:Int)]by simp[ints],show(r++ [k]).length=r.length+1 by simp]
   exact⟨k1,fun j hj=>(k2 j hj).trans (D j hj)⟩
 ·rintro f l _ O ⟨U,rfl,F,D⟩
  have V:=(D 2 xW).trans o2
  simp only[qA,seval,gd,sL,O,h2,V,U,X,Int.lt_irrefl]
  exact⟨F,D⟩
theorem rj2(fr:Fr)(lh:aD ah)(sh:List ah)(h2:aa fr 2= .ptr .L 2 1 0)(h3:aa fr 3= .ptr .L 3 1 0)(h5:aa fr 5= .nilsl)(h6:aa fr 6= .i .i64 0)(o2:ab lh 2=⟨1,.cells [zT,aT,fT] 0 true⟩)(o3:ab lh 3=⟨1,.cells (aY c a7 a8 a9 aw aA az) 0 true⟩):
  Lp pE 37 wx fr lh sh (.ext 0) fun f l s=>s=sh∧bg l (aa f 5) 35 1 t.fl.length (((List.range t.fl.length).map (j5 t.fl.length (jn c t.fl))).map qd):=by
 have hf0:=hT.f
 obtain⟨fc,f1,f2⟩:=hf0
 have eF:=f1.lenI
 refine cV Hs (fun k f l s=>aa f 6= .i .i64 (k:Int)∧s=sh∧bg l (aa f 5) 35 1 k (((List.range k).map (j5 t.fl.length (jn c t.fl))).map qd)∧(∀j,j≠31→j≠35→ab l j=ab lh j)) t.fl.length ⟨h6,rfl,by rw[h5];exact bg.nil,fun _ _ _=>rfl⟩ ?_ ?_
 ·rintro k f l s hk K ⟨O,rfl,hO,U⟩
  have hk':(k:Int)<t.fl.length:=yv
  have hw:=aG (k:=k) yv
  have X:=(U 2 xW xW).trans o2
  have q3:=(U 3 xW xW).trans o3
  simp(maxDischargeDepth:=6) only[qA,seval,wx,K,h2,O,X,eF,hk']
  generalize hD:DC pE 37 (.loop sL) _=D
  obtain⟨F,l2,s2,rfl,⟨rfl,V,Mu⟩,lD⟩:=yq Hr hD (rj1 t c zT aT fT a7 a8 a9 aw aA az hT hC hN k hk _ _ _ (by simp only[qA,seval,K,h2]) (by simp only[qA,seval,K,h3]) (by simp only[qA,seval,O]) wW wW X q3)
  have e6:aa F 6= .i .i64 (k:Int):=by rw[lD 6 xW];simp only[qA,seval,O]
  have e5:aa F 5=aa f 5:=by rw[lD 5 xW];simp only[qA,seval]
  have SU:=hO.congr (Mu 35 xW)
  rw[←e5]at SU
  obtain⟨v7,e7⟩: ∃v,aa F 7=v:=⟨_,rfl⟩
  obtain⟨v5,I⟩: ∃v,aa F 5=v:=⟨_,rfl⟩
  rw[e7]at V
  rw[I]at SU
  have ht:qd (j5 t.fl.length (jn c t.fl) k)=bA (j5 t.fl.length (jn c t.fl) k).length (ints ((j5 t.fl.length (jn c t.fl) k).map Int.ofNat)):=by
   unfold bA qd
   simp only[List.length_eq_zero_iff]
  have mN:=SU.notS
  have Y:=fun(v:T) (aU:aD ah) (aX:List ah) (e:ab aU 35=ab l2 35)=>dO (sh:=aX) (SU.congr e) [v] rfl (bytes:=24) (by unfold roomy;omega) true
  have yl:((List.range (k+1)).map (j5 t.fl.length (jn c t.fl))).map qd=((List.range k).map (j5 t.fl.length (jn c t.fl))).map qd++ [qd (j5 t.fl.length (jn c t.fl) k)]:=by rw[List.range_succ,List.map_append,List.map_append];rfl
  rw[yl,ht]
  have Mv: ∀j,j≠31→j≠35→ab l2 j=ab lh j:=fun j h1 h2=>(Mu j h1).trans (U j h1 h2)
  rcases V with⟨h1,rfl,h3⟩|⟨g,wm,rfl,ho,hl,hp⟩
  ·simp(maxDischargeDepth:=6) only[qA,seval,gd,I,e6,e7,mN,Y,hw,repl,h1,bA]
   exact fun j Z W=>((Y .nilsl l2 _ rfl).2.2 j W).trans (Mv j Z W)
  ·have hp': ¬(j5 t.fl.length (jn c t.fl) k).length=0:=yv
   have hl':(j5 t.fl.length (jn c t.fl) k).length≤(ints ((j5 t.fl.length (jn c t.fl) k).map Int.ofNat)).length:=yv
   have htk:(ints ((j5 t.fl.length (jn c t.fl) k).map Int.ofNat)).take (j5 t.fl.length (jn c t.fl) k).length=ints ((j5 t.fl.length (jn c t.fl) k).map Int.ofNat):=List.take_of_length_le yv
   simp(maxDischargeDepth:=6) only[qA,seval,gd,I,e6,e7,mN,Y,hw,repl,ho,hl',htk,hp',bA]
   exact fun j Z W=>((Y _ _ _ wW).2.2 j W).trans ((bD _ _ Z).trans (Mv j Z W))
 ·rintro f l _ K ⟨O,rfl,hO,U⟩
  have X:=(U 2 xW xW).trans o2
  simp only[qA,seval,gd,wx,K,h2,X,O,eF,Int.lt_irrefl]
  exact hO
theorem En:ae pE 31 [.agg [zT,aT,fT],.agg (aY c a7 a8 a9 aw aA az)] []=some (bA t.fl.length (((List.range t.fl.length).map (j5 t.fl.length (jn c t.fl))).map qd),[]):=by
 have V:=yJ t c zT aT fT a7 a8 a9 aw aA az hT hC
 have hL:=fun fr lh sh h2 h3 h5 h6 F I=>rj2 t c zT aT fT a7 a8 a9 aw aA az hT hC hN fr lh sh h2 h3 h5 h6 F I
 unfold aY at*
 rw[au ajq (by simp[c31])]
 simp(maxDischargeDepth:=6) only[qA,seval,c31]
 generalize K:DC pE 37 (.loop wx) _=D
 obtain⟨O,W,s2,rfl,⟨rfl,U⟩,X⟩:=yq Hs K (hL _ _ _ wW wW wW wW wW wW)
 have KA:=fun sh=>U.fzV (keep:=false) (sh:=sh)
 obtain⟨Y,e5⟩: ∃v,aa O 5=v:=⟨_,rfl⟩
 rw[e5]at KA
 simp(maxDischargeDepth:=6) only[qA,xk,seval,e5,KA]
theorem aEd(ops:List Int)(oT:T)(ho:IsSl oT ops.length (ints ops))(hl:ops.length≤1000)(fr:Fr)(lh:aD ah)(sh:List ah)(h1:aa fr 1=oT)(h2:aa fr 2= .ptr .L 2 1 0)(h4:aa fr 4= .nilsl)(h6:aa fr 6= .isl .L 11 1 0 t.fl.length 1)(h7:aa fr 7= .i .i64 0)(U:ab lh 2=⟨1,.cells [zT,aT,fT] 0 true⟩)(Hd:ab lh 11=⟨1,.cells (xw (inB t.fl.length [])) 0 false⟩):
  Lp pE 54 mS fr lh sh (if Cq t.fl.length none ops=0 then .ext 0 else .ret) fun f l s=>s=sh∧(Cq t.fl.length none ops=0→ab l 11=⟨1,.cells (xw (inB t.fl.length ops)) 0 false⟩)∧(Cq t.fl.length none ops≠0→aa f 4= .nilsl∧aa f 5= .i .i64 (Cq t.fl.length none ops)):=by
 have _:=hC
 have _:=hN
 have hf0:=hT.f
 obtain⟨fc,f1,f2⟩:=hf0
 have K:=f1.lenI
 have Z:=ho.lenI
 generalize hR:Cq t.fl.length none ops=R
 refine cV Ho (fun k f l s=>aa f 7= .i .i64 (k:Int)∧aa f 4= .nilsl∧s=sh∧ab l 2=⟨1,.cells [zT,aT,fT] 0 true⟩∧ab l 11=⟨1,.cells (xw (inB t.fl.length (ops.take k))) 0 false⟩∧R=Cq t.fl.length (RX ops k) (ops.drop k)) ops.length ⟨h7,h4,rfl,U,Hd,hR.symm⟩ ?_ ?_
 ·rintro k f l _ hk V ⟨W,g4,rfl,U,Hd,D⟩
  have I:(k:Int)<ops.length:=yv
  have hw:wr .i64 ((k:Int)+1)=((k+1:Nat):Int):=by rw[bj yv];omega
  have F:=fun kk=>ho.ia (sz:=1) (k:=k) (kk:=kk) (by rw[dX];omega) hk
  simp only[Nat.mul_one]at F
  rw[lB ops k hk]at F
  rw[List.drop_eq_getElem_cons hk,J1]at D
  rw[RY ops k hk]
  have yl:=YZ t.fl.length (ops.take k) ops[k]
  rw[←List.take_succ_eq_append_getElem hk]at yl
  have kg:=vN t.fl.length (ops.take k)
  by_cases hx:0≤ops[k]∧ops[k]<(t.fl.length:Int)
  ·obtain⟨x0,xN⟩:=hx
   have X: ¬ops[k]<0:=yv
   have Y: ¬(t.fl.length:Int)≤ops[k]:=yv
   have yl:=yl x0 xN
   rw[if_pos ⟨x0,xN⟩]at D
   have xn:ops[k].toNat<t.fl.length:=yv
   have xn2:ops[k].toNat+1≤t.fl.length:=yv
   by_cases h0':k=0
   ·subst h0'
    have hp0:RX ops 0=none:=rfl
    rw[hp0]at D
    have xy: ∀kk,iaV oT (.i kk 0) 1=some (.vp (.i .i64 ops[0]::(ints ops).drop (0+1))):=fun kk=>F kk
    have g70:aa f 7= .i .i64 0:=W
    have yF:(0:Int)<ops.length:=I
    generalize xw (inB t.fl.length (ops.take 0))=B at*
    generalize hB:xw (inB t.fl.length (ops.take (0+1)))=B' at*
    simp(maxDischargeDepth:=6) only[qA,seval,gd,mS,V,h1,h2,h6,g70,g4,Z,K,yF,xy,U,Hd,x0,X,Y,xn,xn2,kg,yl]
    exact D
   ·rw[Zu ops k hk h0']at D
    have BL:=fun kk=>ho.ia (sz:=1) (k:=k-1) (kk:=kk) (by rw[dX];omega) yv
    simp only[Nat.mul_one]at BL
    rw[lB ops (k-1) yv]at BL
    have hw2:=iY (k:=k) yv yv
    have Mk:(0:Int)<(k:Int):=yv
    generalize xw (inB t.fl.length (ops.take k))=B at*
    generalize hB:xw (inB t.fl.length (ops.take (k+1)))=B' at*
    dsimp only at D
    by_cases O:ops[k]≤ops[k-1]
    ·rw[if_pos O]at D
     subst D
     simp(maxDischargeDepth:=6) only[qA,seval,gd,mS,V,h1,h2,W,Z,K,I,hw2,Mk,F,BL,U,Hd,X,Y,O]
     exact⟨False.elim,fun _=>trivial⟩
    ·rw[if_neg O]at D
     simp(maxDischargeDepth:=6) only[qA,seval,gd,mS,V,h1,h2,h6,W,g4,Z,K,I,hw,hw2,Mk,F,BL,U,Hd,x0,X,Y,xn,xn2,kg,yl,O]
     exact D
  ·rw[if_neg hx]at D
   subst D
   by_cases x0:ops[k]<0
   ·simp(maxDischargeDepth:=6) only[qA,seval,gd,mS,V,h1,W,Z,I,F,Hd,x0]
    exact⟨False.elim,fun _=>trivial⟩
   ·have xN:(t.fl.length:Int)≤ops[k]:=yv
    simp(maxDischargeDepth:=6) only[qA,seval,gd,mS,V,h1,h2,W,Z,K,I,F,U,Hd,x0,xN]
    exact⟨False.elim,fun _=>trivial⟩
 ·rintro f l _ V ⟨W,g4,rfl,U,Hd,D⟩
  rw[List.drop_length,aeM]at D
  rw[List.take_length]at Hd
  subst D
  simp only[qA,seval,gd,mS,V,h1,Z,W,Int.lt_irrefl,Hd]
  exact⟨fun _=>trivial,False.elim⟩
theorem Zx(ops:List Int)(oT:T)(ho:IsSl oT ops.length (ints ops))(hl:ops.length≤1000):ae pE 29 [.agg [zT,aT,fT],oT] []=some (if Cq t.fl.length none ops=0 then .tup [.sl (xw (inB t.fl.length ops)) t.fl.length false,.i .i64 0]else .tup [.nilsl,.i .i64 (Cq t.fl.length none ops)],[]):=by
 have hz:=yJ t c zT aT fT a7 a8 a9 aw aA az hT hC
 have hL:=fun fr lh sh=>aEd t c zT aT fT a7 a8 a9 aw aA az hT hC hN ops oT ho hl fr lh sh
 have F:=hT.f
 obtain⟨fc,V,f2⟩:=F
 have I:=V.lenI
 have r1:t.fl.length*1≤roomy:=by unfold roomy;omega
 have K:t.fl.length≤roomy:=by unfold roomy;omega
 have Mw:repl [T.b false] t.fl.length=xw (inB t.fl.length []):=by
  rw[aeo]
  generalize t.fl.length=N
  induction N with
  |zero=>rfl
  |succ n ih=>rw[repl,ih,List.replicate_succ];rfl
 have kg:=vN t.fl.length ops
 have O:(xw (inB t.fl.length ops)).take t.fl.length=xw (inB t.fl.length ops):=List.take_of_length_le yv
 rw[au asv (by simp[c29])]
 simp(maxDischargeDepth:=6) only[qA,seval,c29,I,K,Mw]
 generalize W:DC pE 54 (.loop mS) _=D
 obtain⟨U,l2,s2,rfl,⟨rfl,hA,X⟩,Y⟩:=yq Ho W (hL _ _ _ wW wW wW wW wW wW wW)
 have Z:aa U 6= .isl .L 11 1 0 t.fl.length 1:=by rw[Y 6 xW];simp only[qA,seval]
 by_cases h0:Cq t.fl.length none ops=0
 ·have hA:=hA h0
  simp(maxDischargeDepth:=6) only[qA,xk,seval,h0,Z,hA,kg,O]
 ·obtain⟨b1,b2⟩:=X h0
  simp(maxDischargeDepth:=6) only[qA,xk,seval,h0,b1,b2]
end
end Go.Proofs.YtnkgnjecmfkcfaaGreat
namespace Go.Ev
open Go
def ni(br:List FP)(i:Nat):Bool:=match aH ⟨true,[],[]⟩ br i with
 |⟨false,_,[]⟩=>true
 |_=>false
theorem Gj{br:List FP}{i:Nat}{r:List (Sp×Nat)}(h:ni br i=true):apart (aH ⟨true,[],[]⟩ br i) ⟨false,r,[]⟩=true:=by
 unfold ni at h
 split at h
 ·rename_i q D
  rw[D]
  have:eD q []=true:=by unfold eD;rw[List.all_eq_true];intro x _;rfl
  unfold apart
  simp only[this]
  rfl
 ·cases h
theorem Gk{E:Env}{call:jP}{n:Nat}{fr:Fr}{lh:aD ah}{sh:List ah}{ds:List (List Nat×aF)}{br:List FP}{u:List Nat}{d:Option Nat}{f:Nat}{af:aj}{D:List aP}(hf:E.fn f=some af)(O:af.eff=false)(U:af.own=none){q:List T×List Up}(F:yU lh sh false (D.map (rd fr))=some q){v:T}{s:List ah}(hc:call f q.1 []=some (v,s))(V:scalar v=true)(W:SF ds=true)(K:u.all (ni br)=true):
  aK E call n ((u,⟨d,.callf f D,none⟩)::ds) br ⟨fr,lh,sh⟩=ke E call n ds (br++ [fO]) (ai E call n [⟨d,.callf f D,none⟩] ⟨fr,lh,sh⟩):=by
 have I:bn E call n ⟨d,.callf f D,none⟩ ⟨fr,lh,sh⟩≠none→bN E call ⟨d,.callf f D,none⟩ ⟨fr,lh,sh⟩=some ⟨false,(bh (fz false aJ) (D.map (rd fr))).log (St.mk fr lh sh).get sh.length,[]⟩:=by
  intro X
  unfold bN eE
  have Y:bB (St.mk fr lh sh).rho (.callf f D)=some (some (f,D.map (rd fr))):=by rw[dm];rfl
  unfold yU at F
  rw[←lN (fr:=fr)]at F
  simp only[Y,hf,O,F]
  have Z:inB (St.mk fr lh sh) q.2=true:=u7 (fun t p h=>LO _ _ t p h) _ _ F
  simp only[Z,Bool.not_true,Bool.false_eq_true,if_false,U,hc,V,if_true]
 rw[mZ I,if_pos]
 ·unfold ke
  cases ai E call n [⟨d,.callf f D,none⟩] ⟨fr,lh,sh⟩with
  |none=>rfl
  |some s=>exact Be ds _ _ s W
 ·unfold meets
  rw[List.all_eq_true]at K ⊢
  exact fun i hi=>Gj (K i hi)
end Go.Ev
namespace Go.Proofs.YtnkgnjecmfkcfaaGreat
open Go Go.Ev
def nl(b:Bool)(p:Nat→Nat)(h:Nat):Nat:=tD b*p h+sf p h
theorem Zy(cg:Nat→Bool)(g:Nat)(p:Nat→Nat)(h:Nat):stp cg g p h=nl (cg g) p h:=rfl
theorem Mx(a:Nat):wr .i64 (0+il a)=il a:=by rw[Int.zero_add,Zt]
theorem rc1(N H i:Nat)(hi:i<N)(hN:N≤1000)(hH:H≤6)(B P:Nat)(hP:P=B+1+i)(OO nT K wT:T)(b:Bool)(q1 q2:List T)(iD: ∀kk,iaV OO (.i kk (i:Int)) 1=some (.vp (.b b::q1)))(iw: ∀kk,iaV nT (.i kk (i:Int)) 1=some (.vp (K::q2)))(F:froz K=true)(C:Nat→Nat)(D:Int)(Eo: ∀h,h≤H→ae pE 66 [wT,K,.i .i64 D,.i .i64 (h:Int)] []=some (.i .i64 (il (C h)),[]))
  (cb:List T) (Y:cb[i]? =some (.isl .S P 1 0 (H+1) 1)) (hcl:cb.length=N) (kw:Nat) (T0:Nat) (O:List ah) (hwz: ∀s,(∀k,k<B→aI s k=aI O k)→ ∃us,∀lh,fzV lh s false (.isl .S kw 1 0 N 1)=some (wT,us))
  (fr:Fr) (lh:aD ah) (h3:aa fr 3= .i .i64 (H:Int)) (Z:aa fr 11=OO) (ig:aa fr 13=nT) (kY:aa fr 15= .isl .S kw 1 0 N 1) (kD:aa fr 16= .i .i64 (il T0)) (j4:aa fr 17= .i .i64 D) (fk:aa fr 18= .isl .S B 1 0 N 1) (Bu:aa fr 19= .i .i64 (i:Int)) (h20:aa fr 20= .i .i64 0) (hB:aI O B=⟨1,.cells cb 0 true⟩) (hR:aI O P=⟨1,.cells (eV (H+1) fun _=>0) 0 false⟩) (hlen:P<O.length):
  Lp pE 134 om fr lh O (.ext 4) fun f l s=>l=lh∧s.length=O.length∧aI s P=⟨1,.cells (eV (H+1) fun h=>il (nl b C h)) 0 false⟩∧(∀k,k≠P→aI s k=aI O k)∧aa f 16= .i .i64 (il (T0+Sm (H+1) (nl b C))):=by
 refine cV Hl (fun k f l s=>aa f 20= .i .i64 (k:Int)∧l=lh∧s.length=O.length∧aI s P=⟨1,.cells (eV (H+1) fun h=>if h<k then il (nl b C h)else 0) 0 false⟩∧(∀k,k≠P→aI s k=aI O k)∧aa f 16= .i .i64 (il (T0+Sm k (nl b C)))) (H+1) ⟨h20,rfl,rfl,by rw[hR];rfl,fun _ _=>rfl,kD⟩ ?_ ?_
 ·rintro k f l s hk pr ⟨U,rfl,hl,hr,fI,zy⟩
  have V:(k:Int)≤(H:Int):=yv
  have hw:=aG (k:=k) yv
  have hPB: ¬B=P:=yv
  have I:aI s B=⟨1,.cells cb 0 true⟩:=(fI B hPB).trans hB
  obtain⟨u1,z1⟩:=hwz s fun j hj=>fI j yv
  have e1:=Eo k yv
  have He:i+1≤N:=hi
  have Zj:k+1≤H+1:=hk
  generalize hr0:(fun h=>if h<k then il (nl b C h)else 0)=r0 at hr
  have W:=vO (H+1) r0 hk
  have axF:r0 k=0:=by rw[←hr0];simp
  rw[axF]at W
  have hlr:=nY (H+1)
  have sw:=fun v=>JN (H+1) r0 k v hk
  have hd1: ∀fr ds br (u:List Nat),aa fr 88= .isl .S kw 1 0 N 1→aa fr 92=K→aa fr 93= .i .i64 D→aa fr 94= .i .i64 (k:Int)→SF ds=true→u.all (ni br)=true→aK pE (ae pE) 134 ((u,⟨some 95,.callf 66 [.t 88,.t 92,.t 93,.t 94],none⟩)::ds) br ⟨fr,l,s⟩=ke pE (ae pE) 134 ds (br++ [fO]) (ai pE (ae pE) 134 [⟨some 95,.callf 66 [.t 88,.t 92,.t 93,.t 94],none⟩] ⟨fr,l,s⟩):=by
   intro fr ds br u g1 g2 g3 g4 hu hq
   refine Gk Qj rfl rfl (q:=([wT,K,.i .i64 D,.i .i64 (k:Int)],u1)) ?_ e1 rfl hu hq
   simp(maxDischargeDepth:=6) only[qA,seval,g1,g2,g3,g4,z1,F]
  have axG: ∀(v:Int),v=il (nl b C k)→eV (H+1) (fun g=>if g=k then v else r0 g)=eV (H+1) fun g=>if g<k+1 then il (nl b C g)else 0:=by
   intro v hv
   refine BO fun g=> ?_
   rw[←hr0]
   by_cases e:g=k
   ·subst e;simp[hv]
   ·by_cases e2:g<k
    ·simp[e,e2,Nat.lt_succ_of_lt e2]
    ·have: ¬g<k+1:=yv
     simp[e,e2,this]
  have vL:Sm (k+1) (nl b C)=Sm k (nl b C)+nl b C k:=rfl
  have amm: ∀(v:Int),v=il (nl b C k)→(bI s P ⟨1,.cells (eV (H+1) fun g=>if g=k then v else r0 g) 0 false⟩).length=O.length∧ah.mk 1 (.cells (eV (H+1) fun g=>if g=k then v else r0 g) 0 false)=⟨1,.cells (eV (H+1) fun h=>if h<k+1 then il (nl b C h)else 0) 0 false⟩∧(∀(j:Nat),¬j=P→aI (bI s P ⟨1,.cells (eV (H+1) fun g=>if g=k then v else r0 g) 0 false⟩) j=aI O j)∧T.i .i64 (il (T0+Sm k (nl b C)+nl b C k))= .i .i64 (il (T0+(Sm k (nl b C)+nl b C k))):=fun v hv=>⟨by rw[jR _ _ _ yv];exact hl,by rw[axG v hv],fun j hj=>by rw[gse,if_neg hj];exact fI j hj,by rw[Nat.add_assoc]⟩
  by_cases yF:k=0
  ·subst yF
   have axH:(0:Int)≤(H:Int):=V
   have axI:aa f 20= .i .i64 0:=U
   have e10:ae pE 66 [wT,K,.i .i64 D,.i .i64 0] []=some (.i .i64 (il (C 0)),[]):=e1
   have uQ: ∀v,aI (bI s P ⟨1,.cells v 0 false⟩) P=⟨1,.cells v 0 false⟩:=fun v=>by rw[gse,if_pos rfl]
   have fG: ∀v,aI (bI s P ⟨1,.cells v 0 false⟩) B=⟨1,.cells cb 0 true⟩:=fun v=>by rw[gse,if_neg hPB];exact I
   have X:=fun v=>vO (H+1) (fun g=>if g=0 then v else r0 g) hk
   cases b
   ·have hv:(0:Int)=il (nl false C 0):=by simp[nl,tD,sf,J0]
    have wS:nl false C 0=0:=by simp[nl,tD,sf]
    simp(maxDischargeDepth:=6) only[qA,seval,gd,om,pr,h3,Z,fk,Bu,axI,zy,axH,iD,hi,Y,I,hr,hk,W]
    refine⟨hl, ?_,fI, ?_⟩
    ·rw[←axG _ hv]
     refine congrArg (fun c=>ah.mk 1 (.cells c 0 false)) (BO fun g=> ?_)
     by_cases e:g=0
     ·rw[if_pos e,e,axF]
     ·rw[if_neg e]
    ·rw[vL,wS,Int.add_zero,Zt];rfl
   ·have EV:wr .i64 (0+il (C 0))=il (nl true C 0):=by rw[Mx];simp[nl,tD,sf]
    have aEi: ∀fr ds br (u:List Nat),aa fr 88= .isl .S kw 1 0 N 1→aa fr 92=K→aa fr 93= .i .i64 D→aa fr 94= .i .i64 0→SF ds=true→u.all (ni br)=true→aK pE (ae pE) 134 ((u,⟨some 95,.callf 66 [.t 88,.t 92,.t 93,.t 94],none⟩)::ds) br ⟨fr,l,s⟩=ke pE (ae pE) 134 ds (br++ [fO]) (ai pE (ae pE) 134 [⟨some 95,.callf 66 [.t 88,.t 92,.t 93,.t 94],none⟩] ⟨fr,l,s⟩):=fun fr ds br u g1 g2 g3 g4=>hd1 fr ds br u g1 g2 g3 g4
    simp(maxDischargeDepth:=6) only[qA,bp,eJ,aH,seval,gd,om,pr,h3,Z,ig,kY,j4,fk,Bu,axI,zy,axH,iD,iw,hi,Y,I,hr,hk,Zj,W,hlr,sw,aEi,e10,z1,F,ajx,fG,uQ,X,qI,gb,CW,ni,EV,zE]
    exact amm _ rfl
  ·obtain⟨m,rfl⟩: ∃m,k=m+1:=⟨k-1,by omega⟩
   have Mk:(0:Int)<((m+1:Nat):Int):=yv
   have hwp:wr .i64 (((m+1:Nat):Int)-1)=(m:Int):=by rw[bj yv];omega
   have e2:=Eo m yv
   have fG: ∀v,aI (bI s P ⟨1,.cells v 0 false⟩) B=⟨1,.cells cb 0 true⟩:=fun v=>by rw[gse,if_neg hPB];exact I
   have uQ: ∀v,aI (bI s P ⟨1,.cells v 0 false⟩) P=⟨1,.cells v 0 false⟩:=fun v=>by rw[gse,if_pos rfl]
   cases b
   ·have wS:wr .i64 (0+il (C m))=il (nl false C (m+1)):=by rw[Mx];simp[nl,tD,sf]
    have hd2: ∀fr ds br (u:List Nat),aa fr 112= .isl .S kw 1 0 N 1→aa fr 116=K→aa fr 117= .i .i64 D→aa fr 119= .i .i64 (m:Int)→SF ds=true→u.all (ni br)=true→aK pE (ae pE) 134 ((u,⟨some 120,.callf 66 [.t 112,.t 116,.t 117,.t 119],none⟩)::ds) br ⟨fr,l,s⟩=ke pE (ae pE) 134 ds (br++ [fO]) (ai pE (ae pE) 134 [⟨some 120,.callf 66 [.t 112,.t 116,.t 117,.t 119],none⟩] ⟨fr,l,s⟩):=by
     intro fr ds br u g1 g2 g3 g4 hu hq
     refine Gk Qj rfl rfl (q:=([wT,K,.i .i64 D,.i .i64 (m:Int)],u1)) ?_ e2 rfl hu hq
     simp(maxDischargeDepth:=6) only[qA,seval,g1,g2,g3,g4,z1,F]
    have X:=fun v=>vO (H+1) (fun g=>if g=m+1 then v else r0 g) hk
    simp(maxDischargeDepth:=6) only[qA,bp,eJ,aH,seval,gd,om,pr,h3,Z,ig,kY,j4,fk,Bu,U,zy,V,hw,iD,iw,hi,Y,I,hr,hk,Zj,W,hlr,sw,hd2,Mk,hwp,e2,z1,F,ajx,fG,uQ,X,qI,gb,CW,ni,wS,zE,vL]
    exact amm _ rfl
   ·have EV:wr .i64 (0+il (C (m+1)))=il (C (m+1)):=Mx _
    have wS:il (C (m+1)+C m)=il (nl true C (m+1)):=by simp[nl,tD,sf]
    obtain⟨u2,z2⟩:=hwz (bI s P ⟨1,.cells (eV (H+1) fun g=>if g=m+1 then il (C (m+1))else r0 g) 0 false⟩) fun j hj=>by rw[gse,if_neg yv];exact fI j yv
    have hd2: ∀fr ds br (u:List Nat),aa fr 112= .isl .S kw 1 0 N 1→aa fr 116=K→aa fr 117= .i .i64 D→aa fr 119= .i .i64 (m:Int)→SF ds=true→u.all (ni br)=true→aK pE (ae pE) 134 ((u,⟨some 120,.callf 66 [.t 112,.t 116,.t 117,.t 119],none⟩)::ds) br ⟨fr,l,bI s P ⟨1,.cells (eV (H+1) fun g=>if g=m+1 then il (C (m+1))else r0 g) 0 false⟩⟩=ke pE (ae pE) 134 ds (br++ [fO]) (ai pE (ae pE) 134 [⟨some 120,.callf 66 [.t 112,.t 116,.t 117,.t 119],none⟩] ⟨fr,l,bI s P ⟨1,.cells (eV (H+1) fun g=>if g=m+1 then il (C (m+1))else r0 g) 0 false⟩⟩):=by
     intro fr ds br u g1 g2 g3 g4 hu hq
     refine Gk Qj rfl rfl (q:=([wT,K,.i .i64 D,.i .i64 (m:Int)],u2)) ?_ e2 rfl hu hq
     simp(maxDischargeDepth:=6) only[qA,seval,g1,g2,g3,g4,z2,F]
    have X:=fun v=>vO (H+1) (fun g=>if g=m+1 then v else r0 g) hk
    have GX:=fun v1 v2=>JN (H+1) (fun g=>if g=m+1 then v1 else r0 g) (m+1) v2 hk
    have hmg: ∀(v1 v2:Int),(fun g=>if g=m+1 then v2 else if g=m+1 then v1 else r0 g)=fun g=>if g=m+1 then v2 else r0 g:=fun v1 v2=>funext fun g=>by by_cases e:g=m+1 <;> simp[e]
    simp(maxDischargeDepth:=6) only[qA,bp,eJ,aH,seval,gd,om,pr,h3,Z,ig,kY,j4,fk,Bu,U,zy,V,hw,iD,iw,hi,Y,I,hr,hk,Zj,W,hlr,sw,hd1,hd2,Mk,hwp,e1,e2,z1,z2,F,ajx,fG,uQ,X,GX,qI,gb,CW,ni,EV,wS,zE,vL,cM,hmg]
    exact amm _ rfl
 ·rintro f _ s pr ⟨U,rfl,hl,hr,fI,zy⟩
  have V: ¬((H+1:Nat):Int)≤(H:Int):=yv
  have e:eV (H+1) (fun h=>if h<H+1 then il (nl b C h)else 0)=eV (H+1) fun h=>il (nl b C h):=by
   unfold eV
   refine List.map_congr_left fun g hg=> ?_
   dsimp only
   rw[if_pos (List.mem_range.1 hg)]
  rw[e]at hr
  simp only[qA,seval,gd,om,pr,h3,U,V]
  exact⟨hl,hr,fI,zy⟩
end Go.Proofs.YtnkgnjecmfkcfaaGreat
