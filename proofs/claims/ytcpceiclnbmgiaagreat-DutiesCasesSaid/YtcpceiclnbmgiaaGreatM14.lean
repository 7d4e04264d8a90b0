/- Walks of functions of the program and of the reference, and their plain laws, part 14. Conditions: the theorems' own. -/
import Derived.Test.YtcpceiclnbmgiaaGreatGS
import Derived.Test.YtcpceiclnbmgiaaGreatM13
import Derived.KernelRfl
set_option maxRecDepth 100000
set_option linter.unusedSimpArgs false
set_option linter.unusedVariables false
set_option maxHeartbeats 16000000
namespace Go.Proofs.YtcpceiclnbmgiaaGreat
open Go Go.Ev
theorem YD{n:Nat}(h:n≤1000):(n+1)*56≤roomy:=by unfold roomy;omega
theorem amD:56≤roomy:=by unfold roomy;omega
def gw(r D F H I J cr K:T):List T:= [.nilsl,r,D,F,.nilsl,H,I,J,cr,K]
def iW(r D F H I J cr:T)(K N O U V W X:RL):List (Nat×T×RL):= [(4,r,K),(4,D,N),(4,F,O),(3,H,U),(3,I,V),(3,J,W),(3,cr,X)]
def vz(c:Ct)(j:Int)(k:Nat):RL:=((c.ru.take k).filter fun u=>u.sc==j).map fun u=>(u.nm,comp (gf c.cs) u.sc u.x)
def tF(c:Ct)(j:Int)(k:Nat):RL:=((c.co.take k).filter fun u=>u.sc==j).map fun u=>([],comp (gf c.cs) u.sc u.x)
def RJ(c:Ct)(k:Nat):RL:=(c.cr.take k).map fun u=>([],comp (gf c.cs) 1 u)
theorem B4(c:Ct)(j:Int){k:Nat}(hk:k<c.ru.length):vz c j (k+1)=if c.ru[k].sc=j then vz c j k++ [(c.ru[k].nm,comp (gf c.cs) c.ru[k].sc c.ru[k].x)]else vz c j k:=by
 grind [vz,List.take_succ_eq_append_getElem]
theorem vD(c:Ct)(j:Int){k:Nat}(hk:k<c.co.length):tF c j (k+1)=if c.co[k].sc=j then tF c j k++ [([],comp (gf c.cs) c.co[k].sc c.co[k].x)]else tF c j k:=by
 grind [tF,List.take_succ_eq_append_getElem]
theorem YE(c:Ct){k:Nat}(hk:k<c.cr.length):RJ c (k+1)=RJ c k++ [([],comp (gf c.cs) 1 c.cr[k])]:=by
 grind [RJ,List.take_succ_eq_append_getElem]
theorem aFT:eW [] 0 (iW .nilsl .nilsl .nilsl .nilsl .nilsl .nilsl .nilsl [] [] [] [] [] [] []):=by
 have r: ∀p∈iW .nilsl .nilsl .nilsl .nilsl .nilsl .nilsl .nilsl [] [] [] [] [] [] [],p.2=(.nilsl,[]):=by
  simp_all[iW,List.mem_cons,List.not_mem_nil]
 exact⟨fun p D=> .inl (by rw[r p D];exact⟨rfl,rfl⟩),fun i j hi F _=> .inl (by rw[r _ (List.getElem_mem hi)];rfl)⟩
def Jt(l:Cs)(r:Int)(x:Ex):Prop:=(r=1∨r=2∨r=3)∧bW x=0∧ ∃k,x.ty (Gq l) r=(k,0)
theorem nwr(c:Ct)(N a8:T)(c7 c8:List T)(i7:IsSl N c.cs.length c7)(j7:dx c.cs c7)(i8:IsSl a8 c.ru.length c8)(j8:aA Ri c.ru c8)(hlen:c.ru.length≤40)(mg: ∀u∈c.ru,Jt c.cs u.sc u.x)(zT aT fT a9 Z aw av nb:T)(c2 c3 uc:ah)(B5:List (Nat×Int))(xg:jK c.cs B5)(fr:Fr)(lh:aB ah)(sh:List ah)(fU:sh=eV N (bM c.cs c.cs.length) B5 [])
  (I:aa fr 8= .ptr .L 37 1 0) (J:aa fr 14= .ptr .S 2 1 0) (Ju:aa fr 73=a8) (HH:aa fr 74= .i .i64 (c.ru.length:Int)) (S0:aa fr 75= .i .i64 0) (V:ab lh 2=c2) (W:ab lh 3=c3) (X:ab lh 35=uc) (K:ab lh 37=⟨1,.cells (fY zT aT fT c N a8 a9 Z aw av (gw .nilsl .nilsl .nilsl .nilsl .nilsl .nilsl .nilsl nb)) 0 true⟩):
  mI 232 gz fr lh sh (.ext 4)∧
  (ab (iy pE 232 gz fr lh sh) 2=c2∧ab (iy pE 232 gz fr lh sh) 3=c3∧ab (iy pE 232 gz fr lh sh) 35=uc∧ ∃(R:List ah) (kn:List (Nat×Int)) (D F H:T),iF pE 232 gz fr lh sh=eV N (bM c.cs c.cs.length) kn R∧jK c.cs kn∧eW R 40 (iW D F H .nilsl .nilsl .nilsl .nilsl (vz c 1 c.ru.length) (vz c 2 c.ru.length) (vz c 3 c.ru.length) [] [] [] [])∧ab (iy pE 232 gz fr lh sh) 37=⟨1,.cells (fY zT aT fT c N a8 a9 Z aw av (gw D F H .nilsl .nilsl .nilsl .nilsl nb)) 0 true⟩):=by
 refine bF (P:=fun bE aZ aY=>ab aZ 2=c2∧ab aZ 3=c3∧ab aZ 35=uc∧ ∃(R:List ah) (kn:List (Nat×Int)) (D F H:T),aY=eV N (bM c.cs c.cs.length) kn R∧jK c.cs kn∧eW R 40 (iW D F H .nilsl .nilsl .nilsl .nilsl (vz c 1 c.ru.length) (vz c 2 c.ru.length) (vz c 3 c.ru.length) [] [] [] [])∧ab aZ 37=⟨1,.cells (fY zT aT fT c N a8 a9 Z aw av (gw D F H .nilsl .nilsl .nilsl .nilsl nb)) 0 true⟩)
  (cu (fun k st=> ∃(fr:Fr) (eA:aB ah) (R:List ah) (kn:List (Nat×Int)) (D F H:T),st=⟨fr,eA,eV N (bM c.cs c.cs.length) kn R⟩∧jK c.cs kn∧eW R k (iW D F H .nilsl .nilsl .nilsl .nilsl (vz c 1 k) (vz c 2 k) (vz c 3 k) [] [] [] [])∧aa fr 8= .ptr .L 37 1 0∧aa fr 14= .ptr .S 2 1 0∧aa fr 73=a8∧aa fr 74= .i .i64 (c.ru.length:Int)∧aa fr 75= .i .i64 (k:Int)∧ab eA 2=c2∧ab eA 3=c3∧ab eA 35=uc∧ab eA 37=⟨1,.cells (fY zT aT fT c N a8 a9 Z aw av (gw D F H .nilsl .nilsl .nilsl .nilsl nb)) 0 true⟩) _ c.ru.length ?_ ?_ 0 _ (Nat.zero_le _) ⟨fr,lh,[],B5,.nilsl,.nilsl,.nilsl,by rw[fU],xg,aFT,I,J,Ju,HH,S0,V,W,X,K⟩)
 ·rintro k _ hk ⟨fr,eA,R,kn,D,F,H,rfl,jN,O,I,J,Ju,HH,S0,V,W,X,K⟩
  left
  have aN:(k:Int)<c.ru.length:=zO
  have hw:=aI (k:=k) zO
  obtain⟨b,cb,rr,aQ,fD,hb⟩:=ym i8 j8 k hk
  obtain⟨fK,hval,t,qk⟩:=mg c.ru[k] (List.getElem_mem hk)
  have B6:=(jf hval).1
  obtain⟨cf,cP,aC,wN,jJ,_⟩:=Gr c.cs N R c.cs.length (Nat.le_refl _) (Gs c.cs N R c7 i7 j7) c.ru[k].sc (.inr fK) c.ru[k].x t kn _ jN hb B6 (iX hval) (by rw[xh];exact qk)
  have kl:=zR (gf c.cs) c.ru[k].sc c.ru[k].x
  have Y:=B4 c 1 hk
  have s2:=B4 c 2 hk
  have s3:=B4 c 3 hk
  generalize c.ru[k]=u at*
  generalize comp (gf c.cs) u.sc u.x=y at*
  obtain⟨r,fc,rfl,vd,XK⟩:=wN.cells
  have Hw:RlR (u.nm,y) [.s u.nm,.i .i64 y.op,.i .i64 y.num,r]:=⟨_,rfl,wN⟩
  have vE:we 4 [(u.nm,y)] [.s u.nm,.i .i64 y.op,.i .i64 y.num,r]:=by
   have:=(we.nil 4).app4 (u.nm,y) _ Hw (by show y.sz≤1000;omega)
   grind
  have zS:=amD
  have aKM:k≤40:=zO
  unfold fY aR gw at K ⊢
  simp only[List.cons_append,List.nil_append]at K ⊢
  rcases fK with fK|fK|fK <;> rw[fK]at aQ aC
  ·have U:=O.1 (4,D,vz c 1 k) (by simp[iW])
   rw[if_pos fK]at Y
   rw[if_neg (by rw[fK];decide)]at s2 s3
   rcases U with⟨gq,xS⟩|⟨i,g,n,cs,hv,hE,hi,hn,hB,hfz⟩
   ·simp only at gq xS
    subst gq
    rw[xS,List.nil_append]at Y
    have sF:=(O.mono (Nat.le_succ k)).new zO 0 (by simp[iW]) (sz:=4) rfl [.s u.nm,.i .i64 y.op,.i .i64 y.num,r] rfl _ vE
    simp only[qA,seval,eJ,repl,bp,aJ,gv,dL,gz,I,J,Ju,HH,S0,K,aN,aQ,hw,aC,mG,nG,fD.kept1,vd.froz1,cF,dk,aP,cw,cp,cX,oy,Ej,zS]
    refine⟨_,rfl,_,_,aK R R.length ⟨1,.cells [.s u.nm,.i .i64 y.op,.i .i64 y.num,r] 0 false⟩,cP,.isl .S (R.length+7) 1 0 1 4,F,H,rfl,jJ,(by rw[Y,s2,s3];exact sF), ?_, ?_, ?_, ?_, ?_, ?_, ?_, ?_, ?_⟩
    all_goals (simp only[qA,seval,I,J,Ju,HH,V,W,X])
   ·simp only at hv
    subst hv
    have pH:=O.app 0 (by simp[iW]) (sz:=4) rfl rfl hE hi hn hB [.s u.nm,.i .i64 y.op,.i .i64 y.num,r] rfl _ (hfz.app4 (u.nm,y) [.s u.nm,.i .i64 y.op,.i .i64 y.num,r] Hw (by show y.sz≤1000;omega)) (g+1)
    have sG:(n+1)*56≤roomy:=YD zO
    simp only[qA,seval,eJ,repl,bp,aJ,gv,dL,gz,I,J,Ju,HH,S0,K,aN,aQ,hw,aC,mG,nG,fD.kept1,vd.froz1,cF,dk,aP,cW,cp,dR,bZ,Ei,oy,Ej,hE,hn,sG]
    refine⟨_,rfl,_,_,aK R i ⟨g+1,.cells (cs++ [.s u.nm,.i .i64 y.op,.i .i64 y.num,r]) 0 false⟩,cP,.isl .S (i+7) (g+1) 0 (n+1) 4,F,H,rfl,jJ,(by rw[Y,s2,s3];exact pH), ?_, ?_, ?_, ?_, ?_, ?_, ?_, ?_, ?_⟩
    all_goals (simp only[qA,seval,I,J,Ju,HH,V,W,X])
  ·have U:=O.1 (4,F,vz c 2 k) (by simp[iW])
   rw[if_pos fK]at s2
   rw[if_neg (by rw[fK];decide)]at Y s3
   rcases U with⟨gq,xS⟩|⟨i,g,n,cs,hv,hE,hi,hn,hB,hfz⟩
   ·simp only at gq xS
    subst gq
    rw[xS,List.nil_append]at s2
    have sF:=(O.mono (Nat.le_succ k)).new zO 1 (by simp[iW]) (sz:=4) rfl [.s u.nm,.i .i64 y.op,.i .i64 y.num,r] rfl _ vE
    simp only[qA,seval,eJ,repl,bp,aJ,gv,dL,gz,I,J,Ju,HH,S0,K,aN,aQ,hw,aC,mG,nG,fD.kept1,vd.froz1,cF,dk,aP,cw,cp,cX,oy,Ej,zS]
    refine⟨_,rfl,_,_,aK R R.length ⟨1,.cells [.s u.nm,.i .i64 y.op,.i .i64 y.num,r] 0 false⟩,cP,D,.isl .S (R.length+7) 1 0 1 4,H,rfl,jJ,(by rw[Y,s2,s3];exact sF), ?_, ?_, ?_, ?_, ?_, ?_, ?_, ?_, ?_⟩
    all_goals (simp only[qA,seval,I,J,Ju,HH,V,W,X])
   ·simp only at hv
    subst hv
    have pH:=O.app 1 (by simp[iW]) (sz:=4) rfl rfl hE hi hn hB [.s u.nm,.i .i64 y.op,.i .i64 y.num,r] rfl _ (hfz.app4 (u.nm,y) [.s u.nm,.i .i64 y.op,.i .i64 y.num,r] Hw (by show y.sz≤1000;omega)) (g+1)
    have sG:(n+1)*56≤roomy:=YD zO
    simp only[qA,seval,eJ,repl,bp,aJ,gv,dL,gz,I,J,Ju,HH,S0,K,aN,aQ,hw,aC,mG,nG,fD.kept1,vd.froz1,cF,dk,aP,cW,cp,dR,bZ,Ei,oy,Ej,hE,hn,sG]
    refine⟨_,rfl,_,_,aK R i ⟨g+1,.cells (cs++ [.s u.nm,.i .i64 y.op,.i .i64 y.num,r]) 0 false⟩,cP,D,.isl .S (i+7) (g+1) 0 (n+1) 4,H,rfl,jJ,(by rw[Y,s2,s3];exact pH), ?_, ?_, ?_, ?_, ?_, ?_, ?_, ?_, ?_⟩
    all_goals (simp only[qA,seval,I,J,Ju,HH,V,W,X])
  ·have U:=O.1 (4,H,vz c 3 k) (by simp[iW])
   rw[if_pos fK]at s3
   rw[if_neg (by rw[fK];decide)]at Y s2
   rcases U with⟨gq,xS⟩|⟨i,g,n,cs,hv,hE,hi,hn,hB,hfz⟩
   ·simp only at gq xS
    subst gq
    rw[xS,List.nil_append]at s3
    have sF:=(O.mono (Nat.le_succ k)).new zO 2 (by simp[iW]) (sz:=4) rfl [.s u.nm,.i .i64 y.op,.i .i64 y.num,r] rfl _ vE
    simp only[qA,seval,eJ,repl,bp,aJ,gv,dL,gz,I,J,Ju,HH,S0,K,aN,aQ,hw,aC,mG,nG,fD.kept1,vd.froz1,cF,dk,aP,cw,cp,cX,oy,Ej,zS]
    refine⟨_,rfl,_,_,aK R R.length ⟨1,.cells [.s u.nm,.i .i64 y.op,.i .i64 y.num,r] 0 false⟩,cP,D,F,.isl .S (R.length+7) 1 0 1 4,rfl,jJ,(by rw[Y,s2,s3];exact sF), ?_, ?_, ?_, ?_, ?_, ?_, ?_, ?_, ?_⟩
    all_goals (simp only[qA,seval,I,J,Ju,HH,V,W,X])
   ·simp only at hv
    subst hv
    have pH:=O.app 2 (by simp[iW]) (sz:=4) rfl rfl hE hi hn hB [.s u.nm,.i .i64 y.op,.i .i64 y.num,r] rfl _ (hfz.app4 (u.nm,y) [.s u.nm,.i .i64 y.op,.i .i64 y.num,r] Hw (by show y.sz≤1000;omega)) (g+1)
    have sG:(n+1)*56≤roomy:=YD zO
    simp only[qA,seval,eJ,repl,bp,aJ,gv,dL,gz,I,J,Ju,HH,S0,K,aN,aQ,hw,aC,mG,nG,fD.kept1,vd.froz1,cF,dk,aP,cW,cp,dR,bZ,Ei,oy,Ej,hE,hn,sG]
    refine⟨_,rfl,_,_,aK R i ⟨g+1,.cells (cs++ [.s u.nm,.i .i64 y.op,.i .i64 y.num,r]) 0 false⟩,cP,D,F,.isl .S (i+7) (g+1) 0 (n+1) 4,rfl,jJ,(by rw[Y,s2,s3];exact pH), ?_, ?_, ?_, ?_, ?_, ?_, ?_, ?_, ?_⟩
    all_goals (simp only[qA,seval,I,J,Ju,HH,V,W,X])
 ·rintro _ ⟨fr,eA,R,kn,D,F,H,rfl,jN,O,I,J,Ju,HH,S0,V,W,X,K⟩
  simp only[qA,seval,gz,HH,S0,Int.lt_irrefl]
  exact⟨_,_,k9,rfl,rfl,V,W,X,R,kn,D,F,H,rfl,jN,O.mono zO,K⟩
theorem Gt:40≤roomy:=by unfold roomy;omega
theorem zU{n:Nat}(h:n≤1000):(n+1)*40≤roomy:=by unfold roomy;omega
theorem pI{a b c x y z:T}:splice [a,b,c] 0 [x,y,z]= [x,y,z]:=rfl
theorem ij{a b c x y z:T}: ∀(cs:List T),splice (cs++ [a,b,c]) cs.length [x,y,z]=cs++ [x,y,z]
 | []=>rfl
 |u::cs=>by rw[List.cons_append,List.cons_append,List.length_cons,splice,ij cs]
theorem pJ{cs:List T}{a b c:T}:(cs++ [a,b,c]).length=cs.length+3:=xv
theorem ayr(c:Ct)(r U V D W X Y Z fT nb r1 r2 r3 c2 c3:T)(m:List (List Nat×Nat))(kn cP:List (Nat×Int))(R:List ah)(x:Ex)(b:T)(y:Fm)(H:T)(tG:Nat)(fr:Fr)(lh:aB ah)
  (S1:froz1 b=true) (zV:kept1 b=true) (F:froz1 H=true) (Bt:kept1 H=true)
  (aC:ae pE 52 [.ptr .S 2 1 0,.i .i64 1,.agg [.i .i64 x.op,.i .i64 x.num,.s x.name,b]] (eV r m kn R)=some (.agg [.i .i64 y.op,.i .i64 y.num,H],eV r m cP R))
  (h8:aa fr 8= .ptr .L 37 1 0) (cH:aa fr 14= .ptr .S 2 1 0) (fq:aa fr 18= .ptr .L 18 tG 0) (zW:ab lh 18=⟨tG,.cells [.i .i64 1,.i .i64 x.op,.i .i64 x.num,.s x.name,b] 0 true⟩) (I:ab lh 37=⟨1,.cells (fY Y Z fT c r U V D W X (gw r1 r2 r3 (.nilsl) c2 c3 .nilsl nb)) 0 true⟩) (J:ak) (K:J=nl bL∨J=nn bL):
  ∃f1 N,DC pE 232 J ⟨fr,lh,eV r m kn R⟩=some (.nrm,⟨f1,N,eV r m cP (aK R R.length ⟨1,.cells [.i .i64 y.op,.i .i64 y.num,H] 0 false⟩)⟩)∧(∀k,(jh bL).contains k=false→k≠37→ab N k=ab lh k)∧ab N 37=⟨1,.cells (fY Y Z fT c r U V D W X (gw r1 r2 r3 (.isl .S (R.length+7) 1 0 1 3) c2 c3 .nilsl nb)) 0 true⟩:=by
 have zS:=Gt
 unfold fY aR gw at I ⊢
 simp only[List.cons_append,List.nil_append]at I ⊢
 rcases K with rfl|rfl
 ·
  simp only[qA,seval,eJ,repl,bp,aJ,gv,eh,dL,bL,nl,h8,cH,fq,zW,I,aC,mG,nG,zV,F,cF,dk,aP,cw,cp,cX,Ei,oy,Ej,zS,cM,cY,pI,Nat.lt_succ_self]
  refine⟨_,_,rfl, ?_, ?_⟩
  ·intro k hk B7
   have O:k≠111:=by rintro rfl;exact absurd hk yv
   repeat (first|rw[bK _ _ B7]|rw[bK _ _ O])
  ·simp only[qA,seval]
 ·
  simp only[qA,seval,eJ,repl,bp,aJ,gv,eh,dL,bL,nn,h8,cH,fq,zW,I,aC,mG,nG,zV,F,cF,dk,aP,cw,cp,cX,Ei,oy,Ej,zS,cM,cY,pI,Nat.lt_succ_self]
  refine⟨_,_,rfl, ?_, ?_⟩
  ·intro k hk B7
   have O:k≠111:=by rintro rfl;exact absurd hk yv
   repeat (first|rw[bK _ _ B7]|rw[bK _ _ O])
  ·simp only[qA,seval]
theorem ays(c:Ct)(r U V D W X Y Z fT nb r1 r2 r3 c2 c3:T)(m:List (List Nat×Nat))(kn cP:List (Nat×Int))(R:List ah)(x:Ex)(b:T)(y:Fm)(H:T)(tG:Nat)(i g n:Nat)(cs:List T)(hE:aE R i=⟨g,.cells cs 0 false⟩)(hn:n*3=cs.length)(De:n≤1000)(fr:Fr)(lh:aB ah)
  (S1:froz1 b=true) (zV:kept1 b=true) (F:froz1 H=true) (Bt:kept1 H=true)
  (aC:ae pE 52 [.ptr .S 2 1 0,.i .i64 1,.agg [.i .i64 x.op,.i .i64 x.num,.s x.name,b]] (eV r m kn R)=some (.agg [.i .i64 y.op,.i .i64 y.num,H],eV r m cP R))
  (h8:aa fr 8= .ptr .L 37 1 0) (cH:aa fr 14= .ptr .S 2 1 0) (fq:aa fr 18= .ptr .L 18 tG 0) (zW:ab lh 18=⟨tG,.cells [.i .i64 1,.i .i64 x.op,.i .i64 x.num,.s x.name,b] 0 true⟩) (I:ab lh 37=⟨1,.cells (fY Y Z fT c r U V D W X (gw r1 r2 r3 (.isl .S (i+7) g 0 n 3) c2 c3 .nilsl nb)) 0 true⟩) (J:ak) (K:J=nl bL∨J=nn bL):
  ∃f1 N,DC pE 232 J ⟨fr,lh,eV r m kn R⟩=some (.nrm,⟨f1,N,eV r m cP (aK R i ⟨g+1,.cells (cs++ [.i .i64 y.op,.i .i64 y.num,H]) 0 false⟩)⟩)∧(∀k,(jh bL).contains k=false→k≠37→ab N k=ab lh k)∧ab N 37=⟨1,.cells (fY Y Z fT c r U V D W X (gw r1 r2 r3 (.isl .S (i+7) (g+1) 0 (n+1) 3) c2 c3 .nilsl nb)) 0 true⟩:=by
 have sG:(n+1)*40≤roomy:=zU De
 unfold fY aR gw at I ⊢
 simp only[List.cons_append,List.nil_append]at I ⊢
 rcases K with rfl|rfl
 ·
  simp only[qA,seval,eJ,repl,bp,aJ,gv,eh,dL,bL,nl,h8,cH,fq,zW,I,aC,mG,nG,zV,F,cF,dk,aP,cW,cp,dR,bZ,Ei,oy,Ej,cM,cY,ij,pJ,Nat.lt_succ_self,hE,hn,sG]
  refine⟨_,_,rfl, ?_, ?_⟩
  ·intro k hk B7
   have O:k≠111:=by rintro rfl;exact absurd hk yv
   repeat (first|rw[bK _ _ B7]|rw[bK _ _ O])
  ·simp only[qA,seval]
 ·
  simp only[qA,seval,eJ,repl,bp,aJ,gv,eh,dL,bL,nn,h8,cH,fq,zW,I,aC,mG,nG,zV,F,cF,dk,aP,cW,cp,dR,bZ,Ei,oy,Ej,cM,cY,ij,pJ,Nat.lt_succ_self,hE,hn,sG]
  refine⟨_,_,rfl, ?_, ?_⟩
  ·intro k hk B7
   have O:k≠111:=by rintro rfl;exact absurd hk yv
   repeat (first|rw[bK _ _ B7]|rw[bK _ _ O])
  ·simp only[qA,seval]
theorem ayt(c:Ct)(r U V D W X Y Z fT nb r1 r2 r3 c1 c3:T)(m:List (List Nat×Nat))(kn cP:List (Nat×Int))(R:List ah)(x:Ex)(b:T)(y:Fm)(H:T)(tG:Nat)(fr:Fr)(lh:aB ah)
  (S1:froz1 b=true) (zV:kept1 b=true) (F:froz1 H=true) (Bt:kept1 H=true)
  (aC:ae pE 52 [.ptr .S 2 1 0,.i .i64 2,.agg [.i .i64 x.op,.i .i64 x.num,.s x.name,b]] (eV r m kn R)=some (.agg [.i .i64 y.op,.i .i64 y.num,H],eV r m cP R))
  (h8:aa fr 8= .ptr .L 37 1 0) (cH:aa fr 14= .ptr .S 2 1 0) (fq:aa fr 18= .ptr .L 18 tG 0) (zW:ab lh 18=⟨tG,.cells [.i .i64 2,.i .i64 x.op,.i .i64 x.num,.s x.name,b] 0 true⟩) (I:ab lh 37=⟨1,.cells (fY Y Z fT c r U V D W X (gw r1 r2 r3 c1 (.nilsl) c3 .nilsl nb)) 0 true⟩) (J:ak) (K:J=nl bL∨J=nn bL):
  ∃f1 N,DC pE 232 J ⟨fr,lh,eV r m kn R⟩=some (.nrm,⟨f1,N,eV r m cP (aK R R.length ⟨1,.cells [.i .i64 y.op,.i .i64 y.num,H] 0 false⟩)⟩)∧(∀k,(jh bL).contains k=false→k≠37→ab N k=ab lh k)∧ab N 37=⟨1,.cells (fY Y Z fT c r U V D W X (gw r1 r2 r3 c1 (.isl .S (R.length+7) 1 0 1 3) c3 .nilsl nb)) 0 true⟩:=by
 have zS:=Gt
 unfold fY aR gw at I ⊢
 simp only[List.cons_append,List.nil_append]at I ⊢
 rcases K with rfl|rfl
 ·
  simp only[qA,seval,eJ,repl,bp,aJ,gv,eh,dL,bL,nl,h8,cH,fq,zW,I,aC,mG,nG,zV,F,cF,dk,aP,cw,cp,cX,Ei,oy,Ej,zS,cM,cY,pI,Nat.lt_succ_self]
  refine⟨_,_,rfl, ?_, ?_⟩
  ·intro k hk B7
   have O:k≠111:=by rintro rfl;exact absurd hk yv
   repeat (first|rw[bK _ _ B7]|rw[bK _ _ O])
  ·simp only[qA,seval]
 ·
  simp only[qA,seval,eJ,repl,bp,aJ,gv,eh,dL,bL,nn,h8,cH,fq,zW,I,aC,mG,nG,zV,F,cF,dk,aP,cw,cp,cX,Ei,oy,Ej,zS,cM,cY,pI,Nat.lt_succ_self]
  refine⟨_,_,rfl, ?_, ?_⟩
  ·intro k hk B7
   have O:k≠111:=by rintro rfl;exact absurd hk yv
   repeat (first|rw[bK _ _ B7]|rw[bK _ _ O])
  ·simp only[qA,seval]
theorem ayu(c:Ct)(r U V D W X Y Z fT nb r1 r2 r3 c1 c3:T)(m:List (List Nat×Nat))(kn cP:List (Nat×Int))(R:List ah)(x:Ex)(b:T)(y:Fm)(H:T)(tG:Nat)(i g n:Nat)(cs:List T)(hE:aE R i=⟨g,.cells cs 0 false⟩)(hn:n*3=cs.length)(De:n≤1000)(fr:Fr)(lh:aB ah)
  (S1:froz1 b=true) (zV:kept1 b=true) (F:froz1 H=true) (Bt:kept1 H=true)
  (aC:ae pE 52 [.ptr .S 2 1 0,.i .i64 2,.agg [.i .i64 x.op,.i .i64 x.num,.s x.name,b]] (eV r m kn R)=some (.agg [.i .i64 y.op,.i .i64 y.num,H],eV r m cP R))
  (h8:aa fr 8= .ptr .L 37 1 0) (cH:aa fr 14= .ptr .S 2 1 0) (fq:aa fr 18= .ptr .L 18 tG 0) (zW:ab lh 18=⟨tG,.cells [.i .i64 2,.i .i64 x.op,.i .i64 x.num,.s x.name,b] 0 true⟩) (I:ab lh 37=⟨1,.cells (fY Y Z fT c r U V D W X (gw r1 r2 r3 c1 (.isl .S (i+7) g 0 n 3) c3 .nilsl nb)) 0 true⟩) (J:ak) (K:J=nl bL∨J=nn bL):
  ∃f1 N,DC pE 232 J ⟨fr,lh,eV r m kn R⟩=some (.nrm,⟨f1,N,eV r m cP (aK R i ⟨g+1,.cells (cs++ [.i .i64 y.op,.i .i64 y.num,H]) 0 false⟩)⟩)∧(∀k,(jh bL).contains k=false→k≠37→ab N k=ab lh k)∧ab N 37=⟨1,.cells (fY Y Z fT c r U V D W X (gw r1 r2 r3 c1 (.isl .S (i+7) (g+1) 0 (n+1) 3) c3 .nilsl nb)) 0 true⟩:=by
 have sG:(n+1)*40≤roomy:=zU De
 unfold fY aR gw at I ⊢
 simp only[List.cons_append,List.nil_append]at I ⊢
 rcases K with rfl|rfl
 ·
  simp only[qA,seval,eJ,repl,bp,aJ,gv,eh,dL,bL,nl,h8,cH,fq,zW,I,aC,mG,nG,zV,F,cF,dk,aP,cW,cp,dR,bZ,Ei,oy,Ej,cM,cY,ij,pJ,Nat.lt_succ_self,hE,hn,sG]
  refine⟨_,_,rfl, ?_, ?_⟩
  ·intro k hk B7
   have O:k≠111:=by rintro rfl;exact absurd hk yv
   repeat (first|rw[bK _ _ B7]|rw[bK _ _ O])
  ·simp only[qA,seval]
 ·
  simp only[qA,seval,eJ,repl,bp,aJ,gv,eh,dL,bL,nn,h8,cH,fq,zW,I,aC,mG,nG,zV,F,cF,dk,aP,cW,cp,dR,bZ,Ei,oy,Ej,cM,cY,ij,pJ,Nat.lt_succ_self,hE,hn,sG]
  refine⟨_,_,rfl, ?_, ?_⟩
  ·intro k hk B7
   have O:k≠111:=by rintro rfl;exact absurd hk yv
   repeat (first|rw[bK _ _ B7]|rw[bK _ _ O])
  ·simp only[qA,seval]
theorem ayv(c:Ct)(r U V D W X Y Z fT nb r1 r2 r3 c1 c2:T)(m:List (List Nat×Nat))(kn cP:List (Nat×Int))(R:List ah)(x:Ex)(b:T)(y:Fm)(H:T)(tG:Nat)(fr:Fr)(lh:aB ah)
  (S1:froz1 b=true) (zV:kept1 b=true) (F:froz1 H=true) (Bt:kept1 H=true)
  (aC:ae pE 52 [.ptr .S 2 1 0,.i .i64 3,.agg [.i .i64 x.op,.i .i64 x.num,.s x.name,b]] (eV r m kn R)=some (.agg [.i .i64 y.op,.i .i64 y.num,H],eV r m cP R))
  (h8:aa fr 8= .ptr .L 37 1 0) (cH:aa fr 14= .ptr .S 2 1 0) (fq:aa fr 18= .ptr .L 18 tG 0) (zW:ab lh 18=⟨tG,.cells [.i .i64 3,.i .i64 x.op,.i .i64 x.num,.s x.name,b] 0 true⟩) (I:ab lh 37=⟨1,.cells (fY Y Z fT c r U V D W X (gw r1 r2 r3 c1 c2 (.nilsl) .nilsl nb)) 0 true⟩) (J:ak) (K:J=nl bL∨J=nn bL):
  ∃f1 N,DC pE 232 J ⟨fr,lh,eV r m kn R⟩=some (.nrm,⟨f1,N,eV r m cP (aK R R.length ⟨1,.cells [.i .i64 y.op,.i .i64 y.num,H] 0 false⟩)⟩)∧(∀k,(jh bL).contains k=false→k≠37→ab N k=ab lh k)∧ab N 37=⟨1,.cells (fY Y Z fT c r U V D W X (gw r1 r2 r3 c1 c2 (.isl .S (R.length+7) 1 0 1 3) .nilsl nb)) 0 true⟩:=by
 have zS:=Gt
 unfold fY aR gw at I ⊢
 simp only[List.cons_append,List.nil_append]at I ⊢
 rcases K with rfl|rfl
 ·
  simp only[qA,seval,eJ,repl,bp,aJ,gv,eh,dL,bL,nl,h8,cH,fq,zW,I,aC,mG,nG,zV,F,cF,dk,aP,cw,cp,cX,Ei,oy,Ej,zS,cM,cY,pI,Nat.lt_succ_self]
  refine⟨_,_,rfl, ?_, ?_⟩
  ·intro k hk B7
   have O:k≠111:=by rintro rfl;exact absurd hk yv
   repeat (first|rw[bK _ _ B7]|rw[bK _ _ O])
  ·simp only[qA,seval]
 ·
  simp only[qA,seval,eJ,repl,bp,aJ,gv,eh,dL,bL,nn,h8,cH,fq,zW,I,aC,mG,nG,zV,F,cF,dk,aP,cw,cp,cX,Ei,oy,Ej,zS,cM,cY,pI,Nat.lt_succ_self]
  refine⟨_,_,rfl, ?_, ?_⟩
  ·intro k hk B7
   have O:k≠111:=by rintro rfl;exact absurd hk yv
   repeat (first|rw[bK _ _ B7]|rw[bK _ _ O])
  ·simp only[qA,seval]
theorem ayw(c:Ct)(r U V D W X Y Z fT nb r1 r2 r3 c1 c2:T)(m:List (List Nat×Nat))(kn cP:List (Nat×Int))(R:List ah)(x:Ex)(b:T)(y:Fm)(H:T)(tG:Nat)(i g n:Nat)(cs:List T)(hE:aE R i=⟨g,.cells cs 0 false⟩)(hn:n*3=cs.length)(De:n≤1000)(fr:Fr)(lh:aB ah)
  (S1:froz1 b=true) (zV:kept1 b=true) (F:froz1 H=true) (Bt:kept1 H=true)
  (aC:ae pE 52 [.ptr .S 2 1 0,.i .i64 3,.agg [.i .i64 x.op,.i .i64 x.num,.s x.name,b]] (eV r m kn R)=some (.agg [.i .i64 y.op,.i .i64 y.num,H],eV r m cP R))
  (h8:aa fr 8= .ptr .L 37 1 0) (cH:aa fr 14= .ptr .S 2 1 0) (fq:aa fr 18= .ptr .L 18 tG 0) (zW:ab lh 18=⟨tG,.cells [.i .i64 3,.i .i64 x.op,.i .i64 x.num,.s x.name,b] 0 true⟩) (I:ab lh 37=⟨1,.cells (fY Y Z fT c r U V D W X (gw r1 r2 r3 c1 c2 (.isl .S (i+7) g 0 n 3) .nilsl nb)) 0 true⟩) (J:ak) (K:J=nl bL∨J=nn bL):
  ∃f1 N,DC pE 232 J ⟨fr,lh,eV r m kn R⟩=some (.nrm,⟨f1,N,eV r m cP (aK R i ⟨g+1,.cells (cs++ [.i .i64 y.op,.i .i64 y.num,H]) 0 false⟩)⟩)∧(∀k,(jh bL).contains k=false→k≠37→ab N k=ab lh k)∧ab N 37=⟨1,.cells (fY Y Z fT c r U V D W X (gw r1 r2 r3 c1 c2 (.isl .S (i+7) (g+1) 0 (n+1) 3) .nilsl nb)) 0 true⟩:=by
 have sG:(n+1)*40≤roomy:=zU De
 unfold fY aR gw at I ⊢
 simp only[List.cons_append,List.nil_append]at I ⊢
 rcases K with rfl|rfl
 ·
  simp only[qA,seval,eJ,repl,bp,aJ,gv,eh,dL,bL,nl,h8,cH,fq,zW,I,aC,mG,nG,zV,F,cF,dk,aP,cW,cp,dR,bZ,Ei,oy,Ej,cM,cY,ij,pJ,Nat.lt_succ_self,hE,hn,sG]
  refine⟨_,_,rfl, ?_, ?_⟩
  ·intro k hk B7
   have O:k≠111:=by rintro rfl;exact absurd hk yv
   repeat (first|rw[bK _ _ B7]|rw[bK _ _ O])
  ·simp only[qA,seval]
 ·
  simp only[qA,seval,eJ,repl,bp,aJ,gv,eh,dL,bL,nn,h8,cH,fq,zW,I,aC,mG,nG,zV,F,cF,dk,aP,cW,cp,dR,bZ,Ei,oy,Ej,cM,cY,ij,pJ,Nat.lt_succ_self,hE,hn,sG]
  refine⟨_,_,rfl, ?_, ?_⟩
  ·intro k hk B7
   have O:k≠111:=by rintro rfl;exact absurd hk yv
   repeat (first|rw[bK _ _ B7]|rw[bK _ _ O])
  ·simp only[qA,seval]
theorem oz{fr:Fr}{lh:aB ah}{sh SH:List ah}{X:ah}(A: ∀H,(H=nl bL∨H=nn bL)→ ∃I D,DC pE 232 H ⟨fr,lh,sh⟩=some (.nrm,⟨I,D,SH⟩)∧(∀k,(jh bL).contains k=false→k≠37→ab D k=ab lh k)∧ab D 37=X):
  ∃F r,DC pE 232 bL ⟨fr,lh,sh⟩=some (.nrm,⟨F,r,SH⟩)∧(∀k,(jh bL).contains k=false→aa F k=aa fr k)∧(∀k,(jh bL).contains k=false→k≠37→ab r k=ab lh k)∧ab r 37=X:=by
 obtain⟨I,D,O,J,x1⟩:=A _ (.inl rfl)
 obtain⟨Z,l2,U,V,x2⟩:=A _ (.inr rfl)
 obtain⟨F,r,W,Y,K⟩:=aeW (by rfl) O U (fun k hk=>by
  by_cases h:k=37
  ·subst h;rw[x1,x2]
  ·rw[J k hk h,V k hk h])
 exact⟨F,r,W,Y,fun j N h=>(K j N).trans (J j N h),(K 37 yv).trans x1⟩
theorem aFU{fr:Fr}{lh:aB ah}{D:Option (Out×St)}(c:Ct)(K a8 a9 r aw av zT aT fT nb Z r2 r3 N O U:T)(m:List (List Nat×Nat))(kn cP:List (Nat×Int))(R:List ah)(x:Ex)(b:T)(y:Fm)(F:T)(tG:Nat)(sc:Int)(k:Nat)(fK:sc=1∨sc=2∨sc=3)(hk:k≤900)(l1 l2 l3 k1 k2 k3:RL)(lJ:eW R k (iW Z r2 r3 N O U .nilsl l1 l2 l3 k1 k2 k3 []))(hy:jE y [.i .i64 y.op,.i .i64 y.num,F])(kl:y.sz≤1000)
  (S1:froz1 b=true) (zV:kept1 b=true) (J:froz1 F=true) (Bt:kept1 F=true)
  (aC:ae pE 52 [.ptr .S 2 1 0,.i .i64 sc,.agg [.i .i64 x.op,.i .i64 x.num,.s x.name,b]] (eV K m kn R)=some (.agg [.i .i64 y.op,.i .i64 y.num,F],eV K m cP R))
  (hD:DC pE 232 bL ⟨fr,lh,eV K m kn R⟩=D)
  (h8:aa fr 8= .ptr .L 37 1 0) (cH:aa fr 14= .ptr .S 2 1 0) (fq:aa fr 18= .ptr .L 18 tG 0) (zW:ab lh 18=⟨tG,.cells [.i .i64 sc,.i .i64 x.op,.i .i64 x.num,.s x.name,b] 0 true⟩) (cU:ab lh 37=⟨1,.cells (fY zT aT fT c K a8 a9 r aw av (gw Z r2 r3 N O U .nilsl nb)) 0 true⟩):
  ∃I H R' c1' c2' c3',D=some (.nrm,⟨I,H,eV K m cP R'⟩)∧eW R' (k+1) (iW Z r2 r3 c1' c2' c3' .nilsl l1 l2 l3 (if sc=1 then k1++ [([],y)]else k1) (if sc=2 then k2++ [([],y)]else k2) (if sc=3 then k3++ [([],y)]else k3) [])∧(∀k,(jh bL).contains k=false→aa I k=aa fr k)∧(∀k,(jh bL).contains k=false→k≠37→ab H k=ab lh k)∧ab H 37=⟨1,.cells (fY zT aT fT c K a8 a9 r aw av (gw Z r2 r3 c1' c2' c3' .nilsl nb)) 0 true⟩:=by
 have vE:we 3 [([],y)] [.i .i64 y.op,.i .i64 y.num,F]:=by
  have:=(we.nil 3).app3 ([],y) _ hy kl
  simpa using this
 rcases fK with rfl|rfl|rfl
 ·rcases lJ.1 (3,N,k1) (by simp[iW])with⟨gq,xS⟩|⟨i,g,n,cs,hv,hE,hi,hn,hB,YF⟩
  ·simp only at gq xS
   subst gq xS
   have sF:=(lJ.mono (Nat.le_succ k)).new zO 3 (by simp[iW]) (sz:=3) rfl [.i .i64 y.op,.i .i64 y.num,F] rfl _ vE
   obtain⟨I,H,V,W,X,Y⟩:=oz (ayr c K a8 a9 r aw av zT aT fT nb Z r2 r3 O U m kn cP R x b y F tG fr lh S1 zV J Bt aC h8 cH fq zW cU)
   exact⟨I,H,_,_,O,U,hD.symm.trans V,sF,W,X,Y⟩
  ·simp only at hv
   subst hv
   have pH:=lJ.app 3 (by simp[iW]) (sz:=3) rfl rfl hE hi hn hB [.i .i64 y.op,.i .i64 y.num,F] rfl _ (YF.app3 ([],y) _ hy kl) (g+1)
   obtain⟨I,H,V,W,X,Y⟩:=oz (ays c K a8 a9 r aw av zT aT fT nb Z r2 r3 O U m kn cP R x b y F tG i g n cs hE hn zO fr lh S1 zV J Bt aC h8 cH fq zW cU)
   exact⟨I,H,_,_,O,U,hD.symm.trans V,pH,W,X,Y⟩
 ·rcases lJ.1 (3,O,k2) (by simp[iW])with⟨gq,xS⟩|⟨i,g,n,cs,hv,hE,hi,hn,hB,YF⟩
  ·simp only at gq xS
   subst gq xS
   have sF:=(lJ.mono (Nat.le_succ k)).new zO 4 (by simp[iW]) (sz:=3) rfl [.i .i64 y.op,.i .i64 y.num,F] rfl _ vE
   obtain⟨I,H,V,W,X,Y⟩:=oz (ayt c K a8 a9 r aw av zT aT fT nb Z r2 r3 N U m kn cP R x b y F tG fr lh S1 zV J Bt aC h8 cH fq zW cU)
   exact⟨I,H,_,N,_,U,hD.symm.trans V,sF,W,X,Y⟩
  ·simp only at hv
   subst hv
   have pH:=lJ.app 4 (by simp[iW]) (sz:=3) rfl rfl hE hi hn hB [.i .i64 y.op,.i .i64 y.num,F] rfl _ (YF.app3 ([],y) _ hy kl) (g+1)
   obtain⟨I,H,V,W,X,Y⟩:=oz (ayu c K a8 a9 r aw av zT aT fT nb Z r2 r3 N U m kn cP R x b y F tG i g n cs hE hn zO fr lh S1 zV J Bt aC h8 cH fq zW cU)
   exact⟨I,H,_,N,_,U,hD.symm.trans V,pH,W,X,Y⟩
 ·rcases lJ.1 (3,U,k3) (by simp[iW])with⟨gq,xS⟩|⟨i,g,n,cs,hv,hE,hi,hn,hB,YF⟩
  ·simp only at gq xS
   subst gq xS
   have sF:=(lJ.mono (Nat.le_succ k)).new zO 5 (by simp[iW]) (sz:=3) rfl [.i .i64 y.op,.i .i64 y.num,F] rfl _ vE
   obtain⟨I,H,V,W,X,Y⟩:=oz (ayv c K a8 a9 r aw av zT aT fT nb Z r2 r3 N O m kn cP R x b y F tG fr lh S1 zV J Bt aC h8 cH fq zW cU)
   exact⟨I,H,_,N,O,_,hD.symm.trans V,sF,W,X,Y⟩
  ·simp only at hv
   subst hv
   have pH:=lJ.app 5 (by simp[iW]) (sz:=3) rfl rfl hE hi hn hB [.i .i64 y.op,.i .i64 y.num,F] rfl _ (YF.app3 ([],y) _ hy kl) (g+1)
   obtain⟨I,H,V,W,X,Y⟩:=oz (ayw c K a8 a9 r aw av zT aT fT nb Z r2 r3 N O m kn cP R x b y F tG i g n cs hE hn zO fr lh S1 zV J Bt aC h8 cH fq zW cU)
   exact⟨I,H,_,N,O,_,hD.symm.trans V,pH,W,X,Y⟩
theorem nwc(c:Ct)(r K:T)(c7 c9:List T)(i7:IsSl r c.cs.length c7)(j7:dx c.cs c7)(i9:IsSl K c.co.length c9)(j9:aA XZ c.co c9)(hlen:c.co.length≤40)(mg: ∀u∈c.co,Jt c.cs u.sc u.x)(Z aT fT a8 J aw av nb N O U:T)(k2 k3 qw:ah)(B5:List (Nat×Int))(xg:jK c.cs B5)(R0:List ah)(l1 l2 l3:RL)(HI:eW R0 40 (iW N O U .nilsl .nilsl .nilsl .nilsl l1 l2 l3 [] [] [] []))(fr:Fr)(lh:aB ah)(sh:List ah)(fU:sh=eV r (bM c.cs c.cs.length) B5 R0)
  (h8:aa fr 8= .ptr .L 37 1 0) (cH:aa fr 14= .ptr .S 2 1 0) (Mb:aa fr 105=K) (Jv:aa fr 106= .i .i64 (c.co.length:Int)) (Jw:aa fr 107= .i .i64 0) (o2:ab lh 2=k2) (o3:ab lh 3=k3) (gb:ab lh 35=qw) (cU:ab lh 37=⟨1,.cells (fY Z aT fT c r a8 K J aw av (gw N O U .nilsl .nilsl .nilsl .nilsl nb)) 0 true⟩):
  mI 232 kW fr lh sh (.ext 6)∧
  (ab (iy pE 232 kW fr lh sh) 2=k2∧ab (iy pE 232 kW fr lh sh) 3=k3∧ab (iy pE 232 kW fr lh sh) 35=qw∧ ∃(R:List ah) (kn:List (Nat×Int)) (F H I:T),iF pE 232 kW fr lh sh=eV r (bM c.cs c.cs.length) kn R∧jK c.cs kn∧eW R 80 (iW N O U F H I .nilsl l1 l2 l3 (tF c 1 c.co.length) (tF c 2 c.co.length) (tF c 3 c.co.length) [])∧ab (iy pE 232 kW fr lh sh) 37=⟨1,.cells (fY Z aT fT c r a8 K J aw av (gw N O U F H I .nilsl nb)) 0 true⟩):=by
 refine bF (P:=fun Y V aY=>ab V 2=k2∧ab V 3=k3∧ab V 35=qw∧ ∃(R:List ah) (kn:List (Nat×Int)) (F H I:T),aY=eV r (bM c.cs c.cs.length) kn R∧jK c.cs kn∧eW R 80 (iW N O U F H I .nilsl l1 l2 l3 (tF c 1 c.co.length) (tF c 2 c.co.length) (tF c 3 c.co.length) [])∧ab V 37=⟨1,.cells (fY Z aT fT c r a8 K J aw av (gw N O U F H I .nilsl nb)) 0 true⟩)
  (cu (fun k st=> ∃(fr:Fr) (W:aB ah) (R:List ah) (kn:List (Nat×Int)) (F H I:T),st=⟨fr,W,eV r (bM c.cs c.cs.length) kn R⟩∧jK c.cs kn∧eW R (40+k) (iW N O U F H I .nilsl l1 l2 l3 (tF c 1 k) (tF c 2 k) (tF c 3 k) [])∧aa fr 8= .ptr .L 37 1 0∧aa fr 14= .ptr .S 2 1 0∧aa fr 105=K∧aa fr 106= .i .i64 (c.co.length:Int)∧aa fr 107= .i .i64 (k:Int)∧ab W 2=k2∧ab W 3=k3∧ab W 35=qw∧ab W 37=⟨1,.cells (fY Z aT fT c r a8 K J aw av (gw N O U F H I .nilsl nb)) 0 true⟩) _ c.co.length ?_ ?_ 0 _ (Nat.zero_le _) ⟨fr,lh,R0,B5,.nilsl,.nilsl,.nilsl,by rw[fU],xg,HI,h8,cH,Mb,Jv,Jw,o2,o3,gb,cU⟩)
 ·rintro k _ hk ⟨fr,W,R,kn,F,H,I,rfl,jN,lJ,h8,cH,Mb,Jv,Jw,o2,o3,gb,cU⟩
  left
  have aN:(k:Int)<c.co.length:=zO
  have hw:=aI (k:=k) zO
  obtain⟨b,cb,rr,aQ,fD,hb⟩:=BR i9 j9 k hk
  obtain⟨fK,X,t,qk⟩:=mg c.co[k] (List.getElem_mem hk)
  have B6:=(jf X).1
  obtain⟨cf,cP,aC,wN,jJ,_⟩:=Gr c.cs r R c.cs.length (Nat.le_refl _) (Gs c.cs r R c7 i7 j7) c.co[k].sc (.inr fK) c.co[k].x t kn _ jN hb B6 (iX X) (by rw[xh];exact qk)
  have kl:=zR (gf c.cs) c.co[k].sc c.co[k].x
  have s1:=vD c 1 hk
  have s2:=vD c 2 hk
  have s3:=vD c 3 hk
  generalize c.co[k]=u at*
  generalize comp (gf c.cs) u.sc u.x=y at*
  obtain⟨fa,fc,rfl,vd,XK⟩:=wN.cells
  obtain⟨i1,i2,i3,hb0⟩: ∃p q s,bL=ak.fork p q s:=⟨_,_,_,rfl⟩
  simp only[qA,seval,kW,hb0,Mb,Jv,Jw,aN,aQ]
  rw[←hb0]
  generalize hD:DC pE 232 bL _=D
  obtain⟨Y,V,R',c1',c2',c3',rfl,hR',q2,q3,q4⟩:=aFU c r a8 K J aw av Z aT fT nb N O U F H I _ kn cP R u.x b y fa ((ab W 18).g+1) u.sc (40+k) fK zO l1 l2 l3 _ _ _ lJ wN zO fD.froz1 fD.kept1 vd.froz1 vd.kept1 aC hD (by simp only[qA,seval,h8]) (by simp only[qA,seval,cH]) wL wL (by simp only[qA,seval,cU])
  rw[←s1,←s2,←s3]at hR'
  have f8:aa Y 8= .ptr .L 37 1 0:=by rw[q2 8 yv];simp only[qA,seval,h8]
  have f14:aa Y 14= .ptr .S 2 1 0:=by rw[q2 14 yv];simp only[qA,seval,cH]
  have f105:aa Y 105=K:=by rw[q2 105 yv];simp only[qA,seval,Mb]
  have f106:aa Y 106= .i .i64 (c.co.length:Int):=by rw[q2 106 yv];simp only[qA,seval,Jv]
  have f107:aa Y 107= .i .i64 (k:Int):=by rw[q2 107 yv];simp only[qA,seval,Jw]
  have p2:ab V 2=k2:=by rw[q3 2 yv yv];simp only[qA,seval,o2]
  have p3:ab V 3=k3:=by rw[q3 3 yv yv];simp only[qA,seval,o3]
  have p35:ab V 35=qw:=by rw[q3 35 yv yv];simp only[qA,seval,gb]
  simp only[qA,seval,f107,hw]
  refine⟨_,rfl,_,_,R',cP,c1',c2',c3',rfl,jJ,hR', ?_, ?_, ?_, ?_, ?_, ?_, ?_, ?_, ?_⟩
  all_goals (simp only[qA,seval,f8,f14,f105,f106,p2,p3,p35,q4])
 ·rintro _ ⟨fr,W,R,kn,F,H,I,rfl,jN,lJ,h8,cH,Mb,Jv,Jw,o2,o3,gb,cU⟩
  simp only[qA,seval,kW,Jv,Jw,Int.lt_irrefl]
  exact⟨_,_,k9,rfl,rfl,o2,o3,gb,R,kn,F,H,I,rfl,jN,lJ.mono zO,cU⟩
def afg:T→Bool
 | .ptr .S .. =>true
 |_=>false
theorem il{k g off:Nat}:afg (.ptr .S k g off)=true:=nr rfl
def Dn:T→FP
 | .ptr .S k _ _=>⟨false,[(.S,k)],[(.S,k)]⟩
 |_=>gG
section
variable{E:Env}{call:kg}{n:Nat}{fr:Fr}{lh:aB ah}{sh:List ah}{ds:List (List Nat×aF)}{bw:List FP}{u:List Nat}
theorem qZ{x v:aX}{m:Nat}(hx:afg (rd fr x)=true)(J:froz (rd fr v)=true):aM E call n ((u,⟨none,.st x v m,none⟩)::ds) bw ⟨fr,lh,sh⟩=
  if meets u bw (Dn (rd fr x))=true then ke E call n ds (bw++ [Dn (rd fr x)]) (aj E call n [⟨none,.st x v m,none⟩] ⟨fr,lh,sh⟩)else none:=by
 refine nM fun H=> ?_
 cases CV:rd fr x with
 |ptr sp k g off=>
  cases sp with
  |L=>rw[CV]at hx;simp[afg]at hx
  |S=>
   by_cases I:(decide ((cellsOf (rd fr v)).length≠m)|| !noTup (rd fr v))=true
   ·obtain⟨w,F,hr,r⟩:=qm (q:= .fail) (by rfl) (by rw[dC];simp only[bC,nI,CV];rw[if_pos I]) H
    simp[Q.run]at hr
   ·obtain⟨w,F,hr,r⟩:=qm (q:= .rd .S k (IY k g off m (rd fr v))) (by rfl) (by rw[dC];simp only[bC,nI,CV];rw[if_neg I];rfl) H
    simp only[Q.run,Q.log,Q.asks]at hr r
    generalize K:(St.mk fr lh sh).get .S k=e at hr r
    obtain⟨N,ob⟩:=e
    unfold IY at hr r
    by_cases D:N=g
    ·cases ob with
     |none=>simp[D,Q.run]at hr
     |map ks U z=>simp[D,Q.run]at hr
     |cells cs wm bx=>
      simp only[D,if_true]at hr r
      split at hr
      ·rename_i hc
       rw[if_pos hc]at r
       have hs:(bx&&(Sp.S==Sp.L))=false:=by cases bx <;> rfl
       rw[hs]at hr r
       simp only[Bool.false_eq_true,if_false]at hr r
       unfold aL at hr r
       rw[ky J]at hr r
       simp only[Q.bind]at hr r
       split at hr
       ·simp[Q.run]at hr
       ·rename_i O
        rw[if_neg O]at r
        simp[Q.run]at hr
        obtain⟨rfl,rfl⟩:=hr
        rw[r (by simp[inB,xP,K])]
        rfl
      ·simp[Q.run]at hr
    ·simp only[D,if_false,Q.run]at hr
     cases hr
 |_=>rw[CV]at hx;simp[afg]at hx
theorem eN{k g off:Nat}:Dn (.ptr .S k g off)=⟨false,[(.S,k)],[(.S,k)]⟩:=nr rfl
end
theorem nwd(c:Ct)(D r:T)(c7 ta:List T)(i7:IsSl D c.cs.length c7)(j7:dx c.cs c7)(i10:IsSl r c.cr.length ta)(ua:cG c.cr ta)(hlen:c.cr.length≤40)(mg: ∀u∈c.cr,Jt c.cs 1 u)(zT aT fT a8 a9 aw av nb F H I J K N:T)(k2 k3 qw:ah)(B5:List (Nat×Int))(xg:jK c.cs B5)(R0:List ah)(l1 l2 l3 q1 q2 q3:RL)(HI:eW R0 80 (iW F H I J K N .nilsl l1 l2 l3 q1 q2 q3 []))(fr:Fr)(lh:aB ah)(sh:List ah)(fU:sh=eV D (bM c.cs c.cs.length) B5 R0)
  (V:aa fr 8= .ptr .L 37 1 0) (W:aa fr 14= .ptr .S 2 1 0) (Gu:aa fr 156=r) (Dp:aa fr 157= .i .i64 (c.cr.length:Int)) (Jx:aa fr 158= .i .i64 0) (Y:ab lh 2=k2) (Z:ab lh 3=k3) (gb:ab lh 35=qw) (O:ab lh 37=⟨1,.cells (fY zT aT fT c D a8 a9 r aw av (gw F H I J K N .nilsl nb)) 0 true⟩):
  mI 232 jS fr lh sh (.ext 8)∧
  (ab (iy pE 232 jS fr lh sh) 2=k2∧ab (iy pE 232 jS fr lh sh) 3=k3∧ab (iy pE 232 jS fr lh sh) 35=qw∧ ∃(R:List ah) (kn:List (Nat×Int)) (cr:T),iF pE 232 jS fr lh sh=eV D (bM c.cs c.cs.length) kn R∧jK c.cs kn∧eW R 120 (iW F H I J K N cr l1 l2 l3 q1 q2 q3 (RJ c c.cr.length))∧ab (iy pE 232 jS fr lh sh) 37=⟨1,.cells (fY zT aT fT c D a8 a9 r aw av (gw F H I J K N cr nb)) 0 true⟩):=by
 refine bF (P:=fun bE aZ aY=>ab aZ 2=k2∧ab aZ 3=k3∧ab aZ 35=qw∧ ∃(R:List ah) (kn:List (Nat×Int)) (cr:T),aY=eV D (bM c.cs c.cs.length) kn R∧jK c.cs kn∧eW R 120 (iW F H I J K N cr l1 l2 l3 q1 q2 q3 (RJ c c.cr.length))∧ab aZ 37=⟨1,.cells (fY zT aT fT c D a8 a9 r aw av (gw F H I J K N cr nb)) 0 true⟩)
  (cu (fun k st=> ∃(fr:Fr) (X:aB ah) (R:List ah) (kn:List (Nat×Int)) (cr:T),st=⟨fr,X,eV D (bM c.cs c.cs.length) kn R⟩∧jK c.cs kn∧eW R (80+k) (iW F H I J K N cr l1 l2 l3 q1 q2 q3 (RJ c k))∧aa fr 8= .ptr .L 37 1 0∧aa fr 14= .ptr .S 2 1 0∧aa fr 156=r∧aa fr 157= .i .i64 (c.cr.length:Int)∧aa fr 158= .i .i64 (k:Int)∧ab X 2=k2∧ab X 3=k3∧ab X 35=qw∧ab X 37=⟨1,.cells (fY zT aT fT c D a8 a9 r aw av (gw F H I J K N cr nb)) 0 true⟩) _ c.cr.length ?_ ?_ 0 _ (Nat.zero_le _) ⟨fr,lh,R0,B5,.nilsl,by rw[fU],xg,HI,V,W,Gu,Dp,Jx,Y,Z,gb,O⟩)
 ·rintro k _ hk ⟨fr,X,R,kn,cr,rfl,jN,lJ,V,W,Gu,Dp,Jx,Y,Z,gb,O⟩
  left
  have aN:(k:Int)<c.cr.length:=zO
  have hw:=aI (k:=k) zO
  obtain⟨b,cb,rr,aQ,fD,nN,hb⟩:=ma i10 ua k hk
  obtain⟨fK,U,t,qk⟩:=mg c.cr[k] (List.getElem_mem hk)
  have B6:=(jf U).1
  obtain⟨cf,cP,aC,wN,jJ,_⟩:=Gr c.cs D R c.cs.length (Nat.le_refl _) (Gs c.cs D R c7 i7 j7) 1 (.inr fK) c.cr[k] t kn _ jN hb B6 (iX U) (by rw[xh];exact qk)
  have kl:=zR (gf c.cs) 1 c.cr[k]
  have s1:=YE c hk
  generalize c.cr[k]=u at*
  generalize comp (gf c.cs) 1 u=y at*
  obtain⟨fa,fc,rfl,vd,XK⟩:=wN.cells
  have vE:we 3 [([],y)] [.i .i64 y.op,.i .i64 y.num,fa]:=by
   have:=(we.nil 3).app3 ([],y) _ wN (by show y.sz≤1000;omega)
   simpa using this
  have zS:=Gt
  unfold fY aR gw at O ⊢
  simp only[List.cons_append,List.nil_append]at O ⊢
  rcases lJ.1 (3,cr,RJ c k) (by simp[iW])with⟨gq,xS⟩|⟨i,g,n,cs,hv,hE,hi,hn,hB,hfz⟩
  ·simp only at gq xS
   subst gq
   rw[xS,List.nil_append]at s1
   have sF:=(lJ.mono (Nat.le_succ (80+k))).new zO 6 (by simp[iW]) (sz:=3) rfl [.i .i64 y.op,.i .i64 y.num,fa] rfl _ vE
   simp only[qA,seval,repl,bp,wY,aJ,gv,eh,dL,jS,V,W,Gu,Dp,Jx,O,aN,aQ,hw,aC,mG,nG,fD.kept1,vd.froz1,cF,dk,aP,cw,cX,Ei,oy,Ej,zS,cM,cY,pI,Nat.lt_succ_self,qZ,il,eN]
   refine⟨_,rfl,_,_,aK R R.length ⟨1,.cells [.i .i64 y.op,.i .i64 y.num,fa] 0 false⟩,cP,.isl .S (R.length+7) 1 0 1 3,rfl,jJ,(by rw[s1];exact sF), ?_, ?_, ?_, ?_, ?_, ?_, ?_, ?_, ?_⟩
   all_goals (simp only[qA,seval,V,W,Gu,Dp,Y,Z,gb])
  ·simp only at hv
   subst hv
   have pH:=lJ.app 6 (by simp[iW]) (sz:=3) rfl rfl hE hi hn hB [.i .i64 y.op,.i .i64 y.num,fa] rfl _ (hfz.app3 ([],y) _ wN (by show y.sz≤1000;omega)) (g+1)
   have sG:(n+1)*40≤roomy:=zU zO
   simp only[qA,seval,repl,bp,wY,aJ,gv,eh,dL,jS,V,W,Gu,Dp,Jx,O,aN,aQ,hw,aC,mG,nG,fD.kept1,vd.froz1,cF,dk,aP,cW,dR,bZ,Ei,oy,Ej,cM,cY,ij,pJ,Nat.lt_succ_self,qZ,il,eN,hE,hn,sG]
   refine⟨_,rfl,_,_,aK R i ⟨g+1,.cells (cs++ [.i .i64 y.op,.i .i64 y.num,fa]) 0 false⟩,cP,.isl .S (i+7) (g+1) 0 (n+1) 3,rfl,jJ,(by rw[s1];exact pH), ?_, ?_, ?_, ?_, ?_, ?_, ?_, ?_, ?_⟩
   all_goals (simp only[qA,seval,V,W,Gu,Dp,Y,Z,gb])
 ·rintro _ ⟨fr,X,R,kn,cr,rfl,jN,lJ,V,W,Gu,Dp,Jx,Y,Z,gb,O⟩
  simp only[qA,seval,jS,Dp,Jx,Int.lt_irrefl]
  exact⟨_,_,k9,rfl,rfl,Y,Z,gb,R,kn,cr,rfl,jN,lJ.mono zO,O⟩
theorem Jy{lh:aB ah}{sh:List ah}{k g off wm:Nat}{cs:List T}(r:aE sh k=⟨g,.cells cs wm false⟩)(hc:cs.all froz1=true):fzV lh sh false (.ptr .S k g off)=some (.vp (cs.drop off),[(.S,k,⟨g,.cells cs cs.length false⟩)]):=by
 have D:(cs.drop off).all froz1=true:=by
  rw[List.all_eq_true]at hc ⊢
  exact fun x hx=>hc x (List.mem_of_mem_drop hx)
 have F:(St.mk .nil lh sh).get .S k=aE sh k:=rfl
 unfold fzV aL
 rw[fz]
 simp only[Bool.false_and,Bool.false_eq_true,if_false,Q.run,F,r,if_true]
 rw[jd _ D]
 rfl
theorem ayx{f:Fm}{c:List T}(h:jE f c):c.all froz1=true:=by
 obtain⟨a,r,rfl,h1,h2⟩:=h.cells
 simp[h1.froz1,uW]
theorem ajd: ∀{l:List Fm} {cs:List T},bg l cs→cs.all froz1=true
 | [],cs,h=>by rw[bg]at h;rw[h];rfl
 |f::l,cs,h=>by
  rw[bg]at h
  obtain⟨c,r,h1,h2,h3⟩:=h
  rw[h1,List.all_append,ayx h2,ajd h3];rfl
theorem ayy: ∀{l:List (List Nat×Fm)} {cs:List T},aA RlR l cs→cs.all froz1=true
 | [],cs,h=>by rw[aA]at h;rw[h];rfl
 |u::l,cs,h=>by
  obtain⟨c,r,rfl,⟨D,rfl,h2⟩,h3⟩:=h
  rw[List.all_append,ayy h3,List.all_cons,ayx h2];rfl
theorem we.froz{sz:Nat}{l:RL}{cs:List T}(h:we sz l cs):cs.all froz1=true:=by
 have h1:=h.1
 split at h1
 ·exact ayy h1
 ·exact ajd h1
theorem we.at4{l:RL}{cs:List T}(h:we 4 l cs){n k:Nat}(F:n*4=cs.length)(hk:k<n): ∃(f:Fm) (b:T) (D r:List T),cs.drop (k*4+1)= .i .i64 f.op:: .i .i64 f.num::b::r∧IsSl b f.args.length D∧bg f.args D∧f.sz≤1000:=by
 have h2:=h.2
 have h1:=h.1
 rw[if_pos rfl]at h1
 have H:=aA.len RlR.len h1
 have CW:k<l.length:=zO
 obtain⟨c,r,h3,I,rfl,h4⟩:=aA.drop RlR.len k CW h1
 obtain⟨b,D,rfl,h5,h6⟩:=h4.cells
 refine⟨l[k].2,b,D,r, ?_,h5,h6,h2 _ (List.getElem_mem CW)⟩
 rw[←List.drop_drop,h3]
 rfl
theorem we.at3{l:RL}{cs:List T}(h:we 3 l cs){n k:Nat}(H:n*3=cs.length)(hk:k<n): ∃(f:Fm) (b:T) (D r:List T),cs.drop (k*3)= .i .i64 f.op:: .i .i64 f.num::b::r∧IsSl b f.args.length D∧bg f.args D∧f.sz≤1000:=by
 have h2:=h.2
 have h1:=h.1
 rw[if_neg yv]at h1
 have F:=bg.len h1
 rw[List.length_map]at F
 have CW:k<l.length:=zO
 have RH:k<(l.map Prod.snd).length:=by simpa using CW
 obtain⟨c,r,h3,h4,_⟩:=bg.drop k RH h1
 rw[List.getElem_map]at h4
 obtain⟨b,D,rfl,h5,h6⟩:=h4.cells
 exact⟨l[k].2,b,D,r,h3,h5,h6,h2 _ (List.getElem_mem CW)⟩
def RwW(R:List ah)(p:Nat×T×RL):Prop:=(p.2.1= .nilsl∧p.2.2= [])∨ ∃i g n cs wm,p.2.1= .isl .S (i+7) g 0 n p.1∧aE R i=⟨g,.cells cs wm false⟩∧i<R.length∧n*p.1=cs.length∧n≤1000∧we p.1 p.2.2 cs
def tH(R:List ah)(r:List (Nat×T×RL)):Prop:= ∀p∈r,RwW R p
theorem eW.toW{R:List ah}{B:Nat}{r:List (Nat×T×RL)}(h:eW R B r)(F:B≤1000):tH R r:=fun p D=>by
 rcases h.1 p D with h|⟨i,g,n,cs,h1,h2,h3,h4,h5,h6⟩
 ·exact .inl h
 ·exact .inr ⟨i,g,n,cs,0,h1,h2,h3,h4,by omega,h6⟩
end Go.Proofs.YtcpceiclnbmgiaaGreat
