/- Walks of functions of the program and of the reference, and their plain laws, part 12. Conditions: the theorems' own. -/
import Derived.Test.YtblcbheipjeoeaaGreatM11
import Derived.KernelRfl
set_option maxRecDepth 100000
set_option linter.unusedSimpArgs false
set_option linter.unusedVariables false
set_option maxHeartbeats 16000000
namespace Go.Proofs.YtblcbheipjeoeaaGreat
open Go Go.Ev
theorem X1{n:Nat}(h:n≤1000):(n+1)*56≤roomy:=by unfold roomy;omega
theorem ajj:56≤roomy:=by unfold roomy;omega
def mQ(i r C D F H I J:T):List T:= [.nilsl,i,r,C,.nilsl,D,F,H,I,J]
def nR(i r C D F H I:T)(J K N O U V W:RL):List (Nat×T×RL):= [(4,i,J),(4,r,K),(4,C,N),(3,D,O),(3,F,U),(3,H,V),(3,I,W)]
def AG(c:Ct)(j:Int)(k:Nat):RL:=((c.ru.take k).filter fun u=>u.sc==j).map fun u=>(u.nm,comp (mw c.cs) u.sc u.x)
def yV(c:Ct)(j:Int)(k:Nat):RL:=((c.co.take k).filter fun u=>u.sc==j).map fun u=>([],comp (mw c.cs) u.sc u.x)
def Sw(c:Ct)(k:Nat):RL:=(c.cr.take k).map fun u=>([],comp (mw c.cs) 1 u)
theorem Et(c:Ct)(j:Int){k:Nat}(i:k<c.ru.length):AG c j (k+1)=if c.ru[k].sc=j then AG c j k++ [(c.ru[k].nm,comp (mw c.cs) c.ru[k].sc c.ru[k].x)]else AG c j k:=by
 unfold AG
 rw[List.take_succ_eq_append_getElem i,List.filter_append,List.map_append]
 by_cases h:c.ru[k].sc=j
 ·rw[if_pos h];simp[h]
 ·rw[if_neg h];simp[h]
theorem AH(c:Ct)(j:Int){k:Nat}(i:k<c.co.length):yV c j (k+1)=if c.co[k].sc=j then yV c j k++ [([],comp (mw c.cs) c.co[k].sc c.co[k].x)]else yV c j k:=by
 unfold yV
 rw[List.take_succ_eq_append_getElem i,List.filter_append,List.map_append]
 by_cases h:c.co[k].sc=j
 ·rw[if_pos h];simp[h]
 ·rw[if_neg h];simp[h]
theorem X2(c:Ct){k:Nat}(i:k<c.cr.length):Sw c (k+1)=Sw c k++ [([],comp (mw c.cs) 1 c.cr[k])]:=by
 unfold Sw
 rw[List.take_succ_eq_append_getElem i,List.map_append];rfl
theorem axl:lD [] 0 (nR .nilsl .nilsl .nilsl .nilsl .nilsl .nilsl .nilsl [] [] [] [] [] [] []):=by
 have C: ∀p∈nR .nilsl .nilsl .nilsl .nilsl .nilsl .nilsl .nilsl [] [] [] [] [] [] [],p.2=(.nilsl,[]):=by
  intro p r
  simp only[nR,List.mem_cons,List.not_mem_nil,or_false]at r
  rcases r with rfl|rfl|rfl|rfl|rfl|rfl|rfl <;> rfl
 exact⟨fun p r=> .inl (by rw[C p r];exact⟨rfl,rfl⟩),fun i j hi D _=> .inl (by rw[C _ (List.getElem_mem hi)];rfl)⟩
def KT(l:Cs)(i:Int)(x:Ex):Prop:=(i=1∨i=2∨i=3)∧iX x=0∧ ∃k,x.ty (Is l) i=(k,0)
theorem nwr(c:Ct)(K a8:T)(c7 c8:List T)(i7:g8 K c.cs.length c7)(j7:kD c.cs c7)(i8:g8 a8 c.ru.length c8)(j8:ic Tv c.ru c8)(hlen:c.ru.length≤40)(rZ: ∀u∈c.ru,KT c.cs u.sc u.x)(zT aT fT a9 a10 hZ hU nb:T)(c2 c3 KR:gR)(Eu:List (Nat×Int))(BF:oR c.cs Eu)(fr:Fr)(lh:hJ gR)(sh:List gR)(kN:sh=lC K (jh c.cs c.cs.length) Eu [])
  (H:an fr 8= .ptr .L 37 1 0) (I:an fr 14= .ptr .S 2 1 0) (KU:an fr 73=a8) (Jk:an fr 74= .i .i64 (c.ru.length:Int)) (Tw:an fr 75= .i .i64 0) (U:a6 lh 2=c2) (V:a6 lh 3=c3) (W:a6 lh 35=KR) (J:a6 lh 37=⟨1,.cells (ml zT aT fT c K a8 a9 a10 hZ hU (mQ .nilsl .nilsl .nilsl .nilsl .nilsl .nilsl .nilsl nb)) 0 true⟩):
  kV 232 mR fr lh sh (.ext 4)∧
  (a6 (kH pE 232 mR fr lh sh) 2=c2∧a6 (kH pE 232 mR fr lh sh) 3=c3∧a6 (kH pE 232 mR fr lh sh) 35=KR∧ ∃(R:List gR) (kn:List (Nat×Int)) (C D F:T),kb pE 232 mR fr lh sh=lC K (jh c.cs c.cs.length) kn R∧oR c.cs kn∧lD R 40 (nR C D F .nilsl .nilsl .nilsl .nilsl (AG c 1 c.ru.length) (AG c 2 c.ru.length) (AG c 3 c.ru.length) [] [] [] [])∧a6 (kH pE 232 mR fr lh sh) 37=⟨1,.cells (ml zT aT fT c K a8 a9 a10 hZ hU (mQ C D F .nilsl .nilsl .nilsl .nilsl nb)) 0 true⟩):=by
 refine ib (P:=fun iq il iw=>a6 il 2=c2∧a6 il 3=c3∧a6 il 35=KR∧ ∃(R:List gR) (kn:List (Nat×Int)) (C D F:T),iw=lC K (jh c.cs c.cs.length) kn R∧oR c.cs kn∧lD R 40 (nR C D F .nilsl .nilsl .nilsl .nilsl (AG c 1 c.ru.length) (AG c 2 c.ru.length) (AG c 3 c.ru.length) [] [] [] [])∧a6 il 37=⟨1,.cells (ml zT aT fT c K a8 a9 a10 hZ hU (mQ C D F .nilsl .nilsl .nilsl .nilsl nb)) 0 true⟩)
  (ij (fun k st=> ∃(fr:Fr) (iA:hJ gR) (R:List gR) (kn:List (Nat×Int)) (C D F:T),st=⟨fr,iA,lC K (jh c.cs c.cs.length) kn R⟩∧oR c.cs kn∧lD R k (nR C D F .nilsl .nilsl .nilsl .nilsl (AG c 1 k) (AG c 2 k) (AG c 3 k) [] [] [] [])∧an fr 8= .ptr .L 37 1 0∧an fr 14= .ptr .S 2 1 0∧an fr 73=a8∧an fr 74= .i .i64 (c.ru.length:Int)∧an fr 75= .i .i64 (k:Int)∧a6 iA 2=c2∧a6 iA 3=c3∧a6 iA 35=KR∧a6 iA 37=⟨1,.cells (ml zT aT fT c K a8 a9 a10 hZ hU (mQ C D F .nilsl .nilsl .nilsl .nilsl nb)) 0 true⟩) _ c.ru.length ?_ ?_ 0 _ (Nat.zero_le _) ⟨fr,lh,[],Eu,.nilsl,.nilsl,.nilsl,by rw[kN],BF,axl,H,I,KU,Jk,Tw,U,V,W,J⟩)
 ·rintro k _ hk ⟨fr,iA,R,kn,C,D,F,rfl,oH,N,H,I,KU,Jk,Tw,U,V,W,J⟩
  left
  have iu:(k:Int)<c.ru.length:=by omega
  have hw:=iG (k:=k) (by omega)
  obtain⟨b,cb,rr,iv,jE,hb⟩:=Ck i8 j8 k hk
  obtain⟨nH,hval,t,mK⟩:=rZ c.ru[k] (List.getElem_mem hk)
  have Ew:=(oa hval).1
  obtain⟨cf,jH,gZ,Bn,oj,_⟩:=It c.cs K R c.cs.length (Nat.le_refl _) (Iu c.cs K R c7 i7 j7) c.ru[k].sc (.inr nH) c.ru[k].x t kn _ oH hb Ew (na hval) (by rw[BG];exact mK)
  have pY:=C2 (mw c.cs) c.ru[k].sc c.ru[k].x
  have X:=Et c 1 hk
  have Y:=Et c 2 hk
  have Z:=Et c 3 hk
  generalize c.ru[k]=u at*
  generalize comp (mw c.cs) u.sc u.x=y at*
  obtain⟨r,fc,rfl,Ee,XC⟩:=Bn.cells
  have ZT:Z2 (u.nm,y) [.s u.nm,.i .i64 y.op,.i .i64 y.num,r]:=⟨_,rfl,Bn⟩
  have AI:AZ 4 [(u.nm,y)] [.s u.nm,.i .i64 y.op,.i .i64 y.num,r]:=by
   have:=(AZ.nil 4).app4 (u.nm,y) _ ZT (by show y.sz≤1000;omega)
   simpa using this
  have C3:=ajj
  have aBU:k≤40:=by omega
  unfold ml iS mQ at J ⊢
  simp only[List.cons_append,List.nil_append]at J ⊢
  rcases nH with nH|nH|nH <;> rw[nH]at iv gZ
  ·have O:=N.1 (4,C,AG c 1 k) (by simp[nR])
   rw[if_pos nH]at X
   rw[if_neg (by rw[nH];decide)]at Y Z
   rcases O with⟨mG,CO⟩|⟨i,g,n,cs,hv,hE,hi,hn,hB,hfz⟩
   ·simp only at mG CO
    subst mG
    rw[CO,List.nil_append]at X
    have rO:=(N.mono (Nat.le_succ k)).new (by omega) 0 (by simp[nR]) (sz:=4) rfl [.s u.nm,.i .i64 y.op,.i .i64 y.num,r] rfl _ AI
    simp only[qA,seval,kR,repl,iR,iy,qb,kq,mR,H,I,KU,Jk,Tw,J,iu,iv,hw,gZ,sa,tf,jE.kept1,Ee.froz1,ma,mb,jz,mD,jx,m5,tZ,G2,C3]
    refine⟨_,rfl,_,_,jP R R.length ⟨1,.cells [.s u.nm,.i .i64 y.op,.i .i64 y.num,r] 0 false⟩,jH,.isl .S (R.length+7) 1 0 1 4,D,F,rfl,oj,(by rw[X,Y,Z];exact rO), ?_, ?_, ?_, ?_, ?_, ?_, ?_, ?_, ?_⟩
    all_goals (simp only[qA,seval,H,I,KU,Jk,U,V,W])
   ·simp only at hv
    subst hv
    have qz:=N.app 0 (by simp[nR]) (sz:=4) rfl rfl hE hi hn hB [.s u.nm,.i .i64 y.op,.i .i64 y.num,r] rfl _ (hfz.app4 (u.nm,y) [.s u.nm,.i .i64 y.op,.i .i64 y.num,r] ZT (by show y.sz≤1000;omega)) (g+1)
    have yf:(n+1)*56≤roomy:=X1 (by omega)
    simp only[qA,seval,kR,repl,iR,iy,qb,kq,mR,H,I,KU,Jk,Tw,J,iu,iv,hw,gZ,sa,tf,jE.kept1,Ee.froz1,ma,mb,jz,mE,jx,m6,la,G1,tZ,G2,hE,hn,yf]
    refine⟨_,rfl,_,_,jP R i ⟨g+1,.cells (cs++ [.s u.nm,.i .i64 y.op,.i .i64 y.num,r]) 0 false⟩,jH,.isl .S (i+7) (g+1) 0 (n+1) 4,D,F,rfl,oj,(by rw[X,Y,Z];exact qz), ?_, ?_, ?_, ?_, ?_, ?_, ?_, ?_, ?_⟩
    all_goals (simp only[qA,seval,H,I,KU,Jk,U,V,W])
  ·have O:=N.1 (4,D,AG c 2 k) (by simp[nR])
   rw[if_pos nH]at Y
   rw[if_neg (by rw[nH];decide)]at X Z
   rcases O with⟨mG,CO⟩|⟨i,g,n,cs,hv,hE,hi,hn,hB,hfz⟩
   ·simp only at mG CO
    subst mG
    rw[CO,List.nil_append]at Y
    have rO:=(N.mono (Nat.le_succ k)).new (by omega) 1 (by simp[nR]) (sz:=4) rfl [.s u.nm,.i .i64 y.op,.i .i64 y.num,r] rfl _ AI
    simp only[qA,seval,kR,repl,iR,iy,qb,kq,mR,H,I,KU,Jk,Tw,J,iu,iv,hw,gZ,sa,tf,jE.kept1,Ee.froz1,ma,mb,jz,mD,jx,m5,tZ,G2,C3]
    refine⟨_,rfl,_,_,jP R R.length ⟨1,.cells [.s u.nm,.i .i64 y.op,.i .i64 y.num,r] 0 false⟩,jH,C,.isl .S (R.length+7) 1 0 1 4,F,rfl,oj,(by rw[X,Y,Z];exact rO), ?_, ?_, ?_, ?_, ?_, ?_, ?_, ?_, ?_⟩
    all_goals (simp only[qA,seval,H,I,KU,Jk,U,V,W])
   ·simp only at hv
    subst hv
    have qz:=N.app 1 (by simp[nR]) (sz:=4) rfl rfl hE hi hn hB [.s u.nm,.i .i64 y.op,.i .i64 y.num,r] rfl _ (hfz.app4 (u.nm,y) [.s u.nm,.i .i64 y.op,.i .i64 y.num,r] ZT (by show y.sz≤1000;omega)) (g+1)
    have yf:(n+1)*56≤roomy:=X1 (by omega)
    simp only[qA,seval,kR,repl,iR,iy,qb,kq,mR,H,I,KU,Jk,Tw,J,iu,iv,hw,gZ,sa,tf,jE.kept1,Ee.froz1,ma,mb,jz,mE,jx,m6,la,G1,tZ,G2,hE,hn,yf]
    refine⟨_,rfl,_,_,jP R i ⟨g+1,.cells (cs++ [.s u.nm,.i .i64 y.op,.i .i64 y.num,r]) 0 false⟩,jH,C,.isl .S (i+7) (g+1) 0 (n+1) 4,F,rfl,oj,(by rw[X,Y,Z];exact qz), ?_, ?_, ?_, ?_, ?_, ?_, ?_, ?_, ?_⟩
    all_goals (simp only[qA,seval,H,I,KU,Jk,U,V,W])
  ·have O:=N.1 (4,F,AG c 3 k) (by simp[nR])
   rw[if_pos nH]at Z
   rw[if_neg (by rw[nH];decide)]at X Y
   rcases O with⟨mG,CO⟩|⟨i,g,n,cs,hv,hE,hi,hn,hB,hfz⟩
   ·simp only at mG CO
    subst mG
    rw[CO,List.nil_append]at Z
    have rO:=(N.mono (Nat.le_succ k)).new (by omega) 2 (by simp[nR]) (sz:=4) rfl [.s u.nm,.i .i64 y.op,.i .i64 y.num,r] rfl _ AI
    simp only[qA,seval,kR,repl,iR,iy,qb,kq,mR,H,I,KU,Jk,Tw,J,iu,iv,hw,gZ,sa,tf,jE.kept1,Ee.froz1,ma,mb,jz,mD,jx,m5,tZ,G2,C3]
    refine⟨_,rfl,_,_,jP R R.length ⟨1,.cells [.s u.nm,.i .i64 y.op,.i .i64 y.num,r] 0 false⟩,jH,C,D,.isl .S (R.length+7) 1 0 1 4,rfl,oj,(by rw[X,Y,Z];exact rO), ?_, ?_, ?_, ?_, ?_, ?_, ?_, ?_, ?_⟩
    all_goals (simp only[qA,seval,H,I,KU,Jk,U,V,W])
   ·simp only at hv
    subst hv
    have qz:=N.app 2 (by simp[nR]) (sz:=4) rfl rfl hE hi hn hB [.s u.nm,.i .i64 y.op,.i .i64 y.num,r] rfl _ (hfz.app4 (u.nm,y) [.s u.nm,.i .i64 y.op,.i .i64 y.num,r] ZT (by show y.sz≤1000;omega)) (g+1)
    have yf:(n+1)*56≤roomy:=X1 (by omega)
    simp only[qA,seval,kR,repl,iR,iy,qb,kq,mR,H,I,KU,Jk,Tw,J,iu,iv,hw,gZ,sa,tf,jE.kept1,Ee.froz1,ma,mb,jz,mE,jx,m6,la,G1,tZ,G2,hE,hn,yf]
    refine⟨_,rfl,_,_,jP R i ⟨g+1,.cells (cs++ [.s u.nm,.i .i64 y.op,.i .i64 y.num,r]) 0 false⟩,jH,C,D,.isl .S (i+7) (g+1) 0 (n+1) 4,rfl,oj,(by rw[X,Y,Z];exact qz), ?_, ?_, ?_, ?_, ?_, ?_, ?_, ?_, ?_⟩
    all_goals (simp only[qA,seval,H,I,KU,Jk,U,V,W])
 ·rintro _ ⟨fr,iA,R,kn,C,D,F,rfl,oH,N,H,I,KU,Jk,Tw,U,V,W,J⟩
  simp only[qA,seval,mR,Jk,Tw,Int.lt_irrefl]
  exact⟨_,_,jB,rfl,rfl,U,V,W,R,kn,C,D,F,rfl,oH,N.mono (by omega),J⟩
theorem Iv:40≤roomy:=by unfold roomy;omega
theorem C4{n:Nat}(h:n≤1000):(n+1)*40≤roomy:=by unfold roomy;omega
theorem vt{a b c x y z:T}:splice [a,b,c] 0 [x,y,z]= [x,y,z]:=rfl
theorem ng{a b c x y z:T}: ∀(cs:List T),splice (cs++ [a,b,c]) cs.length [x,y,z]=cs++ [x,y,z]
 | []=>rfl
 |u::cs=>by rw[List.cons_append,List.cons_append,List.length_cons,splice,ng cs]
theorem vu{cs:List T}{a b c:T}:(cs++ [a,b,c]).length=cs.length+3:=by simp
theorem arV(c:Ct)(r O U C V hU W X Y Z r1 r2 r3 c2 c3:T)(m:List (List Nat×Nat))(kn jH:List (Nat×Int))(R:List gR)(x:Ex)(b:T)(y:Fm)(F:T)(Cl:Nat)(fr:Fr)(lh:hJ gR)
  (Tx:froz1 b=true) (C5:kept1 b=true) (D:froz1 F=true) (Pc:kept1 F=true)
  (gZ:gS pE 89 [.ptr .S 2 1 0,.i .i64 1,.agg [.i .i64 x.op,.i .i64 x.num,.s x.name,b]] (lC r m kn R)=some (.agg [.i .i64 y.op,.i .i64 y.num,F],lC r m jH R))
  (h8:an fr 8= .ptr .L 37 1 0) (jq:an fr 14= .ptr .S 2 1 0) (mg:an fr 18= .ptr .L 18 Cl 0) (C6:a6 lh 18=⟨Cl,.cells [.i .i64 1,.i .i64 x.op,.i .i64 x.num,.s x.name,b] 0 true⟩) (H:a6 lh 37=⟨1,.cells (ml W X Y c r O U C V hU (mQ r1 r2 r3 (.nilsl) c2 c3 .nilsl Z)) 0 true⟩) (I:gT) (zh:I=sJ jg∨I=sL jg):
  ∃f1 J,DC pE 232 I ⟨fr,lh,lC r m kn R⟩=some (.nrm,⟨f1,J,lC r m jH (jP R R.length ⟨1,.cells [.i .i64 y.op,.i .i64 y.num,F] 0 false⟩)⟩)∧(∀k,(kJ jg).contains k=false→k≠37→a6 J k=a6 lh k)∧a6 J 37=⟨1,.cells (ml W X Y c r O U C V hU (mQ r1 r2 r3 (.isl .S (R.length+7) 1 0 1 3) c2 c3 .nilsl Z)) 0 true⟩:=by
 have C3:=Iv
 unfold ml iS mQ at H ⊢
 simp only[List.cons_append,List.nil_append]at H ⊢
 rcases zh with rfl|rfl
 ·
  simp only[qA,seval,kR,repl,iR,iy,qb,mX,kq,jg,sJ,h8,jq,mg,C6,H,gZ,sa,tf,C5,D,ma,mb,jz,mD,jx,m5,G1,tZ,G2,C3,jI,j5,vt,Nat.lt_succ_self]
  refine⟨_,_,rfl, ?_, ?_⟩
  ·intro k K Ey
   have N:k≠111:=by rintro rfl;exact absurd K (by decide)
   repeat (first|rw[jl _ _ Ey]|rw[jl _ _ N])
  ·simp only[qA,seval]
 ·
  simp only[qA,seval,kR,repl,iR,iy,qb,mX,kq,jg,sL,h8,jq,mg,C6,H,gZ,sa,tf,C5,D,ma,mb,jz,mD,jx,m5,G1,tZ,G2,C3,jI,j5,vt,Nat.lt_succ_self]
  refine⟨_,_,rfl, ?_, ?_⟩
  ·intro k K Ey
   have N:k≠111:=by rintro rfl;exact absurd K (by decide)
   repeat (first|rw[jl _ _ Ey]|rw[jl _ _ N])
  ·simp only[qA,seval]
theorem arW(c:Ct)(r U V C W hU X Y Z nb r1 r2 r3 c2 c3:T)(m:List (List Nat×Nat))(kn jH:List (Nat×Int))(R:List gR)(x:Ex)(b:T)(y:Fm)(F:T)(Cl:Nat)(i g n:Nat)(cs:List T)(hE:jr R i=⟨g,.cells cs 0 false⟩)(hn:n*3=cs.length)(I:n≤1000)(fr:Fr)(lh:hJ gR)
  (Tx:froz1 b=true) (C5:kept1 b=true) (D:froz1 F=true) (Pc:kept1 F=true)
  (gZ:gS pE 89 [.ptr .S 2 1 0,.i .i64 1,.agg [.i .i64 x.op,.i .i64 x.num,.s x.name,b]] (lC r m kn R)=some (.agg [.i .i64 y.op,.i .i64 y.num,F],lC r m jH R))
  (h8:an fr 8= .ptr .L 37 1 0) (jq:an fr 14= .ptr .S 2 1 0) (mg:an fr 18= .ptr .L 18 Cl 0) (C6:a6 lh 18=⟨Cl,.cells [.i .i64 1,.i .i64 x.op,.i .i64 x.num,.s x.name,b] 0 true⟩) (H:a6 lh 37=⟨1,.cells (ml X Y Z c r U V C W hU (mQ r1 r2 r3 (.isl .S (i+7) g 0 n 3) c2 c3 .nilsl nb)) 0 true⟩) (J:gT) (zh:J=sJ jg∨J=sL jg):
  ∃f1 K,DC pE 232 J ⟨fr,lh,lC r m kn R⟩=some (.nrm,⟨f1,K,lC r m jH (jP R i ⟨g+1,.cells (cs++ [.i .i64 y.op,.i .i64 y.num,F]) 0 false⟩)⟩)∧(∀k,(kJ jg).contains k=false→k≠37→a6 K k=a6 lh k)∧a6 K 37=⟨1,.cells (ml X Y Z c r U V C W hU (mQ r1 r2 r3 (.isl .S (i+7) (g+1) 0 (n+1) 3) c2 c3 .nilsl nb)) 0 true⟩:=by
 have yf:(n+1)*40≤roomy:=C4 I
 unfold ml iS mQ at H ⊢
 simp only[List.cons_append,List.nil_append]at H ⊢
 rcases zh with rfl|rfl
 ·
  simp only[qA,seval,kR,repl,iR,iy,qb,mX,kq,jg,sJ,h8,jq,mg,C6,H,gZ,sa,tf,C5,D,ma,mb,jz,mE,jx,m6,la,G1,tZ,G2,jI,j5,ng,vu,Nat.lt_succ_self,hE,hn,yf]
  refine⟨_,_,rfl, ?_, ?_⟩
  ·intro k N Ey
   have O:k≠111:=by rintro rfl;exact absurd N (by decide)
   repeat (first|rw[jl _ _ Ey]|rw[jl _ _ O])
  ·simp only[qA,seval]
 ·
  simp only[qA,seval,kR,repl,iR,iy,qb,mX,kq,jg,sL,h8,jq,mg,C6,H,gZ,sa,tf,C5,D,ma,mb,jz,mE,jx,m6,la,G1,tZ,G2,jI,j5,ng,vu,Nat.lt_succ_self,hE,hn,yf]
  refine⟨_,_,rfl, ?_, ?_⟩
  ·intro k N Ey
   have O:k≠111:=by rintro rfl;exact absurd N (by decide)
   repeat (first|rw[jl _ _ Ey]|rw[jl _ _ O])
  ·simp only[qA,seval]
theorem arX(c:Ct)(r O U C V hU W X Y Z r1 r2 r3 c1 c3:T)(m:List (List Nat×Nat))(kn jH:List (Nat×Int))(R:List gR)(x:Ex)(b:T)(y:Fm)(F:T)(Cl:Nat)(fr:Fr)(lh:hJ gR)
  (Tx:froz1 b=true) (C5:kept1 b=true) (D:froz1 F=true) (Pc:kept1 F=true)
  (gZ:gS pE 89 [.ptr .S 2 1 0,.i .i64 2,.agg [.i .i64 x.op,.i .i64 x.num,.s x.name,b]] (lC r m kn R)=some (.agg [.i .i64 y.op,.i .i64 y.num,F],lC r m jH R))
  (h8:an fr 8= .ptr .L 37 1 0) (jq:an fr 14= .ptr .S 2 1 0) (mg:an fr 18= .ptr .L 18 Cl 0) (C6:a6 lh 18=⟨Cl,.cells [.i .i64 2,.i .i64 x.op,.i .i64 x.num,.s x.name,b] 0 true⟩) (H:a6 lh 37=⟨1,.cells (ml W X Y c r O U C V hU (mQ r1 r2 r3 c1 (.nilsl) c3 .nilsl Z)) 0 true⟩) (I:gT) (zh:I=sJ jg∨I=sL jg):
  ∃f1 J,DC pE 232 I ⟨fr,lh,lC r m kn R⟩=some (.nrm,⟨f1,J,lC r m jH (jP R R.length ⟨1,.cells [.i .i64 y.op,.i .i64 y.num,F] 0 false⟩)⟩)∧(∀k,(kJ jg).contains k=false→k≠37→a6 J k=a6 lh k)∧a6 J 37=⟨1,.cells (ml W X Y c r O U C V hU (mQ r1 r2 r3 c1 (.isl .S (R.length+7) 1 0 1 3) c3 .nilsl Z)) 0 true⟩:=by
 have C3:=Iv
 unfold ml iS mQ at H ⊢
 simp only[List.cons_append,List.nil_append]at H ⊢
 rcases zh with rfl|rfl
 ·
  simp only[qA,seval,kR,repl,iR,iy,qb,mX,kq,jg,sJ,h8,jq,mg,C6,H,gZ,sa,tf,C5,D,ma,mb,jz,mD,jx,m5,G1,tZ,G2,C3,jI,j5,vt,Nat.lt_succ_self]
  refine⟨_,_,rfl, ?_, ?_⟩
  ·intro k K Ey
   have N:k≠111:=by rintro rfl;exact absurd K (by decide)
   repeat (first|rw[jl _ _ Ey]|rw[jl _ _ N])
  ·simp only[qA,seval]
 ·
  simp only[qA,seval,kR,repl,iR,iy,qb,mX,kq,jg,sL,h8,jq,mg,C6,H,gZ,sa,tf,C5,D,ma,mb,jz,mD,jx,m5,G1,tZ,G2,C3,jI,j5,vt,Nat.lt_succ_self]
  refine⟨_,_,rfl, ?_, ?_⟩
  ·intro k K Ey
   have N:k≠111:=by rintro rfl;exact absurd K (by decide)
   repeat (first|rw[jl _ _ Ey]|rw[jl _ _ N])
  ·simp only[qA,seval]
theorem arY(c:Ct)(r U V C W hU X Y Z nb r1 r2 r3 c1 c3:T)(m:List (List Nat×Nat))(kn jH:List (Nat×Int))(R:List gR)(x:Ex)(b:T)(y:Fm)(F:T)(Cl:Nat)(i g n:Nat)(cs:List T)(hE:jr R i=⟨g,.cells cs 0 false⟩)(hn:n*3=cs.length)(I:n≤1000)(fr:Fr)(lh:hJ gR)
  (Tx:froz1 b=true) (C5:kept1 b=true) (D:froz1 F=true) (Pc:kept1 F=true)
  (gZ:gS pE 89 [.ptr .S 2 1 0,.i .i64 2,.agg [.i .i64 x.op,.i .i64 x.num,.s x.name,b]] (lC r m kn R)=some (.agg [.i .i64 y.op,.i .i64 y.num,F],lC r m jH R))
  (h8:an fr 8= .ptr .L 37 1 0) (jq:an fr 14= .ptr .S 2 1 0) (mg:an fr 18= .ptr .L 18 Cl 0) (C6:a6 lh 18=⟨Cl,.cells [.i .i64 2,.i .i64 x.op,.i .i64 x.num,.s x.name,b] 0 true⟩) (H:a6 lh 37=⟨1,.cells (ml X Y Z c r U V C W hU (mQ r1 r2 r3 c1 (.isl .S (i+7) g 0 n 3) c3 .nilsl nb)) 0 true⟩) (J:gT) (zh:J=sJ jg∨J=sL jg):
  ∃f1 K,DC pE 232 J ⟨fr,lh,lC r m kn R⟩=some (.nrm,⟨f1,K,lC r m jH (jP R i ⟨g+1,.cells (cs++ [.i .i64 y.op,.i .i64 y.num,F]) 0 false⟩)⟩)∧(∀k,(kJ jg).contains k=false→k≠37→a6 K k=a6 lh k)∧a6 K 37=⟨1,.cells (ml X Y Z c r U V C W hU (mQ r1 r2 r3 c1 (.isl .S (i+7) (g+1) 0 (n+1) 3) c3 .nilsl nb)) 0 true⟩:=by
 have yf:(n+1)*40≤roomy:=C4 I
 unfold ml iS mQ at H ⊢
 simp only[List.cons_append,List.nil_append]at H ⊢
 rcases zh with rfl|rfl
 ·
  simp only[qA,seval,kR,repl,iR,iy,qb,mX,kq,jg,sJ,h8,jq,mg,C6,H,gZ,sa,tf,C5,D,ma,mb,jz,mE,jx,m6,la,G1,tZ,G2,jI,j5,ng,vu,Nat.lt_succ_self,hE,hn,yf]
  refine⟨_,_,rfl, ?_, ?_⟩
  ·intro k N Ey
   have O:k≠111:=by rintro rfl;exact absurd N (by decide)
   repeat (first|rw[jl _ _ Ey]|rw[jl _ _ O])
  ·simp only[qA,seval]
 ·
  simp only[qA,seval,kR,repl,iR,iy,qb,mX,kq,jg,sL,h8,jq,mg,C6,H,gZ,sa,tf,C5,D,ma,mb,jz,mE,jx,m6,la,G1,tZ,G2,jI,j5,ng,vu,Nat.lt_succ_self,hE,hn,yf]
  refine⟨_,_,rfl, ?_, ?_⟩
  ·intro k N Ey
   have O:k≠111:=by rintro rfl;exact absurd N (by decide)
   repeat (first|rw[jl _ _ Ey]|rw[jl _ _ O])
  ·simp only[qA,seval]
theorem arZ(c:Ct)(r O U C V hU W X Y Z r1 r2 r3 c1 c2:T)(m:List (List Nat×Nat))(kn jH:List (Nat×Int))(R:List gR)(x:Ex)(b:T)(y:Fm)(F:T)(Cl:Nat)(fr:Fr)(lh:hJ gR)
  (Tx:froz1 b=true) (C5:kept1 b=true) (D:froz1 F=true) (Pc:kept1 F=true)
  (gZ:gS pE 89 [.ptr .S 2 1 0,.i .i64 3,.agg [.i .i64 x.op,.i .i64 x.num,.s x.name,b]] (lC r m kn R)=some (.agg [.i .i64 y.op,.i .i64 y.num,F],lC r m jH R))
  (h8:an fr 8= .ptr .L 37 1 0) (jq:an fr 14= .ptr .S 2 1 0) (mg:an fr 18= .ptr .L 18 Cl 0) (C6:a6 lh 18=⟨Cl,.cells [.i .i64 3,.i .i64 x.op,.i .i64 x.num,.s x.name,b] 0 true⟩) (H:a6 lh 37=⟨1,.cells (ml W X Y c r O U C V hU (mQ r1 r2 r3 c1 c2 (.nilsl) .nilsl Z)) 0 true⟩) (I:gT) (zh:I=sJ jg∨I=sL jg):
  ∃f1 J,DC pE 232 I ⟨fr,lh,lC r m kn R⟩=some (.nrm,⟨f1,J,lC r m jH (jP R R.length ⟨1,.cells [.i .i64 y.op,.i .i64 y.num,F] 0 false⟩)⟩)∧(∀k,(kJ jg).contains k=false→k≠37→a6 J k=a6 lh k)∧a6 J 37=⟨1,.cells (ml W X Y c r O U C V hU (mQ r1 r2 r3 c1 c2 (.isl .S (R.length+7) 1 0 1 3) .nilsl Z)) 0 true⟩:=by
 have C3:=Iv
 unfold ml iS mQ at H ⊢
 simp only[List.cons_append,List.nil_append]at H ⊢
 rcases zh with rfl|rfl
 ·
  simp only[qA,seval,kR,repl,iR,iy,qb,mX,kq,jg,sJ,h8,jq,mg,C6,H,gZ,sa,tf,C5,D,ma,mb,jz,mD,jx,m5,G1,tZ,G2,C3,jI,j5,vt,Nat.lt_succ_self]
  refine⟨_,_,rfl, ?_, ?_⟩
  ·intro k K Ey
   have N:k≠111:=by rintro rfl;exact absurd K (by decide)
   repeat (first|rw[jl _ _ Ey]|rw[jl _ _ N])
  ·simp only[qA,seval]
 ·
  simp only[qA,seval,kR,repl,iR,iy,qb,mX,kq,jg,sL,h8,jq,mg,C6,H,gZ,sa,tf,C5,D,ma,mb,jz,mD,jx,m5,G1,tZ,G2,C3,jI,j5,vt,Nat.lt_succ_self]
  refine⟨_,_,rfl, ?_, ?_⟩
  ·intro k K Ey
   have N:k≠111:=by rintro rfl;exact absurd K (by decide)
   repeat (first|rw[jl _ _ Ey]|rw[jl _ _ N])
  ·simp only[qA,seval]
theorem ar0(c:Ct)(r U V C W hU X Y Z nb r1 r2 r3 c1 c2:T)(m:List (List Nat×Nat))(kn jH:List (Nat×Int))(R:List gR)(x:Ex)(b:T)(y:Fm)(F:T)(Cl:Nat)(i g n:Nat)(cs:List T)(hE:jr R i=⟨g,.cells cs 0 false⟩)(hn:n*3=cs.length)(I:n≤1000)(fr:Fr)(lh:hJ gR)
  (Tx:froz1 b=true) (C5:kept1 b=true) (D:froz1 F=true) (Pc:kept1 F=true)
  (gZ:gS pE 89 [.ptr .S 2 1 0,.i .i64 3,.agg [.i .i64 x.op,.i .i64 x.num,.s x.name,b]] (lC r m kn R)=some (.agg [.i .i64 y.op,.i .i64 y.num,F],lC r m jH R))
  (h8:an fr 8= .ptr .L 37 1 0) (jq:an fr 14= .ptr .S 2 1 0) (mg:an fr 18= .ptr .L 18 Cl 0) (C6:a6 lh 18=⟨Cl,.cells [.i .i64 3,.i .i64 x.op,.i .i64 x.num,.s x.name,b] 0 true⟩) (H:a6 lh 37=⟨1,.cells (ml X Y Z c r U V C W hU (mQ r1 r2 r3 c1 c2 (.isl .S (i+7) g 0 n 3) .nilsl nb)) 0 true⟩) (J:gT) (zh:J=sJ jg∨J=sL jg):
  ∃f1 K,DC pE 232 J ⟨fr,lh,lC r m kn R⟩=some (.nrm,⟨f1,K,lC r m jH (jP R i ⟨g+1,.cells (cs++ [.i .i64 y.op,.i .i64 y.num,F]) 0 false⟩)⟩)∧(∀k,(kJ jg).contains k=false→k≠37→a6 K k=a6 lh k)∧a6 K 37=⟨1,.cells (ml X Y Z c r U V C W hU (mQ r1 r2 r3 c1 c2 (.isl .S (i+7) (g+1) 0 (n+1) 3) .nilsl nb)) 0 true⟩:=by
 have yf:(n+1)*40≤roomy:=C4 I
 unfold ml iS mQ at H ⊢
 simp only[List.cons_append,List.nil_append]at H ⊢
 rcases zh with rfl|rfl
 ·
  simp only[qA,seval,kR,repl,iR,iy,qb,mX,kq,jg,sJ,h8,jq,mg,C6,H,gZ,sa,tf,C5,D,ma,mb,jz,mE,jx,m6,la,G1,tZ,G2,jI,j5,ng,vu,Nat.lt_succ_self,hE,hn,yf]
  refine⟨_,_,rfl, ?_, ?_⟩
  ·intro k N Ey
   have O:k≠111:=by rintro rfl;exact absurd N (by decide)
   repeat (first|rw[jl _ _ Ey]|rw[jl _ _ O])
  ·simp only[qA,seval]
 ·
  simp only[qA,seval,kR,repl,iR,iy,qb,mX,kq,jg,sL,h8,jq,mg,C6,H,gZ,sa,tf,C5,D,ma,mb,jz,mE,jx,m6,la,G1,tZ,G2,jI,j5,ng,vu,Nat.lt_succ_self,hE,hn,yf]
  refine⟨_,_,rfl, ?_, ?_⟩
  ·intro k N Ey
   have O:k≠111:=by rintro rfl;exact absurd N (by decide)
   repeat (first|rw[jl _ _ Ey]|rw[jl _ _ O])
  ·simp only[qA,seval]
theorem ua{fr:Fr}{lh:hJ gR}{sh SH:List gR}{X:gR}(A: ∀D,(D=sJ jg∨D=sL jg)→ ∃F r,DC pE 232 D ⟨fr,lh,sh⟩=some (.nrm,⟨F,r,SH⟩)∧(∀k,(kJ jg).contains k=false→k≠37→a6 r k=a6 lh k)∧a6 r 37=X):
  ∃C i,DC pE 232 jg ⟨fr,lh,sh⟩=some (.nrm,⟨C,i,SH⟩)∧(∀k,(kJ jg).contains k=false→an C k=an fr k)∧(∀k,(kJ jg).contains k=false→k≠37→a6 i k=a6 lh k)∧a6 i 37=X:=by
 obtain⟨F,r,O,H,I⟩:=A _ (.inl rfl)
 obtain⟨f2,l2,U,V,W⟩:=A _ (.inr rfl)
 obtain⟨C,i,Y,Z,J⟩:=acs (by rfl) O U (fun k K=>by
  by_cases h:k=37
  ·subst h;rw[I,W]
  ·rw[H k K h,V k K h])
 exact⟨C,i,Y,Z,fun j N h=>(J j N).trans (H j N h),(J 37 (by decide)).trans I⟩
theorem axm{fr:Fr}{lh:hJ gR}{D:Option (Out×St)}(c:Ct)(J a8 a9 r hZ hU zT aT fT nb Y Z r3 K N O:T)(m:List (List Nat×Nat))(kn jH:List (Nat×Int))(R:List gR)(x:Ex)(b:T)(y:Fm)(C:T)(Cl:Nat)(sc:Int)(k:Nat)(nH:sc=1∨sc=2∨sc=3)(hk:k≤900)(l1 l2 l3 k1 k2 k3:RL)(rb:lD R k (nR Y Z r3 K N O .nilsl l1 l2 l3 k1 k2 k3 []))(hy:oG y [.i .i64 y.op,.i .i64 y.num,C])(pY:y.sz≤1000)
  (Tx:froz1 b=true) (C5:kept1 b=true) (I:froz1 C=true) (Pc:kept1 C=true)
  (gZ:gS pE 89 [.ptr .S 2 1 0,.i .i64 sc,.agg [.i .i64 x.op,.i .i64 x.num,.s x.name,b]] (lC J m kn R)=some (.agg [.i .i64 y.op,.i .i64 y.num,C],lC J m jH R))
  (hD:DC pE 232 jg ⟨fr,lh,lC J m kn R⟩=D)
  (h8:an fr 8= .ptr .L 37 1 0) (jq:an fr 14= .ptr .S 2 1 0) (mg:an fr 18= .ptr .L 18 Cl 0) (C6:a6 lh 18=⟨Cl,.cells [.i .i64 sc,.i .i64 x.op,.i .i64 x.num,.s x.name,b] 0 true⟩) (jS:a6 lh 37=⟨1,.cells (ml zT aT fT c J a8 a9 r hZ hU (mQ Y Z r3 K N O .nilsl nb)) 0 true⟩):
  ∃H F R' c1' c2' c3',D=some (.nrm,⟨H,F,lC J m jH R'⟩)∧lD R' (k+1) (nR Y Z r3 c1' c2' c3' .nilsl l1 l2 l3 (if sc=1 then k1++ [([],y)]else k1) (if sc=2 then k2++ [([],y)]else k2) (if sc=3 then k3++ [([],y)]else k3) [])∧(∀k,(kJ jg).contains k=false→an H k=an fr k)∧(∀k,(kJ jg).contains k=false→k≠37→a6 F k=a6 lh k)∧a6 F 37=⟨1,.cells (ml zT aT fT c J a8 a9 r hZ hU (mQ Y Z r3 c1' c2' c3' .nilsl nb)) 0 true⟩:=by
 have AI:AZ 3 [([],y)] [.i .i64 y.op,.i .i64 y.num,C]:=by
  have:=(AZ.nil 3).app3 ([],y) _ hy pY
  simpa using this
 rcases nH with rfl|rfl|rfl
 ·rcases rb.1 (3,K,k1) (by simp[nR])with⟨mG,CO⟩|⟨i,g,n,cs,hv,hE,hi,hn,hB,X3⟩
  ·simp only at mG CO
   subst mG CO
   have rO:=(rb.mono (Nat.le_succ k)).new (by omega) 3 (by simp[nR]) (sz:=3) rfl [.i .i64 y.op,.i .i64 y.num,C] rfl _ AI
   obtain⟨H,F,U,V,W,X⟩:=ua (arV c J a8 a9 r hZ hU zT aT fT nb Y Z r3 N O m kn jH R x b y C Cl fr lh Tx C5 I Pc gZ h8 jq mg C6 jS)
   exact⟨H,F,_,_,N,O,hD.symm.trans U,rO,V,W,X⟩
  ·simp only at hv
   subst hv
   have qz:=rb.app 3 (by simp[nR]) (sz:=3) rfl rfl hE hi hn hB [.i .i64 y.op,.i .i64 y.num,C] rfl _ (X3.app3 ([],y) _ hy pY) (g+1)
   obtain⟨H,F,U,V,W,X⟩:=ua (arW c J a8 a9 r hZ hU zT aT fT nb Y Z r3 N O m kn jH R x b y C Cl i g n cs hE hn (by omega) fr lh Tx C5 I Pc gZ h8 jq mg C6 jS)
   exact⟨H,F,_,_,N,O,hD.symm.trans U,qz,V,W,X⟩
 ·rcases rb.1 (3,N,k2) (by simp[nR])with⟨mG,CO⟩|⟨i,g,n,cs,hv,hE,hi,hn,hB,X3⟩
  ·simp only at mG CO
   subst mG CO
   have rO:=(rb.mono (Nat.le_succ k)).new (by omega) 4 (by simp[nR]) (sz:=3) rfl [.i .i64 y.op,.i .i64 y.num,C] rfl _ AI
   obtain⟨H,F,U,V,W,X⟩:=ua (arX c J a8 a9 r hZ hU zT aT fT nb Y Z r3 K O m kn jH R x b y C Cl fr lh Tx C5 I Pc gZ h8 jq mg C6 jS)
   exact⟨H,F,_,K,_,O,hD.symm.trans U,rO,V,W,X⟩
  ·simp only at hv
   subst hv
   have qz:=rb.app 4 (by simp[nR]) (sz:=3) rfl rfl hE hi hn hB [.i .i64 y.op,.i .i64 y.num,C] rfl _ (X3.app3 ([],y) _ hy pY) (g+1)
   obtain⟨H,F,U,V,W,X⟩:=ua (arY c J a8 a9 r hZ hU zT aT fT nb Y Z r3 K O m kn jH R x b y C Cl i g n cs hE hn (by omega) fr lh Tx C5 I Pc gZ h8 jq mg C6 jS)
   exact⟨H,F,_,K,_,O,hD.symm.trans U,qz,V,W,X⟩
 ·rcases rb.1 (3,O,k3) (by simp[nR])with⟨mG,CO⟩|⟨i,g,n,cs,hv,hE,hi,hn,hB,X3⟩
  ·simp only at mG CO
   subst mG CO
   have rO:=(rb.mono (Nat.le_succ k)).new (by omega) 5 (by simp[nR]) (sz:=3) rfl [.i .i64 y.op,.i .i64 y.num,C] rfl _ AI
   obtain⟨H,F,U,V,W,X⟩:=ua (arZ c J a8 a9 r hZ hU zT aT fT nb Y Z r3 K N m kn jH R x b y C Cl fr lh Tx C5 I Pc gZ h8 jq mg C6 jS)
   exact⟨H,F,_,K,N,_,hD.symm.trans U,rO,V,W,X⟩
  ·simp only at hv
   subst hv
   have qz:=rb.app 5 (by simp[nR]) (sz:=3) rfl rfl hE hi hn hB [.i .i64 y.op,.i .i64 y.num,C] rfl _ (X3.app3 ([],y) _ hy pY) (g+1)
   obtain⟨H,F,U,V,W,X⟩:=ua (ar0 c J a8 a9 r hZ hU zT aT fT nb Y Z r3 K N m kn jH R x b y C Cl i g n cs hE hn (by omega) fr lh Tx C5 I Pc gZ h8 jq mg C6 jS)
   exact⟨H,F,_,K,N,_,hD.symm.trans U,qz,V,W,X⟩
theorem nwc(c:Ct)(r J:T)(c7 c9:List T)(i7:g8 r c.cs.length c7)(j7:kD c.cs c7)(i9:g8 J c.co.length c9)(j9:ic Z3 c.co c9)(hlen:c.co.length≤40)(rZ: ∀u∈c.co,KT c.cs u.sc u.x)(Y Z fT a8 I hZ hU nb K N O:T)(k2 k3 wc:gR)(Eu:List (Nat×Int))(BF:oR c.cs Eu)(R0:List gR)(l1 l2 l3:RL)(Jl:lD R0 40 (nR K N O .nilsl .nilsl .nilsl .nilsl l1 l2 l3 [] [] [] []))(fr:Fr)(lh:hJ gR)(sh:List gR)(kN:sh=lC r (jh c.cs c.cs.length) Eu R0)
  (h8:an fr 8= .ptr .L 37 1 0) (jq:an fr 14= .ptr .S 2 1 0) (Nr:an fr 105=J) (KV:an fr 106= .i .i64 (c.co.length:Int)) (KW:an fr 107= .i .i64 0) (o2:a6 lh 2=k2) (o3:a6 lh 3=k3) (mr:a6 lh 35=wc) (jS:a6 lh 37=⟨1,.cells (ml Y Z fT c r a8 J I hZ hU (mQ K N O .nilsl .nilsl .nilsl .nilsl nb)) 0 true⟩):
  kV 232 qk fr lh sh (.ext 6)∧
  (a6 (kH pE 232 qk fr lh sh) 2=k2∧a6 (kH pE 232 qk fr lh sh) 3=k3∧a6 (kH pE 232 qk fr lh sh) 35=wc∧ ∃(R:List gR) (kn:List (Nat×Int)) (C F H:T),kb pE 232 qk fr lh sh=lC r (jh c.cs c.cs.length) kn R∧oR c.cs kn∧lD R 80 (nR K N O C F H .nilsl l1 l2 l3 (yV c 1 c.co.length) (yV c 2 c.co.length) (yV c 3 c.co.length) [])∧a6 (kH pE 232 qk fr lh sh) 37=⟨1,.cells (ml Y Z fT c r a8 J I hZ hU (mQ K N O C F H .nilsl nb)) 0 true⟩):=by
 refine ib (P:=fun X U iw=>a6 U 2=k2∧a6 U 3=k3∧a6 U 35=wc∧ ∃(R:List gR) (kn:List (Nat×Int)) (C F H:T),iw=lC r (jh c.cs c.cs.length) kn R∧oR c.cs kn∧lD R 80 (nR K N O C F H .nilsl l1 l2 l3 (yV c 1 c.co.length) (yV c 2 c.co.length) (yV c 3 c.co.length) [])∧a6 U 37=⟨1,.cells (ml Y Z fT c r a8 J I hZ hU (mQ K N O C F H .nilsl nb)) 0 true⟩)
  (ij (fun k st=> ∃(fr:Fr) (V:hJ gR) (R:List gR) (kn:List (Nat×Int)) (C F H:T),st=⟨fr,V,lC r (jh c.cs c.cs.length) kn R⟩∧oR c.cs kn∧lD R (40+k) (nR K N O C F H .nilsl l1 l2 l3 (yV c 1 k) (yV c 2 k) (yV c 3 k) [])∧an fr 8= .ptr .L 37 1 0∧an fr 14= .ptr .S 2 1 0∧an fr 105=J∧an fr 106= .i .i64 (c.co.length:Int)∧an fr 107= .i .i64 (k:Int)∧a6 V 2=k2∧a6 V 3=k3∧a6 V 35=wc∧a6 V 37=⟨1,.cells (ml Y Z fT c r a8 J I hZ hU (mQ K N O C F H .nilsl nb)) 0 true⟩) _ c.co.length ?_ ?_ 0 _ (Nat.zero_le _) ⟨fr,lh,R0,Eu,.nilsl,.nilsl,.nilsl,by rw[kN],BF,Jl,h8,jq,Nr,KV,KW,o2,o3,mr,jS⟩)
 ·rintro k _ hk ⟨fr,V,R,kn,C,F,H,rfl,oH,rb,h8,jq,Nr,KV,KW,o2,o3,mr,jS⟩
  left
  have iu:(k:Int)<c.co.length:=by omega
  have hw:=iG (k:=k) (by omega)
  obtain⟨b,cb,rr,iv,jE,hb⟩:=Ez i9 j9 k hk
  obtain⟨nH,W,t,mK⟩:=rZ c.co[k] (List.getElem_mem hk)
  have Ew:=(oa W).1
  obtain⟨cf,jH,gZ,Bn,oj,_⟩:=It c.cs r R c.cs.length (Nat.le_refl _) (Iu c.cs r R c7 i7 j7) c.co[k].sc (.inr nH) c.co[k].x t kn _ oH hb Ew (na W) (by rw[BG];exact mK)
  have pY:=C2 (mw c.cs) c.co[k].sc c.co[k].x
  have s1:=AH c 1 hk
  have s2:=AH c 2 hk
  have s3:=AH c 3 hk
  generalize c.co[k]=u at*
  generalize comp (mw c.cs) u.sc u.x=y at*
  obtain⟨fa,fc,rfl,Ee,XC⟩:=Bn.cells
  simp only[qA,seval,qk,Nr,KV,KW,iu,iv]
  generalize hD:DC pE 232 jg _=D
  obtain⟨X,U,R',c1',c2',c3',rfl,hR',q2,q3,q4⟩:=axm c r a8 J I hZ hU Y Z fT nb K N O C F H _ kn jH R u.x b y fa ((a6 V 18).g+1) u.sc (40+k) nH (by omega) l1 l2 l3 _ _ _ rb Bn (by omega) jE.froz1 jE.kept1 Ee.froz1 Ee.kept1 gZ hD (by simp only[qA,seval,h8]) (by simp only[qA,seval,jq]) (by simp only[qA,seval]) (by simp only[qA,seval]) (by simp only[qA,seval,jS])
  rw[←s1,←s2,←s3]at hR'
  have f8:an X 8= .ptr .L 37 1 0:=by rw[q2 8 (by decide)];simp only[qA,seval,h8]
  have f14:an X 14= .ptr .S 2 1 0:=by rw[q2 14 (by decide)];simp only[qA,seval,jq]
  have f105:an X 105=J:=by rw[q2 105 (by decide)];simp only[qA,seval,Nr]
  have f106:an X 106= .i .i64 (c.co.length:Int):=by rw[q2 106 (by decide)];simp only[qA,seval,KV]
  have f107:an X 107= .i .i64 (k:Int):=by rw[q2 107 (by decide)];simp only[qA,seval,KW]
  have p2:a6 U 2=k2:=by rw[q3 2 (by decide) (by decide)];simp only[qA,seval,o2]
  have p3:a6 U 3=k3:=by rw[q3 3 (by decide) (by decide)];simp only[qA,seval,o3]
  have p35:a6 U 35=wc:=by rw[q3 35 (by decide) (by decide)];simp only[qA,seval,mr]
  simp only[qA,seval,f107,hw]
  refine⟨_,rfl,_,_,R',jH,c1',c2',c3',rfl,oj,hR', ?_, ?_, ?_, ?_, ?_, ?_, ?_, ?_, ?_⟩
  all_goals (simp only[qA,seval,f8,f14,f105,f106,p2,p3,p35,q4])
 ·rintro _ ⟨fr,V,R,kn,C,F,H,rfl,oH,rb,h8,jq,Nr,KV,KW,o2,o3,mr,jS⟩
  simp only[qA,seval,qk,KV,KW,Int.lt_irrefl]
  exact⟨_,_,jB,rfl,rfl,o2,o3,mr,R,kn,C,F,H,rfl,oH,rb.mono (by omega),jS⟩
def acL:T→Bool
 | .ptr .S .. =>true
 |_=>false
theorem oI{k g off:Nat}:acL (.ptr .S k g off)=true:=nr rfl
def ajk:T→FP
 | .ptr .S k _ _=>⟨false,[(.S,k)],[(.S,k)]⟩
 |_=>nW
section
variable{E:Env}{call:rh}{n:Nat}{fr:Fr}{lh:hJ gR}{sh:List gR}{ds:List (List Nat×be)}{jM:List FP}{u:List Nat}
theorem AJ{x v:iz}{m:Nat}(C:acL (rd fr x)=true)(J:froz (rd fr v)=true):iK E call n ((u,⟨none,.st x v m,none⟩)::ds) jM ⟨fr,lh,sh⟩=
  if meets u jM (ajk (rd fr x))=true then ke E call n ds (jM++ [ajk (rd fr x)]) (gV E call n [⟨none,.st x v m,none⟩] ⟨fr,lh,sh⟩)else none:=by
 refine ve fun H=> ?_
 cases Kv:rd fr x with
 |ptr sp k g off=>
  cases sp with
  |L=>rw[Kv]at C;simp[acL]at C
  |S=>
   by_cases I:(decide ((cellsOf (rd fr v)).length≠m)|| !noTup (rd fr v))=true
   ·obtain⟨w,F,i,r⟩:=yb (q:= .fail) (by rfl) (by rw[lq];simp only[jf,vS,Kv];rw[if_pos I]) H
    simp[Q.run]at i
   ·obtain⟨w,F,i,r⟩:=yb (q:= .rd .S k (R7 k g off m (rd fr v))) (by rfl) (by rw[lq];simp only[jf,vS,Kv];rw[if_neg I];rfl) H
    simp only[Q.run,Q.log,Q.asks]at i r
    generalize K:(St.mk fr lh sh).get .S k=e at i r
    obtain⟨N,ob⟩:=e
    unfold R7 at i r
    by_cases D:N=g
    ·cases ob with
     |none=>simp[D,Q.run]at i
     |map ks V z=>simp[D,Q.run]at i
     |cells cs wm bx=>
      simp only[D,if_true]at i r
      split at i
      ·rename_i O
       rw[if_pos O]at r
       have hs:(bx&&(Sp.S==Sp.L))=false:=by cases bx <;> rfl
       rw[hs]at i r
       simp only[Bool.false_eq_true,if_false]at i r
       unfold iB at i r
       rw[pP J]at i r
       simp only[Q.bind]at i r
       split at i
       ·simp[Q.run]at i
       ·rename_i U
        rw[if_neg U]at r
        simp[Q.run]at i
        obtain⟨rfl,rfl⟩:=i
        rw[r (by simp[yi,Dw,K])]
        rfl
      ·simp[Q.run]at i
    ·simp only[D,if_false,Q.run]at i
     cases i
 |_=>rw[Kv]at C;simp[acL]at C
theorem oJ{k g off:Nat}:ajk (.ptr .S k g off)=⟨false,[(.S,k)],[(.S,k)]⟩:=nr rfl
end
theorem nwd(c:Ct)(D r:T)(c7 vv:List T)(i7:g8 D c.cs.length c7)(j7:kD c.cs c7)(i10:g8 r c.cr.length vv)(vw:jN c.cr vv)(hlen:c.cr.length≤40)(rZ: ∀u∈c.cr,KT c.cs 1 u)(zT aT fT a8 a9 hZ hU nb F H I J K N:T)(k2 k3 wc:gR)(Eu:List (Nat×Int))(BF:oR c.cs Eu)(R0:List gR)(l1 l2 l3 q1 q2 q3:RL)(Jl:lD R0 80 (nR F H I J K N .nilsl l1 l2 l3 q1 q2 q3 []))(fr:Fr)(lh:hJ gR)(sh:List gR)(kN:sh=lC D (jh c.cs c.cs.length) Eu R0)
  (V:an fr 8= .ptr .L 37 1 0) (W:an fr 14= .ptr .S 2 1 0) (Iw:an fr 156=r) (FM:an fr 157= .i .i64 (c.cr.length:Int)) (KX:an fr 158= .i .i64 0) (Y:a6 lh 2=k2) (Z:a6 lh 3=k3) (mr:a6 lh 35=wc) (O:a6 lh 37=⟨1,.cells (ml zT aT fT c D a8 a9 r hZ hU (mQ F H I J K N .nilsl nb)) 0 true⟩):
  kV 232 oZ fr lh sh (.ext 8)∧
  (a6 (kH pE 232 oZ fr lh sh) 2=k2∧a6 (kH pE 232 oZ fr lh sh) 3=k3∧a6 (kH pE 232 oZ fr lh sh) 35=wc∧ ∃(R:List gR) (kn:List (Nat×Int)) (C:T),kb pE 232 oZ fr lh sh=lC D (jh c.cs c.cs.length) kn R∧oR c.cs kn∧lD R 120 (nR F H I J K N C l1 l2 l3 q1 q2 q3 (Sw c c.cr.length))∧a6 (kH pE 232 oZ fr lh sh) 37=⟨1,.cells (ml zT aT fT c D a8 a9 r hZ hU (mQ F H I J K N C nb)) 0 true⟩):=by
 refine ib (P:=fun iq il iw=>a6 il 2=k2∧a6 il 3=k3∧a6 il 35=wc∧ ∃(R:List gR) (kn:List (Nat×Int)) (C:T),iw=lC D (jh c.cs c.cs.length) kn R∧oR c.cs kn∧lD R 120 (nR F H I J K N C l1 l2 l3 q1 q2 q3 (Sw c c.cr.length))∧a6 il 37=⟨1,.cells (ml zT aT fT c D a8 a9 r hZ hU (mQ F H I J K N C nb)) 0 true⟩)
  (ij (fun k st=> ∃(fr:Fr) (X:hJ gR) (R:List gR) (kn:List (Nat×Int)) (C:T),st=⟨fr,X,lC D (jh c.cs c.cs.length) kn R⟩∧oR c.cs kn∧lD R (80+k) (nR F H I J K N C l1 l2 l3 q1 q2 q3 (Sw c k))∧an fr 8= .ptr .L 37 1 0∧an fr 14= .ptr .S 2 1 0∧an fr 156=r∧an fr 157= .i .i64 (c.cr.length:Int)∧an fr 158= .i .i64 (k:Int)∧a6 X 2=k2∧a6 X 3=k3∧a6 X 35=wc∧a6 X 37=⟨1,.cells (ml zT aT fT c D a8 a9 r hZ hU (mQ F H I J K N C nb)) 0 true⟩) _ c.cr.length ?_ ?_ 0 _ (Nat.zero_le _) ⟨fr,lh,R0,Eu,.nilsl,by rw[kN],BF,Jl,V,W,Iw,FM,KX,Y,Z,mr,O⟩)
 ·rintro k _ hk ⟨fr,X,R,kn,C,rfl,oH,rb,V,W,Iw,FM,KX,Y,Z,mr,O⟩
  left
  have iu:(k:Int)<c.cr.length:=by omega
  have hw:=iG (k:=k) (by omega)
  obtain⟨b,cb,rr,iv,jE,oV,hb⟩:=mY i10 vw k hk
  obtain⟨nH,U,t,mK⟩:=rZ c.cr[k] (List.getElem_mem hk)
  have Ew:=(oa U).1
  obtain⟨cf,jH,gZ,Bn,oj,_⟩:=It c.cs D R c.cs.length (Nat.le_refl _) (Iu c.cs D R c7 i7 j7) 1 (.inr nH) c.cr[k] t kn _ oH hb Ew (na U) (by rw[BG];exact mK)
  have pY:=C2 (mw c.cs) 1 c.cr[k]
  have s1:=X2 c hk
  generalize c.cr[k]=u at*
  generalize comp (mw c.cs) 1 u=y at*
  obtain⟨fa,fc,rfl,Ee,XC⟩:=Bn.cells
  have AI:AZ 3 [([],y)] [.i .i64 y.op,.i .i64 y.num,fa]:=by
   have:=(AZ.nil 3).app3 ([],y) _ Bn (by show y.sz≤1000;omega)
   simpa using this
  have C3:=Iv
  unfold ml iS mQ at O ⊢
  simp only[List.cons_append,List.nil_append]at O ⊢
  rcases rb.1 (3,C,Sw c k) (by simp[nR])with⟨mG,CO⟩|⟨i,g,n,cs,hv,hE,hi,hn,hB,hfz⟩
  ·simp only at mG CO
   subst mG
   rw[CO,List.nil_append]at s1
   have rO:=(rb.mono (Nat.le_succ (80+k))).new (by omega) 6 (by simp[nR]) (sz:=3) rfl [.i .i64 y.op,.i .i64 y.num,fa] rfl _ AI
   simp only[qA,seval,repl,iR,Bz,iy,qb,mX,kq,oZ,V,W,Iw,FM,KX,O,iu,iv,hw,gZ,sa,tf,jE.kept1,Ee.froz1,ma,mb,jz,mD,m5,G1,tZ,G2,C3,jI,j5,vt,Nat.lt_succ_self,AJ,oI,oJ]
   refine⟨_,rfl,_,_,jP R R.length ⟨1,.cells [.i .i64 y.op,.i .i64 y.num,fa] 0 false⟩,jH,.isl .S (R.length+7) 1 0 1 3,rfl,oj,(by rw[s1];exact rO), ?_, ?_, ?_, ?_, ?_, ?_, ?_, ?_, ?_⟩
   all_goals (simp only[qA,seval,V,W,Iw,FM,Y,Z,mr])
  ·simp only at hv
   subst hv
   have qz:=rb.app 6 (by simp[nR]) (sz:=3) rfl rfl hE hi hn hB [.i .i64 y.op,.i .i64 y.num,fa] rfl _ (hfz.app3 ([],y) _ Bn (by show y.sz≤1000;omega)) (g+1)
   have yf:(n+1)*40≤roomy:=C4 (by omega)
   simp only[qA,seval,repl,iR,Bz,iy,qb,mX,kq,oZ,V,W,Iw,FM,KX,O,iu,iv,hw,gZ,sa,tf,jE.kept1,Ee.froz1,ma,mb,jz,mE,m6,la,G1,tZ,G2,jI,j5,ng,vu,Nat.lt_succ_self,AJ,oI,oJ,hE,hn,yf]
   refine⟨_,rfl,_,_,jP R i ⟨g+1,.cells (cs++ [.i .i64 y.op,.i .i64 y.num,fa]) 0 false⟩,jH,.isl .S (i+7) (g+1) 0 (n+1) 3,rfl,oj,(by rw[s1];exact qz), ?_, ?_, ?_, ?_, ?_, ?_, ?_, ?_, ?_⟩
   all_goals (simp only[qA,seval,V,W,Iw,FM,Y,Z,mr])
 ·rintro _ ⟨fr,X,R,kn,C,rfl,oH,rb,V,W,Iw,FM,KX,Y,Z,mr,O⟩
  simp only[qA,seval,oZ,FM,KX,Int.lt_irrefl]
  exact⟨_,_,jB,rfl,rfl,Y,Z,mr,R,kn,C,rfl,oH,rb.mono (by omega),O⟩
theorem KY{lh:hJ gR}{sh:List gR}{k g off wm:Nat}{cs:List T}(r:jr sh k=⟨g,.cells cs wm false⟩)(i:cs.all froz1=true):fzV lh sh false (.ptr .S k g off)=some (.vp (cs.drop off),[(.S,k,⟨g,.cells cs cs.length false⟩)]):=by
 have C:(cs.drop off).all froz1=true:=by
  rw[List.all_eq_true]at i ⊢
  exact fun x D=>i x (List.mem_of_mem_drop D)
 have F:(St.mk .nil lh sh).get .S k=jr sh k:=rfl
 unfold fzV iB
 rw[fz]
 simp only[Bool.false_and,Bool.false_eq_true,if_false,Q.run,F,r,if_true]
 rw[pn _ C]
 rfl
theorem ar1{f:Fm}{c:List T}(h:oG f c):c.all froz1=true:=by
 obtain⟨a,r,rfl,i,C⟩:=h.cells
 simp[i.froz1,Al]
theorem agx: ∀{l:List Fm} {cs:List T},iO l cs→cs.all froz1=true
 | [],cs,h=>by rw[iO]at h;rw[h];rfl
 |f::l,cs,h=>by
  rw[iO]at h
  obtain⟨c,r,i,C,D⟩:=h
  rw[i,List.all_append,ar1 C,agx D];rfl
theorem ar2: ∀{l:List (List Nat×Fm)} {cs:List T},ic Z2 l cs→cs.all froz1=true
 | [],cs,h=>by rw[ic]at h;rw[h];rfl
 |u::l,cs,h=>by
  obtain⟨c,r,rfl,⟨D,rfl,i⟩,C⟩:=h
  rw[List.all_append,ar2 C,List.all_cons,ar1 i];rfl
theorem AZ.froz{sz:Nat}{l:RL}{cs:List T}(h:AZ sz l cs):cs.all froz1=true:=by
 have i:=h.1
 split at i
 ·exact ar2 i
 ·exact agx i
theorem AZ.at4{l:RL}{cs:List T}(h:AZ 4 l cs){n k:Nat}(O:n*4=cs.length)(U:k<n): ∃(f:Fm) (b:T) (C r:List T),cs.drop (k*4+1)= .i .i64 f.op:: .i .i64 f.num::b::r∧g8 b f.args.length C∧iO f.args C∧f.sz≤1000:=by
 have H:=h.2
 have D:=h.1
 rw[if_pos rfl]at D
 have V:=ic.len Z2.len D
 have F:k<l.length:=by omega
 obtain⟨c,r,I,W,rfl,J⟩:=ic.drop Z2.len k F D
 obtain⟨b,C,rfl,K,N⟩:=J.cells
 refine⟨l[k].2,b,C,r, ?_,K,N,H _ (List.getElem_mem F)⟩
 rw[←List.drop_drop,I]
 rfl
theorem AZ.at3{l:RL}{cs:List T}(h:AZ 3 l cs){n k:Nat}(U:n*3=cs.length)(V:k<n): ∃(f:Fm) (b:T) (C r:List T),cs.drop (k*3)= .i .i64 f.op:: .i .i64 f.num::b::r∧g8 b f.args.length C∧iO f.args C∧f.sz≤1000:=by
 have I:=h.2
 have D:=h.1
 rw[if_neg (by decide)]at D
 have J:=iO.len D
 rw[List.length_map]at J
 have F:k<l.length:=by omega
 have XP:k<(l.map Prod.snd).length:=by simpa using F
 obtain⟨c,r,K,H,_⟩:=iO.drop k XP D
 rw[List.getElem_map]at H
 obtain⟨b,C,rfl,N,O⟩:=H.cells
 exact⟨l[k].2,b,C,r,K,N,O,I _ (List.getElem_mem F)⟩
def RwW(R:List gR)(p:Nat×T×RL):Prop:=(p.2.1= .nilsl∧p.2.2= [])∨ ∃i g n cs wm,p.2.1= .isl .S (i+7) g 0 n p.1∧jr R i=⟨g,.cells cs wm false⟩∧i<R.length∧n*p.1=cs.length∧n≤1000∧AZ p.1 p.2.2 cs
def yW(R:List gR)(i:List (Nat×T×RL)):Prop:= ∀p∈i,RwW R p
theorem lD.toW{R:List gR}{B:Nat}{r:List (Nat×T×RL)}(h:lD R B r)(K:B≤1000):yW R r:=fun p C=>by
 rcases h.1 p C with h|⟨i,g,n,cs,D,F,H,I,N,J⟩
 ·exact .inl h
 ·exact .inr ⟨i,g,n,cs,0,D,F,H,I,by omega,J⟩
end Go.Proofs.YtblcbheipjeoeaaGreat
