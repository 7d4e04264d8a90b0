/- Walks of functions of the program and of the reference, and their plain laws, part 12. Conditions: the theorems' own. -/
import Derived.Test.YtnkgnjecmfkcfaaGreatGS
import Derived.Test.YtnkgnjecmfkcfaaGreatM11
import Derived.KernelRfl
set_option maxRecDepth 100000
set_option linter.unusedSimpArgs false
set_option linter.unusedVariables false
set_option maxHeartbeats 16000000
namespace Go.Proofs.YtnkgnjecmfkcfaaGreat
open Go Go.Ev
theorem FV:40≤roomy:=by unfold roomy;omega
theorem zp{n:Nat}(h:n≤1000):(n+1)*40≤roomy:=by unfold roomy;omega
theorem pc{a b c x y z:T}:splice [a,b,c] 0 [x,y,z]= [x,y,z]:=rfl
theorem ga{a b c x y z:T}: ∀(cs:List T),splice (cs++ [a,b,c]) cs.length [x,y,z]=cs++ [x,y,z]
 | []=>rfl
 |u::cs=>by rw[List.cons_append,List.cons_append,List.length_cons,splice,ga cs]
theorem pd{cs:List T}{a b c:T}:(cs++ [a,b,c]).length=cs.length+3:=xv
theorem awM(c:Ct)(r U V W X Y Z aT fT nb r1 r2 r3 c2 c3:T)(m:List (List Nat×Nat))(kn cF:List (Nat×Int))(R:List ah)(x:Ex)(b:T)(y:Fm)(F:T)(tn:Nat)(fr:Fr)(lh:aD ah)
  (SR:froz1 b=true) (zq:kept1 b=true) (D:froz1 F=true) (AX:kept1 F=true)
  (aE:ae pE 73 [.ptr .S 2 1 0,.i .i64 1,.agg [.i .i64 x.op,.i .i64 x.num,.s x.name,b]] (eA r m kn R)=some (.agg [.i .i64 y.op,.i .i64 y.num,F],eA r m cF R))
  (h8:aa fr 8= .ptr .L 37 1 0) (cZ:aa fr 14= .ptr .S 2 1 0) (fk:aa fr 18= .ptr .L 18 tn 0) (zr:ab lh 18=⟨tn,.cells [.i .i64 1,.i .i64 x.op,.i .i64 x.num,.s x.name,b] 0 true⟩) (H:ab lh 37=⟨1,.cells (fy Z aT fT c r U V W X Y (fM r1 r2 r3 (.nilsl) c2 c3 .nilsl nb)) 0 true⟩) (I:ak) (J:I=mC bG∨I=mD bG):
  ∃f1 K,DC pE 232 I ⟨fr,lh,eA r m kn R⟩=some (.nrm,⟨f1,K,eA r m cF (bI R R.length ⟨1,.cells [.i .i64 y.op,.i .i64 y.num,F] 0 false⟩)⟩)∧(∀k,(ch bG).contains k=false→k≠37→ab K k=ab lh k)∧ab K 37=⟨1,.cells (fy Z aT fT c r U V W X Y (fM r1 r2 r3 (.isl .S (R.length+7) 1 0 1 3) c2 c3 .nilsl nb)) 0 true⟩:=by
 have Cl:=FV
 unfold fy aY fM at H ⊢
 simp only[List.cons_append,List.nil_append]at H ⊢
 rcases J with rfl|rfl
 ·
  simp only[qA,seval,eO,repl,bp,aH,fK,eJ,dx,bG,mC,h8,cZ,fk,zr,H,aE,l7,mU,zq,D,cI,cX,aZ,cL,bU,dg,D9,nS,Ea,Cl,cD,cM,pc,Nat.lt_succ_self]
  refine⟨_,_,rfl, ?_, ?_⟩
  ·intro k hk N
   have O:k≠111:=by rintro rfl;exact absurd hk xW
   repeat (first|rw[bD _ _ N]|rw[bD _ _ O])
  ·simp only[qA,seval]
 ·
  simp only[qA,seval,eO,repl,bp,aH,fK,eJ,dx,bG,mD,h8,cZ,fk,zr,H,aE,l7,mU,zq,D,cI,cX,aZ,cL,bU,dg,D9,nS,Ea,Cl,cD,cM,pc,Nat.lt_succ_self]
  refine⟨_,_,rfl, ?_, ?_⟩
  ·intro k hk N
   have O:k≠111:=by rintro rfl;exact absurd hk xW
   repeat (first|rw[bD _ _ N]|rw[bD _ _ O])
  ·simp only[qA,seval]
theorem awN(c:Ct)(r U V W X Y Z aT fT nb r1 r2 r3 c2 c3:T)(m:List (List Nat×Nat))(kn cF:List (Nat×Int))(R:List ah)(x:Ex)(b:T)(y:Fm)(F:T)(tn:Nat)(i g n:Nat)(cs:List T)(hE:aI R i=⟨g,.cells cs 0 false⟩)(hn:n*3=cs.length)(CH:n≤1000)(fr:Fr)(lh:aD ah)
  (SR:froz1 b=true) (zq:kept1 b=true) (D:froz1 F=true) (AX:kept1 F=true)
  (aE:ae pE 73 [.ptr .S 2 1 0,.i .i64 1,.agg [.i .i64 x.op,.i .i64 x.num,.s x.name,b]] (eA r m kn R)=some (.agg [.i .i64 y.op,.i .i64 y.num,F],eA r m cF R))
  (h8:aa fr 8= .ptr .L 37 1 0) (cZ:aa fr 14= .ptr .S 2 1 0) (fk:aa fr 18= .ptr .L 18 tn 0) (zr:ab lh 18=⟨tn,.cells [.i .i64 1,.i .i64 x.op,.i .i64 x.num,.s x.name,b] 0 true⟩) (H:ab lh 37=⟨1,.cells (fy Z aT fT c r U V W X Y (fM r1 r2 r3 (.isl .S (i+7) g 0 n 3) c2 c3 .nilsl nb)) 0 true⟩) (I:ak) (J:I=mC bG∨I=mD bG):
  ∃f1 K,DC pE 232 I ⟨fr,lh,eA r m kn R⟩=some (.nrm,⟨f1,K,eA r m cF (bI R i ⟨g+1,.cells (cs++ [.i .i64 y.op,.i .i64 y.num,F]) 0 false⟩)⟩)∧(∀k,(ch bG).contains k=false→k≠37→ab K k=ab lh k)∧ab K 37=⟨1,.cells (fy Z aT fT c r U V W X Y (fM r1 r2 r3 (.isl .S (i+7) (g+1) 0 (n+1) 3) c2 c3 .nilsl nb)) 0 true⟩:=by
 have sd:(n+1)*40≤roomy:=zp CH
 unfold fy aY fM at H ⊢
 simp only[List.cons_append,List.nil_append]at H ⊢
 rcases J with rfl|rfl
 ·
  simp only[qA,seval,eO,repl,bp,aH,fK,eJ,dx,bG,mC,h8,cZ,fk,zr,H,aE,l7,mU,zq,D,cI,cX,aZ,dC,bU,eb,cw,D9,nS,Ea,cD,cM,ga,pd,Nat.lt_succ_self,hE,hn,sd]
  refine⟨_,_,rfl, ?_, ?_⟩
  ·intro k hk N
   have O:k≠111:=by rintro rfl;exact absurd hk xW
   repeat (first|rw[bD _ _ N]|rw[bD _ _ O])
  ·simp only[qA,seval]
 ·
  simp only[qA,seval,eO,repl,bp,aH,fK,eJ,dx,bG,mD,h8,cZ,fk,zr,H,aE,l7,mU,zq,D,cI,cX,aZ,dC,bU,eb,cw,D9,nS,Ea,cD,cM,ga,pd,Nat.lt_succ_self,hE,hn,sd]
  refine⟨_,_,rfl, ?_, ?_⟩
  ·intro k hk N
   have O:k≠111:=by rintro rfl;exact absurd hk xW
   repeat (first|rw[bD _ _ N]|rw[bD _ _ O])
  ·simp only[qA,seval]
theorem awO(c:Ct)(r U V W X Y Z aT fT nb r1 r2 r3 c1 c3:T)(m:List (List Nat×Nat))(kn cF:List (Nat×Int))(R:List ah)(x:Ex)(b:T)(y:Fm)(F:T)(tn:Nat)(fr:Fr)(lh:aD ah)
  (SR:froz1 b=true) (zq:kept1 b=true) (D:froz1 F=true) (AX:kept1 F=true)
  (aE:ae pE 73 [.ptr .S 2 1 0,.i .i64 2,.agg [.i .i64 x.op,.i .i64 x.num,.s x.name,b]] (eA r m kn R)=some (.agg [.i .i64 y.op,.i .i64 y.num,F],eA r m cF R))
  (h8:aa fr 8= .ptr .L 37 1 0) (cZ:aa fr 14= .ptr .S 2 1 0) (fk:aa fr 18= .ptr .L 18 tn 0) (zr:ab lh 18=⟨tn,.cells [.i .i64 2,.i .i64 x.op,.i .i64 x.num,.s x.name,b] 0 true⟩) (H:ab lh 37=⟨1,.cells (fy Z aT fT c r U V W X Y (fM r1 r2 r3 c1 (.nilsl) c3 .nilsl nb)) 0 true⟩) (I:ak) (J:I=mC bG∨I=mD bG):
  ∃f1 K,DC pE 232 I ⟨fr,lh,eA r m kn R⟩=some (.nrm,⟨f1,K,eA r m cF (bI R R.length ⟨1,.cells [.i .i64 y.op,.i .i64 y.num,F] 0 false⟩)⟩)∧(∀k,(ch bG).contains k=false→k≠37→ab K k=ab lh k)∧ab K 37=⟨1,.cells (fy Z aT fT c r U V W X Y (fM r1 r2 r3 c1 (.isl .S (R.length+7) 1 0 1 3) c3 .nilsl nb)) 0 true⟩:=by
 have Cl:=FV
 unfold fy aY fM at H ⊢
 simp only[List.cons_append,List.nil_append]at H ⊢
 rcases J with rfl|rfl
 ·
  simp only[qA,seval,eO,repl,bp,aH,fK,eJ,dx,bG,mC,h8,cZ,fk,zr,H,aE,l7,mU,zq,D,cI,cX,aZ,cL,bU,dg,D9,nS,Ea,Cl,cD,cM,pc,Nat.lt_succ_self]
  refine⟨_,_,rfl, ?_, ?_⟩
  ·intro k hk N
   have O:k≠111:=by rintro rfl;exact absurd hk xW
   repeat (first|rw[bD _ _ N]|rw[bD _ _ O])
  ·simp only[qA,seval]
 ·
  simp only[qA,seval,eO,repl,bp,aH,fK,eJ,dx,bG,mD,h8,cZ,fk,zr,H,aE,l7,mU,zq,D,cI,cX,aZ,cL,bU,dg,D9,nS,Ea,Cl,cD,cM,pc,Nat.lt_succ_self]
  refine⟨_,_,rfl, ?_, ?_⟩
  ·intro k hk N
   have O:k≠111:=by rintro rfl;exact absurd hk xW
   repeat (first|rw[bD _ _ N]|rw[bD _ _ O])
  ·simp only[qA,seval]
theorem awP(c:Ct)(r U V W X Y Z aT fT nb r1 r2 r3 c1 c3:T)(m:List (List Nat×Nat))(kn cF:List (Nat×Int))(R:List ah)(x:Ex)(b:T)(y:Fm)(F:T)(tn:Nat)(i g n:Nat)(cs:List T)(hE:aI R i=⟨g,.cells cs 0 false⟩)(hn:n*3=cs.length)(CH:n≤1000)(fr:Fr)(lh:aD ah)
  (SR:froz1 b=true) (zq:kept1 b=true) (D:froz1 F=true) (AX:kept1 F=true)
  (aE:ae pE 73 [.ptr .S 2 1 0,.i .i64 2,.agg [.i .i64 x.op,.i .i64 x.num,.s x.name,b]] (eA r m kn R)=some (.agg [.i .i64 y.op,.i .i64 y.num,F],eA r m cF R))
  (h8:aa fr 8= .ptr .L 37 1 0) (cZ:aa fr 14= .ptr .S 2 1 0) (fk:aa fr 18= .ptr .L 18 tn 0) (zr:ab lh 18=⟨tn,.cells [.i .i64 2,.i .i64 x.op,.i .i64 x.num,.s x.name,b] 0 true⟩) (H:ab lh 37=⟨1,.cells (fy Z aT fT c r U V W X Y (fM r1 r2 r3 c1 (.isl .S (i+7) g 0 n 3) c3 .nilsl nb)) 0 true⟩) (I:ak) (J:I=mC bG∨I=mD bG):
  ∃f1 K,DC pE 232 I ⟨fr,lh,eA r m kn R⟩=some (.nrm,⟨f1,K,eA r m cF (bI R i ⟨g+1,.cells (cs++ [.i .i64 y.op,.i .i64 y.num,F]) 0 false⟩)⟩)∧(∀k,(ch bG).contains k=false→k≠37→ab K k=ab lh k)∧ab K 37=⟨1,.cells (fy Z aT fT c r U V W X Y (fM r1 r2 r3 c1 (.isl .S (i+7) (g+1) 0 (n+1) 3) c3 .nilsl nb)) 0 true⟩:=by
 have sd:(n+1)*40≤roomy:=zp CH
 unfold fy aY fM at H ⊢
 simp only[List.cons_append,List.nil_append]at H ⊢
 rcases J with rfl|rfl
 ·
  simp only[qA,seval,eO,repl,bp,aH,fK,eJ,dx,bG,mC,h8,cZ,fk,zr,H,aE,l7,mU,zq,D,cI,cX,aZ,dC,bU,eb,cw,D9,nS,Ea,cD,cM,ga,pd,Nat.lt_succ_self,hE,hn,sd]
  refine⟨_,_,rfl, ?_, ?_⟩
  ·intro k hk N
   have O:k≠111:=by rintro rfl;exact absurd hk xW
   repeat (first|rw[bD _ _ N]|rw[bD _ _ O])
  ·simp only[qA,seval]
 ·
  simp only[qA,seval,eO,repl,bp,aH,fK,eJ,dx,bG,mD,h8,cZ,fk,zr,H,aE,l7,mU,zq,D,cI,cX,aZ,dC,bU,eb,cw,D9,nS,Ea,cD,cM,ga,pd,Nat.lt_succ_self,hE,hn,sd]
  refine⟨_,_,rfl, ?_, ?_⟩
  ·intro k hk N
   have O:k≠111:=by rintro rfl;exact absurd hk xW
   repeat (first|rw[bD _ _ N]|rw[bD _ _ O])
  ·simp only[qA,seval]
theorem awQ(c:Ct)(r U V W X Y Z aT fT nb r1 r2 r3 c1 c2:T)(m:List (List Nat×Nat))(kn cF:List (Nat×Int))(R:List ah)(x:Ex)(b:T)(y:Fm)(F:T)(tn:Nat)(fr:Fr)(lh:aD ah)
  (SR:froz1 b=true) (zq:kept1 b=true) (D:froz1 F=true) (AX:kept1 F=true)
  (aE:ae pE 73 [.ptr .S 2 1 0,.i .i64 3,.agg [.i .i64 x.op,.i .i64 x.num,.s x.name,b]] (eA r m kn R)=some (.agg [.i .i64 y.op,.i .i64 y.num,F],eA r m cF R))
  (h8:aa fr 8= .ptr .L 37 1 0) (cZ:aa fr 14= .ptr .S 2 1 0) (fk:aa fr 18= .ptr .L 18 tn 0) (zr:ab lh 18=⟨tn,.cells [.i .i64 3,.i .i64 x.op,.i .i64 x.num,.s x.name,b] 0 true⟩) (H:ab lh 37=⟨1,.cells (fy Z aT fT c r U V W X Y (fM r1 r2 r3 c1 c2 (.nilsl) .nilsl nb)) 0 true⟩) (I:ak) (J:I=mC bG∨I=mD bG):
  ∃f1 K,DC pE 232 I ⟨fr,lh,eA r m kn R⟩=some (.nrm,⟨f1,K,eA r m cF (bI R R.length ⟨1,.cells [.i .i64 y.op,.i .i64 y.num,F] 0 false⟩)⟩)∧(∀k,(ch bG).contains k=false→k≠37→ab K k=ab lh k)∧ab K 37=⟨1,.cells (fy Z aT fT c r U V W X Y (fM r1 r2 r3 c1 c2 (.isl .S (R.length+7) 1 0 1 3) .nilsl nb)) 0 true⟩:=by
 have Cl:=FV
 unfold fy aY fM at H ⊢
 simp only[List.cons_append,List.nil_append]at H ⊢
 rcases J with rfl|rfl
 ·
  simp only[qA,seval,eO,repl,bp,aH,fK,eJ,dx,bG,mC,h8,cZ,fk,zr,H,aE,l7,mU,zq,D,cI,cX,aZ,cL,bU,dg,D9,nS,Ea,Cl,cD,cM,pc,Nat.lt_succ_self]
  refine⟨_,_,rfl, ?_, ?_⟩
  ·intro k hk N
   have O:k≠111:=by rintro rfl;exact absurd hk xW
   repeat (first|rw[bD _ _ N]|rw[bD _ _ O])
  ·simp only[qA,seval]
 ·
  simp only[qA,seval,eO,repl,bp,aH,fK,eJ,dx,bG,mD,h8,cZ,fk,zr,H,aE,l7,mU,zq,D,cI,cX,aZ,cL,bU,dg,D9,nS,Ea,Cl,cD,cM,pc,Nat.lt_succ_self]
  refine⟨_,_,rfl, ?_, ?_⟩
  ·intro k hk N
   have O:k≠111:=by rintro rfl;exact absurd hk xW
   repeat (first|rw[bD _ _ N]|rw[bD _ _ O])
  ·simp only[qA,seval]
theorem awR(c:Ct)(r U V W X Y Z aT fT nb r1 r2 r3 c1 c2:T)(m:List (List Nat×Nat))(kn cF:List (Nat×Int))(R:List ah)(x:Ex)(b:T)(y:Fm)(F:T)(tn:Nat)(i g n:Nat)(cs:List T)(hE:aI R i=⟨g,.cells cs 0 false⟩)(hn:n*3=cs.length)(CH:n≤1000)(fr:Fr)(lh:aD ah)
  (SR:froz1 b=true) (zq:kept1 b=true) (D:froz1 F=true) (AX:kept1 F=true)
  (aE:ae pE 73 [.ptr .S 2 1 0,.i .i64 3,.agg [.i .i64 x.op,.i .i64 x.num,.s x.name,b]] (eA r m kn R)=some (.agg [.i .i64 y.op,.i .i64 y.num,F],eA r m cF R))
  (h8:aa fr 8= .ptr .L 37 1 0) (cZ:aa fr 14= .ptr .S 2 1 0) (fk:aa fr 18= .ptr .L 18 tn 0) (zr:ab lh 18=⟨tn,.cells [.i .i64 3,.i .i64 x.op,.i .i64 x.num,.s x.name,b] 0 true⟩) (H:ab lh 37=⟨1,.cells (fy Z aT fT c r U V W X Y (fM r1 r2 r3 c1 c2 (.isl .S (i+7) g 0 n 3) .nilsl nb)) 0 true⟩) (I:ak) (J:I=mC bG∨I=mD bG):
  ∃f1 K,DC pE 232 I ⟨fr,lh,eA r m kn R⟩=some (.nrm,⟨f1,K,eA r m cF (bI R i ⟨g+1,.cells (cs++ [.i .i64 y.op,.i .i64 y.num,F]) 0 false⟩)⟩)∧(∀k,(ch bG).contains k=false→k≠37→ab K k=ab lh k)∧ab K 37=⟨1,.cells (fy Z aT fT c r U V W X Y (fM r1 r2 r3 c1 c2 (.isl .S (i+7) (g+1) 0 (n+1) 3) .nilsl nb)) 0 true⟩:=by
 have sd:(n+1)*40≤roomy:=zp CH
 unfold fy aY fM at H ⊢
 simp only[List.cons_append,List.nil_append]at H ⊢
 rcases J with rfl|rfl
 ·
  simp only[qA,seval,eO,repl,bp,aH,fK,eJ,dx,bG,mC,h8,cZ,fk,zr,H,aE,l7,mU,zq,D,cI,cX,aZ,dC,bU,eb,cw,D9,nS,Ea,cD,cM,ga,pd,Nat.lt_succ_self,hE,hn,sd]
  refine⟨_,_,rfl, ?_, ?_⟩
  ·intro k hk N
   have O:k≠111:=by rintro rfl;exact absurd hk xW
   repeat (first|rw[bD _ _ N]|rw[bD _ _ O])
  ·simp only[qA,seval]
 ·
  simp only[qA,seval,eO,repl,bp,aH,fK,eJ,dx,bG,mD,h8,cZ,fk,zr,H,aE,l7,mU,zq,D,cI,cX,aZ,dC,bU,eb,cw,D9,nS,Ea,cD,cM,ga,pd,Nat.lt_succ_self,hE,hn,sd]
  refine⟨_,_,rfl, ?_, ?_⟩
  ·intro k hk N
   have O:k≠111:=by rintro rfl;exact absurd hk xW
   repeat (first|rw[bD _ _ N]|rw[bD _ _ O])
  ·simp only[qA,seval]
theorem nU{fr:Fr}{lh:aD ah}{sh SH:List ah}{X:ah}(A: ∀H,(H=mC bG∨H=mD bG)→ ∃I D,DC pE 232 H ⟨fr,lh,sh⟩=some (.nrm,⟨I,D,SH⟩)∧(∀k,(ch bG).contains k=false→k≠37→ab D k=ab lh k)∧ab D 37=X):
  ∃F r,DC pE 232 bG ⟨fr,lh,sh⟩=some (.nrm,⟨F,r,SH⟩)∧(∀k,(ch bG).contains k=false→aa F k=aa fr k)∧(∀k,(ch bG).contains k=false→k≠37→ab r k=ab lh k)∧ab r 37=X:=by
 obtain⟨I,D,O,J,x1⟩:=A _ (.inl rfl)
 obtain⟨Z,l2,U,V,x2⟩:=A _ (.inr rfl)
 obtain⟨F,r,W,Y,K⟩:=adL (by rfl) O U (fun k hk=>by
  by_cases h:k=37
  ·subst h;rw[x1,x2]
  ·rw[J k hk h,V k hk h])
 exact⟨F,r,W,Y,fun j N h=>(K j N).trans (J j N h),(K 37 xW).trans x1⟩
theorem aDi{fr:Fr}{lh:aD ah}{D:Option (Out×St)}(c:Ct)(J a8 a9 aw aA az zT aT fT nb X Y Z K N c3:T)(m:List (List Nat×Nat))(kn cF:List (Nat×Int))(R:List ah)(x:Ex)(b:T)(y:Fm)(r:T)(tn:Nat)(sc:Int)(k:Nat)(fq:sc=1∨sc=2∨sc=3)(hk:k≤900)(l1 l2 l3 k1 k2 k3:RL)(lb:eB R k (ib X Y Z K N c3 .nilsl l1 l2 l3 k1 k2 k3 []))(hy:ja y [.i .i64 y.op,.i .i64 y.num,r])(hsz:y.sz≤1000)
  (SR:froz1 b=true) (zq:kept1 b=true) (I:froz1 r=true) (AX:kept1 r=true)
  (aE:ae pE 73 [.ptr .S 2 1 0,.i .i64 sc,.agg [.i .i64 x.op,.i .i64 x.num,.s x.name,b]] (eA J m kn R)=some (.agg [.i .i64 y.op,.i .i64 y.num,r],eA J m cF R))
  (hD:DC pE 232 bG ⟨fr,lh,eA J m kn R⟩=D)
  (h8:aa fr 8= .ptr .L 37 1 0) (cZ:aa fr 14= .ptr .S 2 1 0) (fk:aa fr 18= .ptr .L 18 tn 0) (zr:ab lh 18=⟨tn,.cells [.i .i64 sc,.i .i64 x.op,.i .i64 x.num,.s x.name,b] 0 true⟩) (cJ:ab lh 37=⟨1,.cells (fy zT aT fT c J a8 a9 aw aA az (fM X Y Z K N c3 .nilsl nb)) 0 true⟩):
  ∃H F R' c1' c2' c3',D=some (.nrm,⟨H,F,eA J m cF R'⟩)∧eB R' (k+1) (ib X Y Z c1' c2' c3' .nilsl l1 l2 l3 (if sc=1 then k1++ [([],y)]else k1) (if sc=2 then k2++ [([],y)]else k2) (if sc=3 then k3++ [([],y)]else k3) [])∧(∀k,(ch bG).contains k=false→aa H k=aa fr k)∧(∀k,(ch bG).contains k=false→k≠37→ab F k=ab lh k)∧ab F 37=⟨1,.cells (fy zT aT fT c J a8 a9 aw aA az (fM X Y Z c1' c2' c3' .nilsl nb)) 0 true⟩:=by
 have vG:wj 3 [([],y)] [.i .i64 y.op,.i .i64 y.num,r]:=by
  have:=(wj.nil 3).app3 ([],y) _ hy hsz
  simpa using this
 rcases fq with rfl|rfl|rfl
 ·rcases lb.1 (3,K,k1) (by simp[ib])with⟨hnil,wi⟩|⟨i,g,n,cs,hv,hE,hi,hn,hB,Yk⟩
  ·simp only at hnil wi
   subst hnil wi
   have nP:=(lb.mono (Nat.le_succ k)).new yv 3 (by simp[ib]) (sz:=3) rfl [.i .i64 y.op,.i .i64 y.num,r] rfl _ vG
   obtain⟨H,F,O,U,V,W⟩:=nU (awM c J a8 a9 aw aA az zT aT fT nb X Y Z N c3 m kn cF R x b y r tn fr lh SR zq I AX aE h8 cZ fk zr cJ)
   exact⟨H,F,_,_,N,c3,hD.symm.trans O,nP,U,V,W⟩
  ·simp only at hv
   subst hv
   have pb:=lb.app 3 (by simp[ib]) (sz:=3) rfl rfl hE hi hn hB [.i .i64 y.op,.i .i64 y.num,r] rfl _ (Yk.app3 ([],y) _ hy hsz) (g+1)
   obtain⟨H,F,O,U,V,W⟩:=nU (awN c J a8 a9 aw aA az zT aT fT nb X Y Z N c3 m kn cF R x b y r tn i g n cs hE hn yv fr lh SR zq I AX aE h8 cZ fk zr cJ)
   exact⟨H,F,_,_,N,c3,hD.symm.trans O,pb,U,V,W⟩
 ·rcases lb.1 (3,N,k2) (by simp[ib])with⟨hnil,wi⟩|⟨i,g,n,cs,hv,hE,hi,hn,hB,Yk⟩
  ·simp only at hnil wi
   subst hnil wi
   have nP:=(lb.mono (Nat.le_succ k)).new yv 4 (by simp[ib]) (sz:=3) rfl [.i .i64 y.op,.i .i64 y.num,r] rfl _ vG
   obtain⟨H,F,O,U,V,W⟩:=nU (awO c J a8 a9 aw aA az zT aT fT nb X Y Z K c3 m kn cF R x b y r tn fr lh SR zq I AX aE h8 cZ fk zr cJ)
   exact⟨H,F,_,K,_,c3,hD.symm.trans O,nP,U,V,W⟩
  ·simp only at hv
   subst hv
   have pb:=lb.app 4 (by simp[ib]) (sz:=3) rfl rfl hE hi hn hB [.i .i64 y.op,.i .i64 y.num,r] rfl _ (Yk.app3 ([],y) _ hy hsz) (g+1)
   obtain⟨H,F,O,U,V,W⟩:=nU (awP c J a8 a9 aw aA az zT aT fT nb X Y Z K c3 m kn cF R x b y r tn i g n cs hE hn yv fr lh SR zq I AX aE h8 cZ fk zr cJ)
   exact⟨H,F,_,K,_,c3,hD.symm.trans O,pb,U,V,W⟩
 ·rcases lb.1 (3,c3,k3) (by simp[ib])with⟨hnil,wi⟩|⟨i,g,n,cs,hv,hE,hi,hn,hB,Yk⟩
  ·simp only at hnil wi
   subst hnil wi
   have nP:=(lb.mono (Nat.le_succ k)).new yv 5 (by simp[ib]) (sz:=3) rfl [.i .i64 y.op,.i .i64 y.num,r] rfl _ vG
   obtain⟨H,F,O,U,V,W⟩:=nU (awQ c J a8 a9 aw aA az zT aT fT nb X Y Z K N m kn cF R x b y r tn fr lh SR zq I AX aE h8 cZ fk zr cJ)
   exact⟨H,F,_,K,N,_,hD.symm.trans O,nP,U,V,W⟩
  ·simp only at hv
   subst hv
   have pb:=lb.app 5 (by simp[ib]) (sz:=3) rfl rfl hE hi hn hB [.i .i64 y.op,.i .i64 y.num,r] rfl _ (Yk.app3 ([],y) _ hy hsz) (g+1)
   obtain⟨H,F,O,U,V,W⟩:=nU (awR c J a8 a9 aw aA az zT aT fT nb X Y Z K N m kn cF R x b y r tn i g n cs hE hn yv fr lh SR zq I AX aE h8 cZ fk zr cJ)
   exact⟨H,F,_,K,N,_,hD.symm.trans O,pb,U,V,W⟩
theorem nwc(c:Ct)(r I:T)(c7 c9:List T)(i7:IsSl r c.cs.length c7)(j7:dn c.cs c7)(i9:IsSl I c.co.length c9)(j9:aB CoR c.co c9)(hlen:c.co.length≤40)(jb: ∀u∈c.co,Jl c.cs u.sc u.x)(X Y Z a8 aw aA az nb J K N:T)(k2 k3 qb:ah)(BC:List (Nat×Int))(xo:jg c.cs BC)(R0:List ah)(l1 l2 l3:RL)(Ha:eB R0 40 (ib J K N .nilsl .nilsl .nilsl .nilsl l1 l2 l3 [] [] [] []))(fr:Fr)(lh:aD ah)(sh:List ah)(ft:sh=eA r (bH c.cs c.cs.length) BC R0)
  (h8:aa fr 8= .ptr .L 37 1 0) (cZ:aa fr 14= .ptr .S 2 1 0) (L6:aa fr 105=I) (Jm:aa fr 106= .i .i64 (c.co.length:Int)) (Jn:aa fr 107= .i .i64 0) (o2:ab lh 2=k2) (o3:ab lh 3=k3) (fB:ab lh 35=qb) (cJ:ab lh 37=⟨1,.cells (fy X Y Z c r a8 I aw aA az (fM J K N .nilsl .nilsl .nilsl .nilsl nb)) 0 true⟩):
  pT 232 ko fr lh sh (.ext 6)∧
  (ab (im pE 232 ko fr lh sh) 2=k2∧ab (im pE 232 ko fr lh sh) 3=k3∧ab (im pE 232 ko fr lh sh) 35=qb∧ ∃(R:List ah) (kn:List (Nat×Int)) (F H c3:T),iH pE 232 ko fr lh sh=eA r (bH c.cs c.cs.length) kn R∧jg c.cs kn∧eB R 80 (ib J K N F H c3 .nilsl l1 l2 l3 (tm c 1 c.co.length) (tm c 2 c.co.length) (tm c 3 c.co.length) [])∧ab (im pE 232 ko fr lh sh) 37=⟨1,.cells (fy X Y Z c r a8 I aw aA az (fM J K N F H c3 .nilsl nb)) 0 true⟩):=by
 refine cj (P:=fun W O aX=>ab O 2=k2∧ab O 3=k3∧ab O 35=qb∧ ∃(R:List ah) (kn:List (Nat×Int)) (F H c3:T),aX=eA r (bH c.cs c.cs.length) kn R∧jg c.cs kn∧eB R 80 (ib J K N F H c3 .nilsl l1 l2 l3 (tm c 1 c.co.length) (tm c 2 c.co.length) (tm c 3 c.co.length) [])∧ab O 37=⟨1,.cells (fy X Y Z c r a8 I aw aA az (fM J K N F H c3 .nilsl nb)) 0 true⟩)
  (cT (fun k st=> ∃(fr:Fr) (U:aD ah) (R:List ah) (kn:List (Nat×Int)) (F H c3:T),st=⟨fr,U,eA r (bH c.cs c.cs.length) kn R⟩∧jg c.cs kn∧eB R (40+k) (ib J K N F H c3 .nilsl l1 l2 l3 (tm c 1 k) (tm c 2 k) (tm c 3 k) [])∧aa fr 8= .ptr .L 37 1 0∧aa fr 14= .ptr .S 2 1 0∧aa fr 105=I∧aa fr 106= .i .i64 (c.co.length:Int)∧aa fr 107= .i .i64 (k:Int)∧ab U 2=k2∧ab U 3=k3∧ab U 35=qb∧ab U 37=⟨1,.cells (fy X Y Z c r a8 I aw aA az (fM J K N F H c3 .nilsl nb)) 0 true⟩) _ c.co.length ?_ ?_ 0 _ (Nat.zero_le _) ⟨fr,lh,R0,BC,.nilsl,.nilsl,.nilsl,by rw[ft],xo,Ha,h8,cZ,L6,Jm,Jn,o2,o3,fB,cJ⟩)
 ·rintro k _ hk ⟨fr,U,R,kn,F,H,c3,rfl,jj,lb,h8,cZ,L6,Jm,Jn,o2,o3,fB,cJ⟩
  left
  have hk':(k:Int)<c.co.length:=yv
  have hw:=aG (k:=k) yv
  obtain⟨b,cb,rr,hia,fL,hb⟩:=DY i9 j9 k hk
  obtain⟨fq,V,t,hty⟩:=jb c.co[k] (List.getElem_mem hk)
  have BD:=(iz V).1
  obtain⟨cf,cF,aE,wY,jf,_⟩:=FT c.cs r R c.cs.length (Nat.le_refl _) (FU c.cs r R c7 i7 j7) c.co[k].sc (.inr fq) c.co[k].x t kn _ jj hb BD (ic V) (by rw[xp];exact hty)
  have hsz:=zl (fC c.cs) c.co[k].sc c.co[k].x
  have s1:=vE c 1 hk
  have s2:=vE c 2 hk
  have s3:=vE c 3 hk
  generalize c.co[k]=u at*
  generalize comp (fC c.cs) u.sc u.x=y at*
  obtain⟨fa,fc,rfl,Bh,XD⟩:=wY.cells
  simp only[qA,seval,ko,L6,Jm,Jn,hk',hia]
  generalize hD:DC pE 232 bG _=D
  obtain⟨W,O,R',c1',c2',c3',rfl,hR',q2,q3,q4⟩:=aDi c r a8 I aw aA az X Y Z nb J K N F H c3 _ kn cF R u.x b y fa ((ab U 18).g+1) u.sc (40+k) fq yv l1 l2 l3 _ _ _ lb wY yv fL.froz1 fL.kept1 Bh.froz1 Bh.kept1 aE hD (by simp only[qA,seval,h8]) (by simp only[qA,seval,cZ]) wW wW (by simp only[qA,seval,cJ])
  rw[←s1,←s2,←s3]at hR'
  have f8:aa W 8= .ptr .L 37 1 0:=by rw[q2 8 xW];simp only[qA,seval,h8]
  have f14:aa W 14= .ptr .S 2 1 0:=by rw[q2 14 xW];simp only[qA,seval,cZ]
  have f105:aa W 105=I:=by rw[q2 105 xW];simp only[qA,seval,L6]
  have f106:aa W 106= .i .i64 (c.co.length:Int):=by rw[q2 106 xW];simp only[qA,seval,Jm]
  have f107:aa W 107= .i .i64 (k:Int):=by rw[q2 107 xW];simp only[qA,seval,Jn]
  have p2:ab O 2=k2:=by rw[q3 2 xW xW];simp only[qA,seval,o2]
  have p3:ab O 3=k3:=by rw[q3 3 xW xW];simp only[qA,seval,o3]
  have p35:ab O 35=qb:=by rw[q3 35 xW xW];simp only[qA,seval,fB]
  simp only[qA,seval,f107,hw]
  refine⟨_,rfl,_,_,R',cF,c1',c2',c3',rfl,jf,hR', ?_, ?_, ?_, ?_, ?_, ?_, ?_, ?_, ?_⟩
  all_goals (simp only[qA,seval,f8,f14,f105,f106,p2,p3,p35,q4])
 ·rintro _ ⟨fr,U,R,kn,F,H,c3,rfl,jj,lb,h8,cZ,L6,Jm,Jn,o2,o3,fB,cJ⟩
  simp only[qA,seval,ko,Jm,Jn,Int.lt_irrefl]
  exact⟨_,_,sV,rfl,rfl,o2,o3,fB,R,kn,F,H,c3,rfl,jj,lb.mono yv,cJ⟩
def ad4:T→Bool
 | .ptr .S .. =>true
 |_=>false
theorem gb{k g off:Nat}:ad4 (.ptr .S k g off)=true:=nr rfl
def CW:T→FP
 | .ptr .S k _ _=>⟨false,[(.S,k)],[(.S,k)]⟩
 |_=>fO
section
variable{E:Env}{call:jP}{n:Nat}{fr:Fr}{lh:aD ah}{sh:List ah}{ds:List (List Nat×aF)}{br:List FP}{u:List Nat}
theorem qI{x v:aP}{m:Nat}(hx:ad4 (rd fr x)=true)(K:froz (rd fr v)=true):aK E call n ((u,⟨none,.st x v m,none⟩)::ds) br ⟨fr,lh,sh⟩=
  if meets u br (CW (rd fr x))=true then ke E call n ds (br++ [CW (rd fr x)]) (ai E call n [⟨none,.st x v m,none⟩] ⟨fr,lh,sh⟩)else none:=by
 refine mZ fun F=> ?_
 cases D:rd fr x with
 |ptr sp k g off=>
  cases sp with
  |L=>rw[D]at hx;simp[ad4]at hx
  |S=>
   by_cases J:(decide ((cellsOf (rd fr v)).length≠m)|| !noTup (rd fr v))=true
   ·obtain⟨w,I,hr,r⟩:=pS (q:= .fail) (by rfl) (by rw[dm];simp only[bz,nw,D];rw[if_pos J]) F
    simp[Q.run]at hr
   ·obtain⟨w,I,hr,r⟩:=pS (q:= .rd .S k (IM k g off m (rd fr v))) (by rfl) (by rw[dm];simp only[bz,nw,D];rw[if_neg J];rfl) F
    simp only[Q.run,Q.log,Q.asks]at hr r
    generalize N:(St.mk fr lh sh).get .S k=e at hr r
    obtain⟨O,ob⟩:=e
    unfold IM at hr r
    by_cases H:O=g
    ·cases ob with
     |none=>simp[H,Q.run]at hr
     |map ks V z=>simp[H,Q.run]at hr
     |cells cs W bx=>
      simp only[H,if_true]at hr r
      split at hr
      ·rename_i hc
       rw[if_pos hc]at r
       have hs:(bx&&(Sp.S==Sp.L))=false:=by cases bx <;> rfl
       rw[hs]at hr r
       simp only[Bool.false_eq_true,if_false]at hr r
       unfold aJ at hr r
       rw[jI K]at hr r
       simp only[Q.bind]at hr r
       split at hr
       ·simp[Q.run]at hr
       ·rename_i U
        rw[if_neg U]at r
        simp[Q.run]at hr
        obtain⟨rfl,rfl⟩:=hr
        rw[r (by simp[inB,xP,N])]
        rfl
      ·simp[Q.run]at hr
    ·simp only[H,if_false,Q.run]at hr
     cases hr
 |_=>rw[D]at hx;simp[ad4]at hx
theorem ed{k g off:Nat}:CW (.ptr .S k g off)=⟨false,[(.S,k)],[(.S,k)]⟩:=nr rfl
end
theorem nwd(c:Ct)(r O:T)(c7 wh:List T)(i7:IsSl r c.cs.length c7)(j7:dn c.cs c7)(i10:IsSl O c.cr.length wh)(yD:cu c.cr wh)(hlen:c.cr.length≤40)(jb: ∀u∈c.cr,Jl c.cs 1 u)(zT aT fT a8 a9 aA az nb D F H I J c3:T)(k2 k3 qb:ah)(BC:List (Nat×Int))(xo:jg c.cs BC)(R0:List ah)(l1 l2 l3 q1 q2 q3:RL)(Ha:eB R0 80 (ib D F H I J c3 .nilsl l1 l2 l3 q1 q2 q3 []))(fr:Fr)(lh:aD ah)(sh:List ah)(ft:sh=eA r (bH c.cs c.cs.length) BC R0)
  (U:aa fr 8= .ptr .L 37 1 0) (V:aa fr 14= .ptr .S 2 1 0) (FW:aa fr 156=O) (CX:aa fr 157= .i .i64 (c.cr.length:Int)) (Jo:aa fr 158= .i .i64 0) (X:ab lh 2=k2) (Y:ab lh 3=k3) (Z:ab lh 35=qb) (K:ab lh 37=⟨1,.cells (fy zT aT fT c r a8 a9 O aA az (fM D F H I J c3 .nilsl nb)) 0 true⟩):
  pT 232 js fr lh sh (.ext 8)∧
  (ab (im pE 232 js fr lh sh) 2=k2∧ab (im pE 232 js fr lh sh) 3=k3∧ab (im pE 232 js fr lh sh) 35=qb∧ ∃(R:List ah) (kn:List (Nat×Int)) (cr:T),iH pE 232 js fr lh sh=eA r (bH c.cs c.cs.length) kn R∧jg c.cs kn∧eB R 120 (ib D F H I J c3 cr l1 l2 l3 q1 q2 q3 (Rv c c.cr.length))∧ab (im pE 232 js fr lh sh) 37=⟨1,.cells (fy zT aT fT c r a8 a9 O aA az (fM D F H I J c3 cr nb)) 0 true⟩):=by
 refine cj (P:=fun bK aU aX=>ab aU 2=k2∧ab aU 3=k3∧ab aU 35=qb∧ ∃(R:List ah) (kn:List (Nat×Int)) (cr:T),aX=eA r (bH c.cs c.cs.length) kn R∧jg c.cs kn∧eB R 120 (ib D F H I J c3 cr l1 l2 l3 q1 q2 q3 (Rv c c.cr.length))∧ab aU 37=⟨1,.cells (fy zT aT fT c r a8 a9 O aA az (fM D F H I J c3 cr nb)) 0 true⟩)
  (cT (fun k st=> ∃(fr:Fr) (W:aD ah) (R:List ah) (kn:List (Nat×Int)) (cr:T),st=⟨fr,W,eA r (bH c.cs c.cs.length) kn R⟩∧jg c.cs kn∧eB R (80+k) (ib D F H I J c3 cr l1 l2 l3 q1 q2 q3 (Rv c k))∧aa fr 8= .ptr .L 37 1 0∧aa fr 14= .ptr .S 2 1 0∧aa fr 156=O∧aa fr 157= .i .i64 (c.cr.length:Int)∧aa fr 158= .i .i64 (k:Int)∧ab W 2=k2∧ab W 3=k3∧ab W 35=qb∧ab W 37=⟨1,.cells (fy zT aT fT c r a8 a9 O aA az (fM D F H I J c3 cr nb)) 0 true⟩) _ c.cr.length ?_ ?_ 0 _ (Nat.zero_le _) ⟨fr,lh,R0,BC,.nilsl,by rw[ft],xo,Ha,U,V,FW,CX,Jo,X,Y,Z,K⟩)
 ·rintro k _ hk ⟨fr,W,R,kn,cr,rfl,jj,lb,U,V,FW,CX,Jo,X,Y,Z,K⟩
  left
  have hk':(k:Int)<c.cr.length:=yv
  have hw:=aG (k:=k) yv
  obtain⟨b,cb,rr,hia,fL,rP,hb⟩:=oZ i10 yD k hk
  obtain⟨fq,N,t,hty⟩:=jb c.cr[k] (List.getElem_mem hk)
  have BD:=(iz N).1
  obtain⟨cf,cF,aE,wY,jf,_⟩:=FT c.cs r R c.cs.length (Nat.le_refl _) (FU c.cs r R c7 i7 j7) 1 (.inr fq) c.cr[k] t kn _ jj hb BD (ic N) (by rw[xp];exact hty)
  have hsz:=zl (fC c.cs) 1 c.cr[k]
  have s1:=Yj c hk
  generalize c.cr[k]=u at*
  generalize comp (fC c.cs) 1 u=y at*
  obtain⟨fa,fc,rfl,Bh,XD⟩:=wY.cells
  have vG:wj 3 [([],y)] [.i .i64 y.op,.i .i64 y.num,fa]:=by
   have:=(wj.nil 3).app3 ([],y) _ wY (by show y.sz≤1000;omega)
   simpa using this
  have Cl:=FV
  unfold fy aY fM at K ⊢
  simp only[List.cons_append,List.nil_append]at K ⊢
  rcases lb.1 (3,cr,Rv c k) (by simp[ib])with⟨hnil,wi⟩|⟨i,g,n,cs,hv,hE,hi,hn,hB,hfz⟩
  ·simp only at hnil wi
   subst hnil
   rw[wi,List.nil_append]at s1
   have nP:=(lb.mono (Nat.le_succ (80+k))).new yv 6 (by simp[ib]) (sz:=3) rfl [.i .i64 y.op,.i .i64 y.num,fa] rfl _ vG
   simp only[qA,seval,repl,bp,Bj,aH,fK,eJ,dx,js,U,V,FW,CX,Jo,K,hk',hia,hw,aE,l7,mU,fL.kept1,Bh.froz1,cI,cX,aZ,cL,dg,D9,nS,Ea,Cl,cD,cM,pc,Nat.lt_succ_self,qI,gb,ed]
   refine⟨_,rfl,_,_,bI R R.length ⟨1,.cells [.i .i64 y.op,.i .i64 y.num,fa] 0 false⟩,cF,.isl .S (R.length+7) 1 0 1 3,rfl,jf,(by rw[s1];exact nP), ?_, ?_, ?_, ?_, ?_, ?_, ?_, ?_, ?_⟩
   all_goals (simp only[qA,seval,U,V,FW,CX,X,Y,Z])
  ·simp only at hv
   subst hv
   have pb:=lb.app 6 (by simp[ib]) (sz:=3) rfl rfl hE hi hn hB [.i .i64 y.op,.i .i64 y.num,fa] rfl _ (hfz.app3 ([],y) _ wY (by show y.sz≤1000;omega)) (g+1)
   have sd:(n+1)*40≤roomy:=zp yv
   simp only[qA,seval,repl,bp,Bj,aH,fK,eJ,dx,js,U,V,FW,CX,Jo,K,hk',hia,hw,aE,l7,mU,fL.kept1,Bh.froz1,cI,cX,aZ,dC,eb,cw,D9,nS,Ea,cD,cM,ga,pd,Nat.lt_succ_self,qI,gb,ed,hE,hn,sd]
   refine⟨_,rfl,_,_,bI R i ⟨g+1,.cells (cs++ [.i .i64 y.op,.i .i64 y.num,fa]) 0 false⟩,cF,.isl .S (i+7) (g+1) 0 (n+1) 3,rfl,jf,(by rw[s1];exact pb), ?_, ?_, ?_, ?_, ?_, ?_, ?_, ?_, ?_⟩
   all_goals (simp only[qA,seval,U,V,FW,CX,X,Y,Z])
 ·rintro _ ⟨fr,W,R,kn,cr,rfl,jj,lb,U,V,FW,CX,Jo,X,Y,Z,K⟩
  simp only[qA,seval,js,CX,Jo,Int.lt_irrefl]
  exact⟨_,_,sV,rfl,rfl,X,Y,Z,R,kn,cr,rfl,jj,lb.mono yv,K⟩
theorem Jp{lh:aD ah}{sh:List ah}{k g off r:Nat}{cs:List T}(D:aI sh k=⟨g,.cells cs r false⟩)(hc:cs.all froz1=true):fzV lh sh false (.ptr .S k g off)=some (.vp (cs.drop off),[(.S,k,⟨g,.cells cs cs.length false⟩)]):=by
 have F:(cs.drop off).all froz1=true:=by
  rw[List.all_eq_true]at hc ⊢
  exact fun x hx=>hc x (List.mem_of_mem_drop hx)
 have H:(St.mk .nil lh sh).get .S k=aI sh k:=rfl
 unfold fzV aJ
 rw[fz]
 simp only[Bool.false_and,Bool.false_eq_true,if_false,Q.run,H,D,if_true]
 rw[iy _ F]
 rfl
theorem awS{f:Fm}{c:List T}(h:ja f c):c.all froz1=true:=by
 obtain⟨a,r,rfl,h1,h2⟩:=h.cells
 simp[h1.froz1,uY]
theorem aio: ∀{l:List Fm} {cs:List T},bf l cs→cs.all froz1=true
 | [],cs,h=>by rw[bf]at h;rw[h];rfl
 |f::l,cs,h=>by
  rw[bf]at h
  obtain⟨c,r,h1,h2,h3⟩:=h
  rw[h1,List.all_append,awS h2,aio h3];rfl
theorem awT: ∀{l:List (List Nat×Fm)} {cs:List T},aB RlR l cs→cs.all froz1=true
 | [],cs,h=>by rw[aB]at h;rw[h];rfl
 |u::l,cs,h=>by
  obtain⟨c,r,rfl,⟨D,rfl,h2⟩,h3⟩:=h
  rw[List.all_append,awT h3,List.all_cons,awS h2];rfl
theorem wj.froz{sz:Nat}{l:RL}{cs:List T}(h:wj sz l cs):cs.all froz1=true:=by
 have h1:=h.1
 split at h1
 ·exact awT h1
 ·exact aio h1
theorem wj.at4{l:RL}{cs:List T}(h:wj 4 l cs){n k:Nat}(H:n*4=cs.length)(hk:k<n): ∃(f:Fm) (b:T) (F r:List T),cs.drop (k*4+1)= .i .i64 f.op:: .i .i64 f.num::b::r∧IsSl b f.args.length F∧bf f.args F∧f.sz≤1000:=by
 have h2:=h.2
 have h1:=h.1
 rw[if_pos rfl]at h1
 have I:=aB.len RlR.len h1
 have D:k<l.length:=yv
 obtain⟨c,r,h3,J,rfl,h4⟩:=aB.drop RlR.len k D h1
 obtain⟨b,F,rfl,h5,h6⟩:=h4.cells
 refine⟨l[k].2,b,F,r, ?_,h5,h6,h2 _ (List.getElem_mem D)⟩
 rw[←List.drop_drop,h3]
 rfl
theorem wj.at3{l:RL}{cs:List T}(h:wj 3 l cs){n k:Nat}(I:n*3=cs.length)(hk:k<n): ∃(f:Fm) (b:T) (F r:List T),cs.drop (k*3)= .i .i64 f.op:: .i .i64 f.num::b::r∧IsSl b f.args.length F∧bf f.args F∧f.sz≤1000:=by
 have h2:=h.2
 have h1:=h.1
 rw[if_neg xW]at h1
 have H:=bf.len h1
 rw[List.length_map]at H
 have D:k<l.length:=yv
 have Yg:k<(l.map Prod.snd).length:=by simpa using D
 obtain⟨c,r,h3,h4,_⟩:=bf.drop k Yg h1
 rw[List.getElem_map]at h4
 obtain⟨b,F,rfl,h5,h6⟩:=h4.cells
 exact⟨l[k].2,b,F,r,h3,h5,h6,h2 _ (List.getElem_mem D)⟩
def RwW(R:List ah)(p:Nat×T×RL):Prop:=(p.2.1= .nilsl∧p.2.2= [])∨ ∃i g n cs r,p.2.1= .isl .S (i+7) g 0 n p.1∧aI R i=⟨g,.cells cs r false⟩∧i<R.length∧n*p.1=cs.length∧n≤1000∧wj p.1 p.2.2 cs
def tp(R:List ah)(r:List (Nat×T×RL)):Prop:= ∀p∈r,RwW R p
theorem eB.toW{R:List ah}{B:Nat}{r:List (Nat×T×RL)}(h:eB R B r)(F:B≤1000):tp R r:=fun p D=>by
 rcases h.1 p D with h|⟨i,g,n,cs,h1,h2,h3,h4,h5,h6⟩
 ·exact .inl h
 ·exact .inr ⟨i,g,n,cs,0,h1,h2,h3,h4,by omega,h6⟩
theorem aDj(c:Ct)(F a8 a9 aw aA az zT aT fT I D J K N c3 cr:T)(m:List (List Nat×Nat))(kn:List (Nat×Int))(Yl:Bool)(R0:List ah)(l1 l2 l3 e1 e2 e3 er:RL)(Ha:tp R0 (ib I D J K N c3 cr l1 l2 l3 e1 e2 e3 er))(O:Nat)(CI:(D= .nilsl∧O=0)∨ ∃i g,D= .isl .S (i+7) g 0 O 4)(CH:O≤1000)(k2 k3 qb:ah)(fr:Fr)(lh:aD ah)(sh:List ah)(ft:sh=eA F m kn R0)
  (X:aa fr 8= .ptr .L 37 1 0) (U:aa fr 181= .i .i64 (O:Int)) (hi:aa fr 182= .i .i64 0) (Z:ab lh 2=k2) (o3:ab lh 3=k3) (fB:ab lh 35=qb) (V:ab lh 37=⟨1,.cells (fy zT aT fT c F a8 a9 aw aA az (fM I D J K N c3 cr (.b Yl))) 0 true⟩):
  pT 232 jr fr lh sh (.ext 10)∧
  (ab (im pE 232 jr fr lh sh) 2=k2∧ab (im pE 232 jr fr lh sh) 3=k3∧ab (im pE 232 jr fr lh sh) 35=qb∧ ∃(R:List ah) (H:Bool),iH pE 232 jr fr lh sh=eA F m kn R∧tp R (ib I D J K N c3 cr l1 l2 l3 e1 e2 e3 er)∧ab (im pE 232 jr fr lh sh) 37=⟨1,.cells (fy zT aT fT c F a8 a9 aw aA az (fM I D J K N c3 cr (.b H))) 0 true⟩):=by
 refine cj (P:=fun bK aU aX=>ab aU 2=k2∧ab aU 3=k3∧ab aU 35=qb∧ ∃(R:List ah) (H:Bool),aX=eA F m kn R∧tp R (ib I D J K N c3 cr l1 l2 l3 e1 e2 e3 er)∧ab aU 37=⟨1,.cells (fy zT aT fT c F a8 a9 aw aA az (fM I D J K N c3 cr (.b H))) 0 true⟩)
  (cT (fun k st=> ∃(fr:Fr) (Y:aD ah) (R:List ah) (H:Bool),st=⟨fr,Y,eA F m kn R⟩∧tp R (ib I D J K N c3 cr l1 l2 l3 e1 e2 e3 er)∧aa fr 8= .ptr .L 37 1 0∧aa fr 181= .i .i64 (O:Int)∧aa fr 182= .i .i64 (k:Int)∧ab Y 2=k2∧ab Y 3=k3∧ab Y 35=qb∧ab Y 37=⟨1,.cells (fy zT aT fT c F a8 a9 aw aA az (fM I D J K N c3 cr (.b H))) 0 true⟩) _ O ?_ ?_ 0 _ (Nat.zero_le _) ⟨fr,lh,R0,Yl,by rw[ft],Ha,X,U,hi,Z,o3,fB,V⟩)
 ·rintro k _ hk ⟨fr,Y,R,H,rfl,lb,X,U,hi,Z,o3,fB,V⟩
  left
  have hk':(k:Int)<O:=yv
  have hw:=aG (k:=k) yv
  have BE: ∃i g,D= .isl .S (i+7) g 0 O 4:=by
   rcases CI with⟨_,h⟩|h
   ·omega
   ·exact h
  obtain⟨i0,g0,BE⟩:=BE
  rcases lb (4,D,l2) (by simp[ib])with⟨W,_⟩|⟨i,g,n,cs,wm,hv,hE,lZ,hn,hB,hfz⟩
  ·simp only[BE]at W;cases W
  simp only[BE]at hv
  injection hv with _ q1 q2 _ q3 _
  have q1:i0=i:=yv
  subst q1 q2 q3
  obtain⟨f,b,cb,r,hdr,hb,SQ,aDk⟩:=hfz.at4 hn hk
  have hus:=ail (p:=1) f b cb r hb SQ yv
  have hcz:=hfz.froz
  have hz: ∀lh,fzV lh (eA F m kn R) false (.ptr .S (i0+7) g0 (k*4+1))=some (.vp (.i .i64 f.op:: .i .i64 f.num::b::r),[(.S,i0+7,⟨g0,.cells cs cs.length false⟩)]):=fun lh=>by
   rw[Jp (by rw[D9];exact hE) hcz,hdr]
  have hzL: ∀lh,yU lh (eA F m kn R) false [.ptr .S (i0+7) g0 (k*4+1),.i .i64 1]=some ([.vp (.i .i64 f.op:: .i .i64 f.num::b::r),.i .i64 1],[(.S,i0+7,⟨g0,.cells cs cs.length false⟩)]):=fun lh=>by
   rw[nL,nL,Fi,hz lh,qv (by rfl)];rfl
  have fq: ∀x,scalar (.b x)=true:=fun _=>rfl
  unfold fy aY fM at V ⊢
  simp only[List.cons_append,List.nil_append,BE]at V ⊢
  cases H with
  |true=>
   simp only[qA,seval,jr,X,U,hi,V,hk',hw]
   refine⟨_,rfl,_,_,R,true,rfl,(by rw[←BE];exact lb), ?_, ?_, ?_, ?_, ?_, ?_, ?_⟩
   all_goals (simp only[qA,seval,X,U,Z,o3,fB])
  |false=>
   simp only[qA,seval,eO,jr,X,U,hi,V,hk',hw,hzL,hus,fq,as2,hk]
   refine⟨_,rfl,_,_,R,f.us 1,rfl,(by rw[←BE];exact lb), ?_, ?_, ?_, ?_, ?_, ?_, ?_⟩
   all_goals (simp only[qA,seval,X,U,Z,o3,fB])
 ·rintro _ ⟨fr,Y,R,H,rfl,lb,X,U,hi,Z,o3,fB,V⟩
  simp only[qA,seval,jr,U,hi,Int.lt_irrefl]
  exact⟨_,_,sV,rfl,rfl,Z,o3,fB,R,H,rfl,lb,V⟩
theorem aDm(c:Ct)(F a8 a9 aw aA az zT aT fT I J K N D c3 cr:T)(m:List (List Nat×Nat))(kn:List (Nat×Int))(Yl:Bool)(R0:List ah)(l1 l2 l3 e1 e2 e3 er:RL)(Ha:tp R0 (ib I J K N D c3 cr l1 l2 l3 e1 e2 e3 er))(O:Nat)(CI:(D= .nilsl∧O=0)∨ ∃i g,D= .isl .S (i+7) g 0 O 3)(CH:O≤1000)(k2 k3 qb:ah)(fr:Fr)(lh:aD ah)(sh:List ah)(ft:sh=eA F m kn R0)
  (X:aa fr 8= .ptr .L 37 1 0) (U:aa fr 209= .i .i64 (O:Int)) (hi:aa fr 210= .i .i64 0) (Z:ab lh 2=k2) (o3:ab lh 3=k3) (fB:ab lh 35=qb) (V:ab lh 37=⟨1,.cells (fy zT aT fT c F a8 a9 aw aA az (fM I J K N D c3 cr (.b Yl))) 0 true⟩):
  pT 232 jq fr lh sh (.ext 12)∧
  (ab (im pE 232 jq fr lh sh) 2=k2∧ab (im pE 232 jq fr lh sh) 3=k3∧ab (im pE 232 jq fr lh sh) 35=qb∧ ∃(R:List ah) (H:Bool),iH pE 232 jq fr lh sh=eA F m kn R∧tp R (ib I J K N D c3 cr l1 l2 l3 e1 e2 e3 er)∧ab (im pE 232 jq fr lh sh) 37=⟨1,.cells (fy zT aT fT c F a8 a9 aw aA az (fM I J K N D c3 cr (.b H))) 0 true⟩):=by
 refine cj (P:=fun bK aU aX=>ab aU 2=k2∧ab aU 3=k3∧ab aU 35=qb∧ ∃(R:List ah) (H:Bool),aX=eA F m kn R∧tp R (ib I J K N D c3 cr l1 l2 l3 e1 e2 e3 er)∧ab aU 37=⟨1,.cells (fy zT aT fT c F a8 a9 aw aA az (fM I J K N D c3 cr (.b H))) 0 true⟩)
  (cT (fun k st=> ∃(fr:Fr) (Y:aD ah) (R:List ah) (H:Bool),st=⟨fr,Y,eA F m kn R⟩∧tp R (ib I J K N D c3 cr l1 l2 l3 e1 e2 e3 er)∧aa fr 8= .ptr .L 37 1 0∧aa fr 209= .i .i64 (O:Int)∧aa fr 210= .i .i64 (k:Int)∧ab Y 2=k2∧ab Y 3=k3∧ab Y 35=qb∧ab Y 37=⟨1,.cells (fy zT aT fT c F a8 a9 aw aA az (fM I J K N D c3 cr (.b H))) 0 true⟩) _ O ?_ ?_ 0 _ (Nat.zero_le _) ⟨fr,lh,R0,Yl,by rw[ft],Ha,X,U,hi,Z,o3,fB,V⟩)
 ·rintro k _ hk ⟨fr,Y,R,H,rfl,lb,X,U,hi,Z,o3,fB,V⟩
  left
  have hk':(k:Int)<O:=yv
  have hw:=aG (k:=k) yv
  have BE: ∃i g,D= .isl .S (i+7) g 0 O 3:=by
   rcases CI with⟨_,h⟩|h
   ·omega
   ·exact h
  obtain⟨i0,g0,BE⟩:=BE
  rcases lb (3,D,e2) (by simp[ib])with⟨W,_⟩|⟨i,g,n,cs,wm,hv,hE,lZ,hn,hB,hfz⟩
  ·simp only[BE]at W;cases W
  simp only[BE]at hv
  injection hv with _ q1 q2 _ q3 _
  have q1:i0=i:=yv
  subst q1 q2 q3
  obtain⟨f,b,cb,r,hdr,hb,SQ,aDk⟩:=hfz.at3 hn hk
  have hus:=ail (p:=1) f b cb r hb SQ yv
  have hcz:=hfz.froz
  have hz: ∀lh,fzV lh (eA F m kn R) false (.ptr .S (i0+7) g0 (k*3))=some (.vp (.i .i64 f.op:: .i .i64 f.num::b::r),[(.S,i0+7,⟨g0,.cells cs cs.length false⟩)]):=fun lh=>by
   rw[Jp (by rw[D9];exact hE) hcz,hdr]
  have hzL: ∀lh,yU lh (eA F m kn R) false [.ptr .S (i0+7) g0 (k*3),.i .i64 1]=some ([.vp (.i .i64 f.op:: .i .i64 f.num::b::r),.i .i64 1],[(.S,i0+7,⟨g0,.cells cs cs.length false⟩)]):=fun lh=>by
   rw[nL,nL,Fi,hz lh,qv (by rfl)];rfl
  have fq: ∀x,scalar (.b x)=true:=fun _=>rfl
  unfold fy aY fM at V ⊢
  simp only[List.cons_append,List.nil_append,BE]at V ⊢
  cases H with
  |true=>
   simp only[qA,seval,jq,X,U,hi,V,hk',hw]
   refine⟨_,rfl,_,_,R,true,rfl,(by rw[←BE];exact lb), ?_, ?_, ?_, ?_, ?_, ?_, ?_⟩
   all_goals (simp only[qA,seval,X,U,Z,o3,fB])
  |false=>
   simp only[qA,seval,eO,jq,X,U,hi,V,hk',hw,hzL,hus,fq,as2,hk]
   refine⟨_,rfl,_,_,R,f.us 1,rfl,(by rw[←BE];exact lb), ?_, ?_, ?_, ?_, ?_, ?_, ?_⟩
   all_goals (simp only[qA,seval,X,U,Z,o3,fB])
 ·rintro _ ⟨fr,Y,R,H,rfl,lb,X,U,hi,Z,o3,fB,V⟩
  simp only[qA,seval,jq,U,hi,Int.lt_irrefl]
  exact⟨_,_,sV,rfl,rfl,Z,o3,fB,R,H,rfl,lb,V⟩
theorem aDn{fr:Fr}{lh:aD ah}{sh:List ah}{D:Option (Out×St)}(l:List Zo)(I:(l.map Zo.nm).Nodup)(a:T)(J:List T)(W:IsSl a l.length J)(hc:aB Ci l J)(H:l.length≤100)(K c3 zQ M0:ah)(X:DC pE 232 (.loop jt) ⟨fr,lh,sh⟩=D)
  (Y:aa fr 9= .mp .L 38 1) (N:aa fr 40=a) (Yf:aa fr 41= .i .i64 (l.length:Int)) (O:aa fr 42= .i .i64 0) (Z:ab lh 2=K) (o3:ab lh 3=c3) (fB:ab lh 35=zQ) (cJ:ab lh 37=M0) (Jk:ab lh 38=⟨1,.map [] [] false⟩):
  ∃(U:Fr) (F:aD ah) (V:List ah),D=some (.ext 0,⟨U,F,V⟩)∧(ab F 2=K∧ab F 3=c3∧ab F 35=zQ∧ab F 37=M0∧(∃m,ab F 38=⟨1,.map (m.map fun p=>sK p.1) (m.map fun p=>T.agg p.2) false⟩∧L5 l m∧m.map Prod.fst=l.map Zo.nm)∧V=sh)∧ ∀s,(ch (.loop jt)).contains s=false→aa U s=aa fr s:=by
 obtain⟨e,r⟩:=nwz l I a J W hc H K c3 zQ M0 fr lh sh Y N Yf O Z o3 fB cJ Jk
 exact⟨_,_,_,X.symm.trans e,r,fun s hs=>fu e s hs⟩
theorem aDo{fr:Fr}{lh:aD ah}{sh:List ah}{D:Option (Out×St)}(l:List Ap)(J:(l.map Ap.cd).Nodup)(a:T)(K:List T)(ha:IsSl a l.length K)(hc:aB L3 l K)(F:l.length≤100)(H:List Zo)(m:List (List Nat×List T))(N:L5 H m∧m.map Prod.fst=H.map Zo.nm)(O: ∀u∈l,u.zn∈H.map Zo.nm)(U V W:T)(c:Ct)(X Y Z aw aA az:T)(vs:List T)(c2 c3:ah)(hD:DC pE 232 (.loop kq) ⟨fr,lh,sh⟩=D)
  (h8:aa fr 8= .ptr .L 37 1 0) (h9:aa fr 9= .mp .L 38 1) (SP:aa fr 52=a) (D4:aa fr 53= .i .i64 (l.length:Int)) (G8:aa fr 54= .i .i64 0) (o2:ab lh 2=c2) (o3:ab lh 3=c3) (fB:ab lh 35=⟨1,.map [] [] false⟩) (cJ:ab lh 37=⟨1,.cells (fy U V W c X Y Z aw aA az vs) 0 true⟩) (Jk:ab lh 38=⟨1,.map (m.map fun p=>sK p.1) (m.map fun p=>T.agg p.2) false⟩):
  ∃(bK:Fr) (I:aD ah) (aX:List ah),D=some (.ext 2,⟨bK,I,aX⟩)∧(ab I 2=c2∧ab I 3=c3∧ab I 37=⟨1,.cells (fy U V W c X Y Z aw aA az vs) 0 true⟩∧(∃q,ab I 35=⟨1,.map (q.map fun p=>sK p.1) (q.map fun p=>T.agg p.2) false⟩∧Rt H l q∧q.map Prod.fst=l.map Ap.cd)∧aX=sh)∧ ∀s,(ch (.loop kq)).contains s=false→aa bK s=aa fr s:=by
 obtain⟨e,r⟩:=nwa l J a K ha hc F H m N O U V W c X Y Z aw aA az vs c2 c3 fr lh sh h8 h9 SP D4 G8 o2 o3 fB cJ Jk
 exact⟨_,_,_,hD.symm.trans e,r,fun s hs=>fu e s hs⟩
theorem aDp{fr:Fr}{lh:aD ah}{sh:List ah}{D:Option (Out×St)}(c:Ct)(F H:T)(c7 c8:List T)(i7:IsSl F c.cs.length c7)(j7:dn c.cs c7)(i8:IsSl H c.ru.length c8)(j8:aB SG c.ru c8)(I:c.ru.length≤40)(jb: ∀u∈c.ru,Jl c.cs u.sc u.x)(K N O U V W X Y:T)(Z c3 zQ:ah)(BC:List (Nat×Int))(xo:jg c.cs BC)(hD:DC pE 232 (.loop fN) ⟨fr,lh,sh⟩=D)(ft:sh=eA F (bH c.cs c.cs.length) BC [])
  (h8:aa fr 8= .ptr .L 37 1 0) (cZ:aa fr 14= .ptr .S 2 1 0) (Eb:aa fr 73=H) (Ck:aa fr 74= .i .i64 (c.ru.length:Int)) (Oo:aa fr 75= .i .i64 0) (o2:ab lh 2=Z) (o3:ab lh 3=c3) (fB:ab lh 35=zQ) (cJ:ab lh 37=⟨1,.cells (fy K N O c F H U V W X (fM .nilsl .nilsl .nilsl .nilsl .nilsl .nilsl .nilsl Y)) 0 true⟩):
  ∃(bK:Fr) (J:aD ah) (aX:List ah),D=some (.ext 4,⟨bK,J,aX⟩)∧(ab J 2=Z∧ab J 3=c3∧ab J 35=zQ∧ ∃(R:List ah) (kn:List (Nat×Int)) (r1 r2 r3:T),aX=eA F (bH c.cs c.cs.length) kn R∧jg c.cs kn∧eB R 40 (ib r1 r2 r3 .nilsl .nilsl .nilsl .nilsl (vD c 1 c.ru.length) (vD c 2 c.ru.length) (vD c 3 c.ru.length) [] [] [] [])∧ab J 37=⟨1,.cells (fy K N O c F H U V W X (fM r1 r2 r3 .nilsl .nilsl .nilsl .nilsl Y)) 0 true⟩)∧ ∀s,(ch (.loop fN)).contains s=false→aa bK s=aa fr s:=by
 obtain⟨e,r⟩:=nwr c F H c7 c8 i7 j7 i8 j8 I jb K N O U V W X Y Z c3 zQ BC xo fr lh sh ft h8 cZ Eb Ck Oo o2 o3 fB cJ
 exact⟨_,_,_,hD.symm.trans e,r,fun s hs=>fu e s hs⟩
theorem aDq{fr:Fr}{lh:aD ah}{sh:List ah}{D:Option (Out×St)}(c:Ct)(F H:T)(c7 c9:List T)(i7:IsSl F c.cs.length c7)(j7:dn c.cs c7)(i9:IsSl H c.co.length c9)(j9:aB CoR c.co c9)(I:c.co.length≤40)(jb: ∀u∈c.co,Jl c.cs u.sc u.x)(U V W X Y Z az nb J K N:T)(k2 k3 qb:ah)(BC:List (Nat×Int))(xo:jg c.cs BC)(R0:List ah)(l1 l2 l3:RL)(Ha:eB R0 40 (ib J K N .nilsl .nilsl .nilsl .nilsl l1 l2 l3 [] [] [] []))(hD:DC pE 232 (.loop ko) ⟨fr,lh,sh⟩=D)(ft:sh=eA F (bH c.cs c.cs.length) BC R0)
  (h8:aa fr 8= .ptr .L 37 1 0) (cZ:aa fr 14= .ptr .S 2 1 0) (L6:aa fr 105=H) (Jm:aa fr 106= .i .i64 (c.co.length:Int)) (Jn:aa fr 107= .i .i64 0) (o2:ab lh 2=k2) (o3:ab lh 3=k3) (fB:ab lh 35=qb) (cJ:ab lh 37=⟨1,.cells (fy U V W c F X H Y Z az (fM J K N .nilsl .nilsl .nilsl .nilsl nb)) 0 true⟩):
  ∃(bK:Fr) (O:aD ah) (aX:List ah),D=some (.ext 6,⟨bK,O,aX⟩)∧(ab O 2=k2∧ab O 3=k3∧ab O 35=qb∧ ∃(R:List ah) (kn:List (Nat×Int)) (c1 c2 c3:T),aX=eA F (bH c.cs c.cs.length) kn R∧jg c.cs kn∧eB R 80 (ib J K N c1 c2 c3 .nilsl l1 l2 l3 (tm c 1 c.co.length) (tm c 2 c.co.length) (tm c 3 c.co.length) [])∧ab O 37=⟨1,.cells (fy U V W c F X H Y Z az (fM J K N c1 c2 c3 .nilsl nb)) 0 true⟩)∧ ∀s,(ch (.loop ko)).contains s=false→aa bK s=aa fr s:=by
 obtain⟨e,r⟩:=nwc c F H c7 c9 i7 j7 i9 j9 I jb U V W X Y Z az nb J K N k2 k3 qb BC xo R0 l1 l2 l3 Ha fr lh sh ft h8 cZ L6 Jm Jn o2 o3 fB cJ
 exact⟨_,_,_,hD.symm.trans e,r,fun s hs=>fu e s hs⟩
theorem aDr{fr:Fr}{lh:aD ah}{sh:List ah}{D:Option (Out×St)}(c:Ct)(F H:T)(c7 wh:List T)(i7:IsSl F c.cs.length c7)(j7:dn c.cs c7)(W:IsSl H c.cr.length wh)(yD:cu c.cr wh)(I:c.cr.length≤40)(jb: ∀u∈c.cr,Jl c.cs 1 u)(X Y Z a8 a9 aA az nb J K N O U c3:T)(k2 k3 qb:ah)(BC:List (Nat×Int))(xo:jg c.cs BC)(R0:List ah)(l1 l2 l3 q1 q2 q3:RL)(Ha:eB R0 80 (ib J K N O U c3 .nilsl l1 l2 l3 q1 q2 q3 []))(hD:DC pE 232 (.loop js) ⟨fr,lh,sh⟩=D)(ft:sh=eA F (bH c.cs c.cs.length) BC R0)
  (h8:aa fr 8= .ptr .L 37 1 0) (cZ:aa fr 14= .ptr .S 2 1 0) (FW:aa fr 156=H) (CX:aa fr 157= .i .i64 (c.cr.length:Int)) (Jo:aa fr 158= .i .i64 0) (o2:ab lh 2=k2) (o3:ab lh 3=k3) (fB:ab lh 35=qb) (cJ:ab lh 37=⟨1,.cells (fy X Y Z c F a8 a9 H aA az (fM J K N O U c3 .nilsl nb)) 0 true⟩):
  ∃(bK:Fr) (V:aD ah) (aX:List ah),D=some (.ext 8,⟨bK,V,aX⟩)∧(ab V 2=k2∧ab V 3=k3∧ab V 35=qb∧ ∃(R:List ah) (kn:List (Nat×Int)) (cr:T),aX=eA F (bH c.cs c.cs.length) kn R∧jg c.cs kn∧eB R 120 (ib J K N O U c3 cr l1 l2 l3 q1 q2 q3 (Rv c c.cr.length))∧ab V 37=⟨1,.cells (fy X Y Z c F a8 a9 H aA az (fM J K N O U c3 cr nb)) 0 true⟩)∧ ∀s,(ch (.loop js)).contains s=false→aa bK s=aa fr s:=by
 obtain⟨e,r⟩:=nwd c F H c7 wh i7 j7 W yD I jb X Y Z a8 a9 aA az nb J K N O U c3 k2 k3 qb BC xo R0 l1 l2 l3 q1 q2 q3 Ha fr lh sh ft h8 cZ FW CX Jo o2 o3 fB cJ
 exact⟨_,_,_,hD.symm.trans e,r,fun s hs=>fu e s hs⟩
theorem awU{fr:Fr}{lh:aD ah}{sh:List ah}{D:Option (Out×St)}(c:Ct)(H V W X Y Z zT aT fT I F J K N c3 cr:T)(m:List (List Nat×Nat))(kn:List (Nat×Int))(Yl:Bool)(R0:List ah)(l1 l2 l3 e1 e2 e3 er:RL)(Ha:tp R0 (ib I F J K N c3 cr l1 l2 l3 e1 e2 e3 er))(O:Nat)(CI:(F= .nilsl∧O=0)∨ ∃i g,F= .isl .S (i+7) g 0 O 4)(CH:O≤1000)(k2 k3 qb:ah)(hD:DC pE 232 (.loop jr) ⟨fr,lh,sh⟩=D)(ft:sh=eA H m kn R0)
  (h8:aa fr 8= .ptr .L 37 1 0) (hl:aa fr 181= .i .i64 (O:Int)) (hi:aa fr 182= .i .i64 0) (o2:ab lh 2=k2) (o3:ab lh 3=k3) (fB:ab lh 35=qb) (cJ:ab lh 37=⟨1,.cells (fy zT aT fT c H V W X Y Z (fM I F J K N c3 cr (.b Yl))) 0 true⟩):
  ∃(bK:Fr) (U:aD ah) (aX:List ah),D=some (.ext 10,⟨bK,U,aX⟩)∧(ab U 2=k2∧ab U 3=k3∧ab U 35=qb∧ ∃(R:List ah) (nb:Bool),aX=eA H m kn R∧tp R (ib I F J K N c3 cr l1 l2 l3 e1 e2 e3 er)∧ab U 37=⟨1,.cells (fy zT aT fT c H V W X Y Z (fM I F J K N c3 cr (.b nb))) 0 true⟩)∧ ∀s,(ch (.loop jr)).contains s=false→aa bK s=aa fr s:=by
 obtain⟨e,r⟩:=aDj c H V W X Y Z zT aT fT I F J K N c3 cr m kn Yl R0 l1 l2 l3 e1 e2 e3 er Ha O CI CH k2 k3 qb fr lh sh ft h8 hl hi o2 o3 fB cJ
 exact⟨_,_,_,hD.symm.trans e,r,fun s hs=>fu e s hs⟩
theorem awV{fr:Fr}{lh:aD ah}{sh:List ah}{D:Option (Out×St)}(c:Ct)(H V W X Y Z zT aT fT I J K N F c3 cr:T)(m:List (List Nat×Nat))(kn:List (Nat×Int))(Yl:Bool)(R0:List ah)(l1 l2 l3 e1 e2 e3 er:RL)(Ha:tp R0 (ib I J K N F c3 cr l1 l2 l3 e1 e2 e3 er))(O:Nat)(CI:(F= .nilsl∧O=0)∨ ∃i g,F= .isl .S (i+7) g 0 O 3)(CH:O≤1000)(k2 k3 qb:ah)(hD:DC pE 232 (.loop jq) ⟨fr,lh,sh⟩=D)(ft:sh=eA H m kn R0)
  (h8:aa fr 8= .ptr .L 37 1 0) (hl:aa fr 209= .i .i64 (O:Int)) (hi:aa fr 210= .i .i64 0) (o2:ab lh 2=k2) (o3:ab lh 3=k3) (fB:ab lh 35=qb) (cJ:ab lh 37=⟨1,.cells (fy zT aT fT c H V W X Y Z (fM I J K N F c3 cr (.b Yl))) 0 true⟩):
  ∃(bK:Fr) (U:aD ah) (aX:List ah),D=some (.ext 12,⟨bK,U,aX⟩)∧(ab U 2=k2∧ab U 3=k3∧ab U 35=qb∧ ∃(R:List ah) (nb:Bool),aX=eA H m kn R∧tp R (ib I J K N F c3 cr l1 l2 l3 e1 e2 e3 er)∧ab U 37=⟨1,.cells (fy zT aT fT c H V W X Y Z (fM I J K N F c3 cr (.b nb))) 0 true⟩)∧ ∀s,(ch (.loop jq)).contains s=false→aa bK s=aa fr s:=by
 obtain⟨e,r⟩:=aDm c H V W X Y Z zT aT fT I J K N F c3 cr m kn Yl R0 l1 l2 l3 e1 e2 e3 er Ha O CI CH k2 k3 qb fr lh sh ft h8 hl hi o2 o3 fB cJ
 exact⟨_,_,_,hD.symm.trans e,r,fun s hs=>fu e s hs⟩
theorem Ym{R:List ah}{r:List (Nat×T×RL)}{sz:Nat}{v:T}(l:RL)(h:tp R r)(D:(sz,v,l)∈r): ∃n:Nat,((v= .nilsl∧n=0)∨ ∃i g,v= .isl .S (i+7) g 0 n sz)∧n≤1000∧lenI v=some (.i .i64 (n:Int)):=by
 rcases h _ D with⟨h,_⟩|⟨i,g,n,cs,wm,h1,h2,h3,h4,h5,h6⟩
 ·simp only at h;subst h;exact⟨0,.inl ⟨rfl,rfl⟩,by omega,rfl⟩
 ·simp only at h1;subst h1;exact⟨n,.inr ⟨i,g,rfl⟩,h5,rfl⟩
theorem Yn{m:Nat}{lh:aD ah}{sh:List ah}{k g r:Nat}{cs:List T}{bx:Bool}(h:ab lh k=⟨g,.cells cs r bx⟩):fzW (m+1) lh sh false (.ptr .L k g 0)=(tf m lh sh false cs).map fun q=>(.vp q.1,q.2++ [(.L,k,⟨g,.cells cs cs.length bx⟩)]):=by
 have D:(St.mk .nil lh sh).get .L k=ab lh k:=rfl
 unfold fzW tf
 rw[fz]
 simp only[Bool.false_and,Bool.false_eq_true,if_false,Q.run,D,h,if_true,List.drop_zero]
 rw[bt]
 cases (bh (fz false (m+1)) cs).run (St.mk .nil lh sh).get sh.length <;> rfl
def Rw(sz:Nat)(l:RL)(v:T):Prop:= ∃n cs,IsSl v n cs∧n*sz=cs.length∧wj sz l cs
theorem tq{R:List ah}{D:List (Nat×T×RL)}{sz:Nat}{v:T}(l:RL)(h:tp R D)(H:(sz,v,l)∈D)(F:T)(m:List (List Nat×Nat))(kn:List (Nat×Int)): ∃r us,froz1 r=true∧(∀lh n,fzW n lh (eA F m kn R) false v=some (r,us))∧Rw sz l r:=by
 rcases h _ H with⟨h,hl⟩|⟨i,g,n,cs,wm,h1,h2,h3,h4,h5,h6⟩
 ·simp only at h hl;subst h hl;exact⟨.nilsl,[],rfl,fun lh n=>xi rfl,0,[],.inl ⟨rfl,rfl,rfl⟩,by simp,wj.nil sz⟩
 ·simp only at h1 h4 h6;subst h1
  refine⟨.sl ((cs.drop 0).take (n*sz)) n false,[(.S,i+7,⟨g,.cells cs cs.length false⟩)],rfl,fun lh k=> ?_,n,cs,.inr ⟨false,by rw[h4];simp⟩,h4,h6⟩
  have I:(St.mk .nil lh (eA F m kn R)).get .S (i+7)=aI R i:=D9 _ _ _ _ _
  simp_all[fzW,fz,Bool.false_and,Bool.false_eq_true,Q.run,Nat.zero_add,Nat.le_refl]
def yH(t:Tt)(c:Ct)(J:List T):Prop:= ∃(q:List (List Nat×List T)) (r D F H I c3 cr:T) (K:Bool),J= [.vm (q.map fun p=>sK p.1) (q.map fun p=>T.agg p.2),.nilsl,r,D,F,.nilsl,H,I,c3,cr,.b K]∧Rt t.zo t.ap q∧q.map Prod.fst=t.ap.map Ap.cd∧
 Rw 4 (vD c 1 c.ru.length) r∧Rw 4 (vD c 2 c.ru.length) D∧Rw 4 (vD c 3 c.ru.length) F∧Rw 3 (tm c 1 c.co.length) H∧Rw 3 (tm c 2 c.co.length) I∧Rw 3 (tm c 3 c.co.length) c3∧Rw 3 (Rv c c.cr.length) cr
theorem awW(t:Tt)(c:Ct)(I J N F O U V W X:T)(hT:kN t I J N)(hC:mG c F O U V W X)(hS:vq c)(ht:nR t=0)(hc:fi c=0)(hnz:(t.zo.map Zo.nm).Nodup)(hlz:t.zo.length≤100)(hna:(t.ap.map Ap.cd).Nodup)(hla:t.ap.length≤100)(hzn: ∀u∈t.ap,u.zn∈t.zo.map Zo.nm)
  (hru: ∀u∈c.ru,Jl c.cs u.sc u.x) (lru:c.ru.length≤40) (oi: ∀u∈c.co,Jl c.cs u.sc u.x) (lco:c.co.length≤40) (Cg: ∀u∈c.cr,Jl c.cs 1 u) (lcr:c.cr.length≤40) (lcs:c.cs.length≤32):
  ∃s vs,ae pE 35 [.agg [I,J,N],.agg (aY c F O U V W X)] []=some (.tup [.vp (I::J::N::(aY c F O U V W X++vs)),.i .i64 0],s)∧vs.all froz1=true∧vs.length=11∧yH t c vs:=by
 have hpt:=alE t I J N hT
 obtain⟨s1,hpc⟩:=adW c F O U V W X hC hS
 rw[ht]at hpt
 rw[hc]at hpc
 obtain⟨⟨zc,z1,z2⟩,⟨ac,b1,b2⟩,⟨fc,f1,f2⟩⟩:=hT
 obtain⟨⟨c7,i7,j7⟩,⟨c8,i8,j8⟩,⟨c9,i9,j9⟩,⟨wh,i10,yD⟩,⟨yS,i11,Ch⟩,⟨Ce,i12,D1⟩⟩:=hC
 have hfT:=f1.froz1
 have hnc:=alN c.cs F c7 i7 j7 (by unfold jY;omega)
 rw[show FX F (bH c.cs c.cs.length) [] 4=eA F (bH c.cs c.cs.length) [] []by unfold eA;rw[List.append_nil]]at hnc
 have hk7:kept F=true:=by rcases i7 with⟨rfl,_,_⟩|⟨ex,rfl⟩ <;> rfl
 rw[au asy (by simp[zQ])]
 unfold aY at hpc ⊢
 simp only[qA,seval,zQ,hpt,hpc,aAW,aAX,z1.froz1,b1.froz1,f1.froz1,i7.froz1,i8.froz1,i9.froz1,i10.froz1,i11.froz1,i12.froz1,z1.lenI]
 generalize K:DC pE 232 (.loop jt) _=D
 obtain⟨f1,l1,s2,rfl,⟨o2,Y,fB,Z,⟨m,Jk,hm⟩,rfl⟩,H⟩:=aDn t.zo hnz I zc z1 z2 hlz ⟨1,.cells [I,J,N] 0 true⟩ ⟨1,.cells [.i .i64 c.rp,.i .i64 c.rl,.i .i64 c.cn,.i .i64 c.st,.i .i64 c.ly,.i .i64 c.nf,.i .i64 c.nt,F,O,U,V,W,X,.i .i64 c.gu] 0 true⟩ ⟨1,.map [] [] false⟩ ⟨1,.cells (fy I J N c F O U V W X (fM .nilsl .nilsl .nilsl .nilsl .nilsl .nilsl .nilsl (.b false))) 0 true⟩ K wW wW wW wW wW wW wW (by unfold fy aY fM;simp only[List.cons_append,List.nil_append];simp only[qA,seval]) wW
 have awZ:aa f1 2= .ptr .L 2 1 0:=by rw[H 2 xW];simp only[qA,seval]
 have aDt:aa f1 3= .ptr .L 3 1 0:=by rw[H 3 xW];simp only[qA,seval]
 have aw0:aa f1 8= .ptr .L 37 1 0:=by rw[H 8 xW];simp only[qA,seval]
 have aDu:aa f1 9= .mp .L 38 1:=by rw[H 9 xW];simp only[qA,seval]
 clear H
 simp only[qA,seval,awZ,o2,b1.lenI]
 have r:=Z
 unfold fy aY fM at r
 simp only[List.cons_append,List.nil_append]at r
 clear K
 generalize K:DC pE 232 (.loop kq) _=D
 obtain⟨f2,l1,s2,rfl,⟨o2,Y,Z,⟨q,fB,hq⟩,rfl⟩,H⟩:=aDo t.ap hna J ac b1 b2 hla t.zo m hm hzn I J N c F O U V W X (fM .nilsl .nilsl .nilsl .nilsl .nilsl .nilsl .nilsl (.b false)) ⟨1,.cells [I,J,N] 0 true⟩ ⟨1,.cells [.i .i64 c.rp,.i .i64 c.rl,.i .i64 c.cn,.i .i64 c.st,.i .i64 c.ly,.i .i64 c.nf,.i .i64 c.nt,F,O,U,V,W,X,.i .i64 c.gu] 0 true⟩ K (by simp only[qA,seval,aw0]) (by simp only[qA,seval,aDu]) wW wW wW (by simp only[o2]) (by simp only[Y]) (by simp only[fB]) (by unfold fy aY fM;simp only[List.cons_append,List.nil_append];simp only[r]) (by simp only[Jk])
 have aIp:aa f2 2= .ptr .L 2 1 0:=by rw[H 2 xW];simp(maxDischargeDepth:=6) only[qA,seval,awZ]
 have aw1:aa f2 3= .ptr .L 3 1 0:=by rw[H 3 xW];simp only[qA,seval,aDt]
 have aw2:aa f2 8= .ptr .L 37 1 0:=by rw[H 8 xW];simp only[qA,seval,aw0]
 clear H r
 simp only[qA,seval,aw1,Y,hk7,hnc,aAY,i8.lenI]
 have xo:jg c.cs []:=fun i v h=>by simp[aM]at h
 have r:=Z
 unfold fy aY fM at r
 simp only[List.cons_append,List.nil_append]at r
 clear K
 generalize K:DC pE 232 (.loop fN) _=D
 obtain⟨f3,l1,s2,rfl,⟨o2,Y,fB,R,kn,r1,r2,r3,rfl,jj,lb,Z⟩,H⟩:=aDp c F O c7 c8 i7 j7 i8 j8 lru hru I J N U V W X (.b false) ⟨1,.cells [I,J,N] 0 true⟩ ⟨1,.cells [.i .i64 c.rp,.i .i64 c.rl,.i .i64 c.cn,.i .i64 c.st,.i .i64 c.ly,.i .i64 c.nf,.i .i64 c.nt,F,O,U,V,W,X,.i .i64 c.gu] 0 true⟩ ⟨1,.map (q.map fun p=>sK p.1) (q.map fun p=>T.agg p.2) false⟩ [] xo K rfl (by simp only[qA,seval,aw2]) wW wW wW wW (by simp only[o2]) (by simp only[Y]) (by simp only[fB]) (by unfold fy aY fM;simp only[List.cons_append,List.nil_append];simp only[r])
 have aw3:aa f3 3= .ptr .L 3 1 0:=by rw[H 3 xW];simp only[qA,seval,aw1]
 have aw4:aa f3 8= .ptr .L 37 1 0:=by rw[H 8 xW];simp only[qA,seval,aw2]
 have aip:aa f3 14= .ptr .S 2 1 0:=by rw[H 14 xW];simp only[qA,seval]
 clear H r
 simp only[qA,seval,aw3,Y,i9.lenI]
 have r:=Z
 unfold fy aY fM at r
 simp only[List.cons_append,List.nil_append]at r
 clear K
 generalize K:DC pE 232 (.loop ko) _=D
 obtain⟨f4,l1,s2,rfl,⟨o2,Y,fB,R1,Jq,c1,c2,c3,rfl,jj,lb,Z⟩,H⟩:=aDq c F U c7 c9 i7 j7 i9 j9 lco oi I J N O V W X (.b false) r1 r2 r3 ⟨1,.cells [I,J,N] 0 true⟩ ⟨1,.cells [.i .i64 c.rp,.i .i64 c.rl,.i .i64 c.cn,.i .i64 c.st,.i .i64 c.ly,.i .i64 c.nf,.i .i64 c.nt,F,O,U,V,W,X,.i .i64 c.gu] 0 true⟩ ⟨1,.map (q.map fun p=>sK p.1) (q.map fun p=>T.agg p.2) false⟩ kn jj R _ _ _ lb K rfl (by simp only[qA,seval,aw4]) (by simp only[qA,seval,aip]) wW wW wW (by simp only[o2]) (by simp only[Y]) (by simp only[fB]) (by unfold fy aY fM;simp only[List.cons_append,List.nil_append];simp only[r])
 have aDv:aa f4 3= .ptr .L 3 1 0:=by rw[H 3 xW];simp only[qA,seval,aw3]
 have aw5:aa f4 8= .ptr .L 37 1 0:=by rw[H 8 xW];simp only[qA,seval,aw4]
 have aw6:aa f4 14= .ptr .S 2 1 0:=by rw[H 14 xW];simp only[qA,seval,aip]
 clear H r
 simp only[qA,seval,aDv,Y,i10.lenI]
 have r:=Z
 unfold fy aY fM at r
 simp only[List.cons_append,List.nil_append]at r
 clear K
 generalize K:DC pE 232 (.loop js) _=D
 obtain⟨f5,l1,s2,rfl,⟨o2,Y,fB,R2,Oq,cr,rfl,jj,lb,Z⟩,H⟩:=aDr c F V c7 wh i7 j7 i10 yD lcr Cg I J N O U W X (.b false) r1 r2 r3 c1 c2 c3 ⟨1,.cells [I,J,N] 0 true⟩ ⟨1,.cells [.i .i64 c.rp,.i .i64 c.rl,.i .i64 c.cn,.i .i64 c.st,.i .i64 c.ly,.i .i64 c.nf,.i .i64 c.nt,F,O,U,V,W,X,.i .i64 c.gu] 0 true⟩ ⟨1,.map (q.map fun p=>sK p.1) (q.map fun p=>T.agg p.2) false⟩ Jq jj R1 _ _ _ _ _ _ lb K rfl (by simp only[qA,seval,aw5]) (by simp only[qA,seval,aw6]) wW wW wW (by simp only[o2]) (by simp only[Y]) (by simp only[fB]) (by unfold fy aY fM;simp only[List.cons_append,List.nil_append];simp only[r])
 have alO:aa f5 8= .ptr .L 37 1 0:=by rw[H 8 xW];simp only[qA,seval,aw5]
 clear H r
 have hw2:=lb.toW yv
 obtain⟨n2,CI,aDw,SD⟩:=Ym (sz:=4) (v:=r2) (vD c 2 c.ru.length) hw2 (by simp[ib])
 obtain⟨n1,CH,aDx,Kz⟩:=Ym (sz:=3) (v:=c2) (tm c 2 c.co.length) hw2 (by simp[ib])
 have r:=Z
 unfold fy aY fM at r
 simp only[List.cons_append,List.nil_append]at r
 simp only[qA,seval,eO,alO,r,SD]
 have r:=Z
 unfold fy aY fM at r
 simp only[List.cons_append,List.nil_append]at r
 clear K
 generalize K:DC pE 232 (.loop jr) _=D
 obtain⟨f6,l1,s2,rfl,⟨o2,Y,fB,R3,nb,rfl,hw3,Z⟩,H⟩:=awU c F O U V W X I J N r1 r2 r3 c1 c2 c3 cr _ Oq false R2 _ _ _ _ _ _ _ hw2 n2 CI aDw ⟨1,.cells [I,J,N] 0 true⟩ ⟨1,.cells [.i .i64 c.rp,.i .i64 c.rl,.i .i64 c.cn,.i .i64 c.st,.i .i64 c.ly,.i .i64 c.nf,.i .i64 c.nt,F,O,U,V,W,X,.i .i64 c.gu] 0 true⟩ ⟨1,.map (q.map fun p=>sK p.1) (q.map fun p=>T.agg p.2) false⟩ K rfl (by simp only[qA,seval,alO]) wW wW (by simp only[o2]) (by simp only[Y]) (by simp only[fB]) (by unfold fy aY fM;simp only[List.cons_append,List.nil_append];simp only[r])
 have alP:aa f6 8= .ptr .L 37 1 0:=by rw[H 8 xW];simp only[qA,seval,alO]
 clear H r
 have r:=Z
 unfold fy aY fM at r
 simp only[List.cons_append,List.nil_append]at r
 simp only[qA,seval,eO,alP,r,Kz]
 have r:=Z
 unfold fy aY fM at r
 simp only[List.cons_append,List.nil_append]at r
 clear K
 generalize K:DC pE 232 (.loop jq) _=D
 obtain⟨f7,l1,s2,rfl,⟨o2,Y,fB,R4,nb1,rfl,hw4,Z⟩,H⟩:=awV c F O U V W X I J N r1 r2 r3 c1 c2 c3 cr _ Oq nb R3 _ _ _ _ _ _ _ hw3 n1 CH aDx ⟨1,.cells [I,J,N] 0 true⟩ ⟨1,.cells [.i .i64 c.rp,.i .i64 c.rl,.i .i64 c.cn,.i .i64 c.st,.i .i64 c.ly,.i .i64 c.nf,.i .i64 c.nt,F,O,U,V,W,X,.i .i64 c.gu] 0 true⟩ ⟨1,.map (q.map fun p=>sK p.1) (q.map fun p=>T.agg p.2) false⟩ K rfl (by simp only[qA,seval,alP]) wW wW (by simp only[o2]) (by simp only[Y]) (by simp only[fB]) (by unfold fy aY fM;simp only[List.cons_append,List.nil_append];simp only[r])
 have aDy:aa f7 8= .ptr .L 37 1 0:=by rw[H 8 xW];simp only[qA,seval,alP]
 clear H r
 have r:=Z
 unfold fy aY fM at r
 simp only[List.cons_append,List.nil_append]at r
 simp only[qA,seval,aDy]
 obtain⟨x0,u0,y0,w0,z0⟩:=tq (sz:=4) (v:=r1) (vD c 1 c.ru.length) hw4 (by simp[ib]) F (bH c.cs c.cs.length) Oq
 obtain⟨x1,u1,y1,w1,z1'⟩:=tq (sz:=4) (v:=r2) (vD c 2 c.ru.length) hw4 (by simp[ib]) F (bH c.cs c.cs.length) Oq
 obtain⟨x2,u2,y2,w2,z2'⟩:=tq (sz:=4) (v:=r3) (vD c 3 c.ru.length) hw4 (by simp[ib]) F (bH c.cs c.cs.length) Oq
 obtain⟨x3,u3,y3,w3,z3⟩:=tq (sz:=3) (v:=c1) (tm c 1 c.co.length) hw4 (by simp[ib]) F (bH c.cs c.cs.length) Oq
 obtain⟨x4,u4,y4,w4,z4⟩:=tq (sz:=3) (v:=c2) (tm c 2 c.co.length) hw4 (by simp[ib]) F (bH c.cs c.cs.length) Oq
 obtain⟨x5,u5,y5,w5,z5⟩:=tq (sz:=3) (v:=c3) (tm c 3 c.co.length) hw4 (by simp[ib]) F (bH c.cs c.cs.length) Oq
 obtain⟨x6,u6,y6,w6,z6⟩:=tq (sz:=3) (v:=cr) (Rv c c.cr.length) hw4 (by simp[ib]) F (bH c.cs c.cs.length) Oq
 rw[Yn r]
 simp only[qA,seval,fB,mpV,z1.froz1,b1.froz1,hfT,i7.froz1,i8.froz1,i9.froz1,i10.froz1,i11.froz1,i12.froz1,w0,w1,w2,w3,w4,w5,w6]
 refine⟨_,_,rfl, ?_, ?_,q,x0,x1,x2,x3,x4,x5,x6,nb1, ?_,hq.1,hq.2,z0,z1',z2',z3,z4,z5,z6⟩
 ·simp only[List.all_cons,List.all_nil,y0,y1,y2,y3,y4,y5,y6,Bool.and_true,Bool.true_and];rfl
 ·rfl
 ·rfl
theorem nzo: ∀(l:List Zo) (seen:List (List Nat)),G5 seen l=0→(l.map Zo.nm).Nodup∧ ∀z∈l,z.nm∉seen
 | [],seen,_=>⟨List.nodup_nil,fun z D=>by cases D⟩
 |z::r,seen,h=>by
  rw[G5]at h
  by_cases h1:gv z=0
  ·rw[if_neg (by simp[h1])]at h
   by_cases h2:z.nm∈seen
   ·grind
   ·rw[if_neg h2]at h
    obtain⟨F,H⟩:=nzo r _ h
    grind
  ·grind
theorem nap(D:List (List Nat)): ∀(l:List Ap) (seen:List (List Nat)),G6 D seen l=0→(l.map Ap.cd).Nodup∧ ∀z∈l,z.cd∉seen
 | [],seen,_=>⟨List.nodup_nil,fun z H=>by cases H⟩
 |z::r,seen,h=>by
  rw[G6]at h
  by_cases h1:CU z.cd=false
  ·grind
  ·rw[if_neg h1]at h
   by_cases h2:z.cd∈seen
   ·grind
   ·rw[if_neg h2]at h
    by_cases h3:z.zn∉D
    ·rw[if_pos h3]at h;cases h
    ·rw[if_neg h3]at h
     obtain⟨I,F⟩:=nap D r _ h
     refine⟨?_,fun y hy=> ?_⟩
     ·rw[List.map_cons,List.nodup_cons]
      refine⟨fun J=> ?_,I⟩
      obtain⟨y,hy,e⟩:=List.mem_map.1 J
      exact F y hy (by rw[e];simp)
     ·rcases List.mem_cons.1 hy with rfl|hy
      ·exact h2
      ·exact fun hs=>F y hy (by simp[hs])
theorem nzn(D:List (List Nat)): ∀(l:List Ap) (seen:List (List Nat)),G6 D seen l=0→ ∀u∈l,u.zn∈D
 | [],seen,_,u,hu=>by cases hu
 |z::r,seen,h,u,hu=>by
  rw[G6]at h
  by_cases h1:CU z.cd=false
  ·grind
  ·rw[if_neg h1]at h
   by_cases h2:z.cd∈seen
   ·grind
   ·rw[if_neg h2]at h
    by_cases h3:z.zn∉D
    ·rw[if_pos h3]at h;cases h
    ·rw[if_neg h3]at h
     rcases List.mem_cons.1 hu with rfl|hu
     ·simpa using h3
     ·exact nzn D r _ h u hu
theorem nzs: ∀(l:List Zo) (seen:List (List Nat)),G5 seen l=0→ ∀z∈l,gv z=0
 | [],seen,_,u,hu=>by cases hu
 |z::r,seen,h,u,hu=>by
  rw[G5]at h
  by_cases h1:gv z=0
  ·rw[if_neg (by simp[h1])]at h
   by_cases h2:z.nm∈seen
   ·grind
   ·rw[if_neg h2]at h
    rcases List.mem_cons.1 hu with rfl|hu
    ·exact h1
    ·exact nzs r _ h u hu
  ·grind
theorem nfl(D:List (List Nat)): ∀(l:List Fl) (p:Option Fl),Cj D p l=0→ ∀f∈l,CV D f=0
 | [],p,_,u,hu=>by cases hu
 |z::r,p,h,u,hu=>by
  unfold Cj at h
  by_cases h1:CV D z=0
  ·rw[if_neg (by simp[h1])]at h
   have F:Cj D (some z) r=0:=by
    grind
   rcases List.mem_cons.1 hu with rfl|hu
   ·exact h1
   ·exact nfl D r _ F u hu
  ·grind
theorem vH(t:Tt)(h:nR t=0):(∀z∈t.zo,gv z=0)∧(∀u∈t.ap,u.zn∈t.zo.map Zo.nm)∧(∀f∈t.fl,CV (t.ap.map Ap.cd) f=0)∧t.fl.length≤200:=by
 unfold nR at h
 split at h
 ·cases h
 split at h
 ·cases h
 split at h
 ·cases h
 split at h
 ·grind
 split at h
 ·rename_i q;exact absurd h q
 rename_i a b c d e
 exact⟨nzs t.zo [] yv,nzn (t.zo.map Zo.nm) t.ap [] yv,nfl _ t.fl none h,by omega⟩
theorem L7(t:Tt)(h:nR t=0):(t.zo.map Zo.nm).Nodup∧t.zo.length≤100∧(t.ap.map Ap.cd).Nodup∧t.ap.length≤100:=by
 unfold nR at h
 split at h
 ·cases h
 split at h
 ·cases h
 split at h
 ·cases h
 split at h
 ·grind
 split at h
 ·rename_i q;exact absurd h q
 rename_i a b c d e
 exact⟨(nzo t.zo [] yv).1,by omega,(nap (t.zo.map Zo.nm) t.ap [] yv).1,by omega⟩
theorem Yo: ∀(l:List Ru) (seen:List (Int×List Nat)),G0 seen l=0→ ∀u∈l,ki u.sc 1 3=true∧bL u.x=0
 | [],seen,_,u,hu=>by cases hu
 |v::l,seen,h,u,hu=>by
  rw[G0]at h
  split at h
  ·cases h
  split at h
  ·cases h
  split at h
  ·grind
  rename_i a b c
  rcases List.mem_cons.1 hu with rfl|hu
  ·exact⟨by cases r:ki u.sc 1 3 with|true=>rfl|false=>exact absurd (.inl r) a,by omega⟩
  ·exact Yo l _ h u hu
theorem Yp: ∀(l:List Co),I4 l=0→ ∀u∈l,ki u.sc 1 3=true∧bL u.x=0
 | [],_,u,hu=>by cases hu
 |v::l,h,u,hu=>by
  rw[I4]at h
  split at h
  ·cases h
  split at h
  ·grind
  rename_i a c
  rcases List.mem_cons.1 hu with rfl|hu
  ·grind
  ·exact Yp l h u hu
theorem Yq: ∀(l:List Ex),I5 l=0→ ∀u∈l,bL u=0
 | [],_,u,hu=>by cases hu
 |v::l,h,u,hu=>by
  rw[I5]at h
  split at h
  ·grind
  rename_i c
  rcases List.mem_cons.1 hu with rfl|hu
  ·omega
  ·exact Yq l h u hu
theorem Yr{n:Int}(h:ki n 1 3=true):n=1∨n=2∨n=3:=by
 unfold ki at h
 simp only[Bool.and_eq_true,decide_eq_true_eq]at h
 omega
theorem L8{l:Cs}{r:Int}{x:Ex}{w:Int}(D:bL x=0)(h:G2 l r x w=0): ∃k,x.ty (clk l (iX l l.length)) r=(k,0):=by
 have h2:(cP l r x).2=0:=by
  unfold G2 at h
  split at h
  ·cases h
  ·exact h
 unfold cP at h2
 rw[if_neg (by simp[D])]at h2
 exact⟨(x.ty (clk l (iX l l.length)) r).1,Prod.ext rfl h2⟩
theorem Ys(cs:Cs): ∀(l:List Ru),I9 cs l=0→ ∀u∈l,G2 cs u.sc u.x 4=0
 | [],_,u,hu=>by cases hu
 |v::l,h,u,hu=>by
  rw[I9]at h
  split at h
  ·rename_i q;exact absurd h q
  rename_i c
  rcases List.mem_cons.1 hu with rfl|hu
  ·omega
  ·exact Ys cs l h u hu
theorem Yt(cs:Cs): ∀(l:List Co),Ja cs l=0→ ∀u∈l,G2 cs u.sc u.x 1=0
 | [],_,u,hu=>by cases hu
 |v::l,h,u,hu=>by
  rw[Ja]at h
  split at h
  ·rename_i q;exact absurd h q
  rename_i c
  rcases List.mem_cons.1 hu with rfl|hu
  ·omega
  ·exact Yt cs l h u hu
theorem Yu(cs:Cs): ∀(l:List Ex),KH cs l=0→ ∀u∈l,G2 cs 1 u 2=0
 | [],_,u,hu=>by cases hu
 |v::l,h,u,hu=>by
  rw[KH]at h
  split at h
  ·rename_i q;exact absurd h q
  rename_i c
  rcases List.mem_cons.1 hu with rfl|hu
  ·omega
  ·exact Yu cs l h u hu
theorem mL(c:Ct)(h:fi c=0):(∀u∈c.ru,Jl c.cs u.sc u.x)∧c.ru.length≤40∧(∀u∈c.co,Jl c.cs u.sc u.x)∧c.co.length≤40∧(∀u∈c.cr,Jl c.cs 1 u)∧c.cr.length≤40∧c.cs.length≤32:=by
 unfold fi at h
 split at h
 ·rename_i q;exact absurd h q
 split at h
 ·rename_i q;exact absurd h q
 split at h
 ·rename_i q;exact absurd h q
 split at h
 ·rename_i q;exact absurd h q
 rename_i g _ r o
 have g:fY c=0:=yv
 unfold fY at g
 split at g
 ·cases g
 split at g
 ·cases g
 split at g
 ·rename_i q;exact absurd g q
 split at g
 ·rename_i q;exact absurd g q
 split at g
 ·rename_i q;exact absurd g q
 split at g
 ·rename_i q;exact absurd g q
 rename_i _ sz _ F H I
 have sz:kM c=true:=by simpa using sz
 unfold kM at sz
 simp only[Bool.and_eq_true,decide_eq_true_eq]at sz
 refine⟨fun u D=> ?_,sz.2.1,fun u D=> ?_,by omega,fun u D=> ?_,by omega,sz.1⟩
 ·obtain⟨w,v⟩:=Yo c.ru [] yv u D
  exact⟨Yr w,v,L8 v (Ys c.cs c.ru yv u D)⟩
 ·obtain⟨w,v⟩:=Yp c.co yv u D
  exact⟨Yr w,v,L8 v (Yt c.cs c.co yv u D)⟩
 ·have v:=Yq c.cr yv u D
  exact⟨.inl rfl,v,L8 v (Yu c.cs c.cr h u D)⟩
theorem alR(t:Tt)(c:Ct)(r D F H I J K N O:T)(W:kN t r D F)(X:mG c H I J K N O)(Y:vq c)(V:nR t=0)(hc:fi c=0):
  ∃s U,ae pE 35 [.agg [r,D,F],.agg (aY c H I J K N O)] []=some (.tup [.vp (r::D::F::(aY c H I J K N O++U)),.i .i64 0],s)∧U.all froz1=true∧U.length=11∧yH t c U:=by
 obtain⟨Z,p2,p3,p4⟩:=L7 t V
 obtain⟨q1,q2,q3,q4,q5,q6,q7⟩:=mL c hc
 exact awW t c r D F H I J K N O W X Y V hc Z p2 p3 p4 (vH t V).2.1 q1 q2 q3 q4 q5 q6 q7
end Go.Proofs.YtnkgnjecmfkcfaaGreat
