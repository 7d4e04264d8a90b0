/- Walks of functions of the program and of the reference, and their plain laws, part 2. Conditions: the theorems' own. -/
import Derived.Test.YtblcbheipjeoeaaGreatM1
import Derived.KernelRfl
set_option maxRecDepth 100000
set_option linter.unusedSimpArgs false
set_option linter.unusedVariables false
set_option maxHeartbeats 16000000
namespace Go.Proofs.YtblcbheipjeoeaaGreat
open Go Go.Ev
mutual
def Ex.sz:Ex→Nat→Nat×Nat
 | .mk _ _ _ args,level=>if 16<level then(1,1)else Db args level (1,1)
def Db:List Ex→Nat→Nat×Nat→Nat×Nat
 | [],_,p=>p
 |x::xs,level,p=>if p.1≤200 then Db xs level (p.1+(x.sz (level+1)).1,max p.2 ((x.sz (level+1)).2+1))else p
end
theorem Ex.sz_eq(x:Ex)(level:Nat):x.sz level=if 16<level then(1,1)else Db x.args level (1,1):=by obtain⟨_,_,_,_⟩:=x;rw[Ex.sz];rfl
theorem aj2{xs:List Ex}{level:Nat}(ih: ∀y∈xs,(y.sz (level+1)).1≤1+200*(17-(level+1))∧(y.sz (level+1)).2≤18-(level+1))(D:level≤16): ∀p:Nat×Nat,p.1≤1+200*(17-level)→p.2≤18-level→(Db xs level p).1≤1+200*(17-level)∧(Db xs level p).2≤18-level:=by
 induction xs with
 |nil=>intro p i r;rw[Db];exact⟨i,r⟩
 |cons y E Wk=>
  intro p i r
  rw[Db]
  have F:=ih y (by simp)
  split
  ·refine Wk (fun z C=>ih z (by simp[C])) _ ?_ ?_ <;> simp only <;> omega
  ·exact⟨i,r⟩
theorem ate(x:Ex): ∀level,level≤17→(x.sz level).1≤1+200*(17-level)∧(x.sz level).2≤18-level:=by
 induction x using Ex.ind with
 |h x ih=>
  intro level r
  rw[Ex.sz_eq]
  split
  ·simp only;omega
  ·exact aj2 (fun y i=>ih y i (level+1) (by omega)) (by omega) _ (by simp only;omega) (by simp only;omega)
theorem aj3(x:Ex){level:Nat}(h:level≤17):(x.sz level).1≤4000∧(x.sz level).2≤18:=by
 have:=ate x level h
 generalize x.sz level=q at*
 have i:17-level≤17:=by omega
 generalize 17-level=r at*
 constructor <;> omega
theorem EZ: ∀(xs:List Ex) (level:Nat) (p:Nat×Nat),p.1≤(Db xs level p).1∧p.2≤(Db xs level p).2
 | [],level,p=>by rw[Db];simp
 |x::xs,level,p=>by
  rw[Db]
  split
  ·have:=EZ xs level (p.1+(x.sz (level+1)).1,max p.2 ((x.sz (level+1)).2+1))
   simp only at this;omega
  ·simp
def atf(x:Ex):Prop:= ∀level,level≤17→if j3 0 level x then x.sz level=(x.nodes,x.depth)else 200<(x.sz level).1∨17<level+(x.sz level).2
theorem aj4{xs:List Ex}{level:Nat}(ih: ∀y∈xs,atf y)(K:level≤16): ∀p:Nat×Nat,1≤p.2→p.1≤200→
  if jc p.1 (level+1) xs then Db xs level p=(p.1+jt xs,max p.2 (oC xs+1))else 200<(Db xs level p).1∨17<level+(Db xs level p).2:=by
 induction xs with
 |nil=>
  intro p H F
  have:jc p.1 (level+1) []:=by unfold jc;rw[jt,oC];omega
  rw[if_pos this,Db,jt,oC,Nat.max_eq_left (by omega)];rfl
 |cons y r Wk=>
  intro p H F
  have E:=ih y (by simp) (level+1) (by omega)
  have O6:=Wk fun z I=>ih z (by simp[I])
  have Y6:=EZ r level (p.1+(y.sz (level+1)).1,max p.2 ((y.sz (level+1)).2+1))
  rw[Db,if_pos F]
  by_cases C:j3 0 (level+1) y
  ·rw[if_pos C]at E
   rw[E]at Y6 ⊢
   simp only at Y6 ⊢
   by_cases J:p.1+y.nodes≤200
   ·have:=O6 (p.1+y.nodes,max p.2 (y.depth+1)) (by simp only;omega) J
    simp only at this
    by_cases D:jc (p.1+y.nodes) (level+1) r
    ·rw[if_pos D]at this
     have i:jc p.1 (level+1) (y::r):=by unfold jc at D ⊢; unfold j3 at C;rw[jt,oC];omega
     rw[if_pos i,this,jt,oC]
     refine Prod.ext ?_ ?_ <;> simp only <;> omega
    ·rw[if_neg D]at this
     have i: ¬jc p.1 (level+1) (y::r):=by unfold jc at D ⊢; unfold j3 at C;rw[jt,oC];omega
     rw[if_neg i];exact this
   ·have i: ¬jc p.1 (level+1) (y::r):=by unfold jc;rw[jt,oC];omega
    rw[if_neg i];omega
  ·rw[if_neg C]at E
   have i: ¬jc p.1 (level+1) (y::r):=by unfold jc;unfold j3 at C;rw[jt,oC];omega
   rw[if_neg i]
   simp only at Y6;omega
theorem atg(x:Ex):atf x:=by
 induction x using Ex.ind with
 |h x ih=>
  intro level E
  have C:=x.nodes_eq
  have D:=x.depth_eq
  rw[Ex.sz_eq]
  by_cases h:16<level
  ·have i: ¬j3 0 level x:=by unfold j3;omega
   rw[if_neg i,if_pos h];simp only;omega
  ·rw[if_neg h]
   have:=aj4 ih (level:=level) (by omega) (1,1) (by simp) (by simp)
   simp only at this
   by_cases r:jc 1 (level+1) x.args
   ·rw[if_pos r]at this
    have i:j3 0 level x:=by unfold jc at r;unfold j3;omega
    rw[if_pos i,this]
    refine Prod.ext ?_ ?_ <;> simp only <;> omega
   ·rw[if_neg r]at this
    have i: ¬j3 0 level x:=by unfold jc at r;unfold j3;omega
    rw[if_neg i];exact this
theorem aj5(x:Ex):(200<(x.sz 1).1∨16<(x.sz 1).2)↔big x:=by
 have:=atg x 1 (by omega)
 by_cases h:j3 0 1 x
 ·rw[if_pos h]at this
  rw[this];unfold big;simp only
 ·rw[if_neg h]at this
  unfold big;unfold j3 at h;omega
def szP(y:Ex):Prop:= ∀(level:Nat) (cs:List T),lK y cs→level≤17→gS pE 287 [.agg cs,.i .i64 (level:Int)] []=some (.tup [.i .i64 ((y.sz level).1:Int),.i .i64 ((y.sz level).2:Int)],[])
theorem ath(xs:List Ex)(ih: ∀y∈xs,szP y)(a:T)(cc:List T)(K:g8 a xs.length cc)(hx:jN xs cc)(level:Nat)(hl:level≤16)(op num:Int)(s:List Nat)(g:Nat)(fr:Fr)(lh:hJ gR)(sh:List gR)
  (H:an fr 1= .i .i64 (level:Int)) (D:an fr 2= .ptr .L 2 g 0) (F:an fr 6= .i .i64 1) (I:an fr 7= .i .i64 1) (J:an fr 8= .i .i64 0) (O:a6 lh 2=⟨g,.cells [.i .i64 op,.i .i64 num,.s s,a] 0 true⟩):
  kV 44 pJ fr lh sh (.ext 0)∧
  (an (kh pE 44 pJ fr lh sh) 6= .i .i64 ((Db xs level (1,1)).1:Int)∧an (kh pE 44 pJ fr lh sh) 7= .i .i64 ((Db xs level (1,1)).2:Int)∧kH pE 44 pJ fr lh sh=lh∧kb pE 44 pJ fr lh sh=sh):=by
 refine ib (P:=fun fr il iw=>an fr 6= .i .i64 ((Db xs level (1,1)).1:Int)∧an fr 7= .i .i64 ((Db xs level (1,1)).2:Int)∧il=lh∧iw=sh) (ij (fun k st=> ∃(fr:Fr) (p:Nat×Nat),st=⟨fr,lh,sh⟩∧an fr 1= .i .i64 (level:Int)∧an fr 2= .ptr .L 2 g 0∧an fr 6= .i .i64 (p.1:Int)∧an fr 7= .i .i64 (p.2:Int)∧an fr 8= .i .i64 (k:Int)∧
   Db (xs.drop k) level p=Db xs level (1,1)∧k≤p.1∧p.2≤19∧p.1≤4300) _ xs.length ?_ ?_ 0 _ (Nat.zero_le _) ⟨fr,(1,1),rfl,H,D,F,I,J,rfl,by simp,by simp,by simp⟩)
 ·rintro k _ V ⟨fr,p,rfl,H,D,F,I,J,C,hp,W,X⟩
  have Y:(k:Int)<xs.length:=by omega
  obtain⟨b,cb,r,iv,jE,oV,hb⟩:=mY K hx k V
  have Z:=ih xs[k] (List.getElem_mem V) (level+1) _ hb (by omega)
  have tl:=aj3 xs[k] (level:=level+1) (by omega)
  have Cz:1≤(xs[k].sz (level+1)).1:=by
   rw[Ex.sz_eq];split
   ·simp
   ·exact(EZ xs[k].args (level+1) (1,1)).1
  rw[xF V,Db]at C
  generalize xs[k].sz (level+1)=q at Z tl Cz C
  obtain⟨Kh,GA⟩:=tl
  by_cases U:p.1≤200
  ·left
   have E:(p.1:Int)≤200:=by omega
   have hw:=qe (k:=k) (Nat.le_trans hp (Nat.le_trans U (by decide)))
   have CX:=qe (k:=level) (Nat.le_trans hl (by decide))
   have N:=qe (k:=q.2) (Nat.le_trans GA (by decide))
   have Z4:=acz (a:=p.1) (b:=q.1) (Nat.le_trans U (by decide)) (Nat.le_trans Kh (by decide))
   rw[if_pos U]at C
   by_cases ZP:(p.2:Int)<((q.2+1:Nat):Int)
   ·have aCW:(p.2:Int)<((q.2+1:Nat):Int):=ZP
    simp only[qA,seval,pJ,H,D,F,I,J,O,Y,K.lenI,E,iv,hw,CX,N,Z4,Z,VH,jE.froz1,ZP]
    refine⟨_,rfl,_,(p.1+q.1,q.2+1),rfl, ?_, ?_, ?_, ?_, ?_, ?_, ?_, ?_, ?_⟩
    all_goals first|(simp only[qA,seval,H,D];done)|skip
    ·rw[Nat.max_eq_right (by omega)]at C;exact C
    all_goals (simp only;omega)
   ·simp only[qA,seval,pJ,H,D,F,I,J,O,Y,K.lenI,E,iv,hw,CX,N,Z4,Z,VH,jE.froz1,ZP]
    refine⟨_,rfl,_,(p.1+q.1,p.2),rfl, ?_, ?_, ?_, ?_, ?_, ?_, ?_, ?_, ?_⟩
    all_goals first|(simp only[qA,seval,H,D];done)|skip
    ·rw[Nat.max_eq_left (by omega)]at C;exact C
    all_goals (simp only;omega)
  ·right
   have E: ¬(p.1:Int)≤200:=by omega
   rw[if_neg U]at C
   simp only[qA,seval,pJ,D,F,J,O,Y,K.lenI,E]
   exact⟨_,_,jB,rfl,rfl,by simp only[qA,seval,F,←C],by simp only[qA,seval,I,←C],rfl,rfl⟩
 ·rintro _ ⟨fr,p,rfl,H,D,F,I,J,C,hp,W,X⟩
  rw[List.drop_length,Db]at C
  simp only[qA,seval,pJ,D,J,O,K.lenI,Int.lt_irrefl]
  exact⟨_,_,jB,rfl,rfl,by simp only[qA,seval,F,←C],by simp only[qA,seval,I,←C],rfl,rfl⟩
theorem ado(x:Ex):szP x:=by
 induction x using Ex.ind with
 |h x ih=>
  intro level cs C H
  obtain⟨a,D,rfl,E,BB⟩:=C.cells
  rw[gX afE (by simp[Q2]),Ex.sz_eq]
  by_cases r:(16:Int)<(level:Int)
  ·have i:16<level:=by omega
   simp only[qA,seval,Q2,r,i]
  ·have i: ¬16<level:=by omega
   have F:=fun g fr lh sh=>ath x.args ih a D E BB level (by omega) x.op x.num x.name g fr lh sh
   simp only[qA,seval,Q2,r,i,F 1]
theorem adp(x:Ex)(cs:List T)(r:lK x cs):gS pE 260 [.agg cs] []=some (.tup [.i .i64 ((x.sz 1).1:Int),.i .i64 ((x.sz 1).2:Int)],[]):=by
 have h:=ado x 1 cs r (by omega)
 obtain⟨a,D,rfl,C,BB⟩:=r.cells
 rw[gX afk (by simp[UD])]
 simp only[qA,seval,UD,VH,C.froz1]at h ⊢
 simp only[qA,seval,h]
theorem oO{op:Int}(i:1≤op)(r:op≤22):op=1∨op=2∨op=3∨op=4∨op=5∨op=6∨op=7∨op=8∨op=9∨op=10∨op=11∨op=12∨op=13∨op=14∨op=15∨op=16∨op=17∨op=18∨op=19∨op=20∨op=21∨op=22:=by omega
theorem NX(op:Int)(n:Nat)(r:1≤op)(C:op≤22):gS pE 300 [.i .i64 op,.i .i64 (n:Int)] []=some (.b (jA op n),[]):=by
 have D:decide ((n:Int)=0)=decide (n=0):=by rw[decide_eq_decide];omega
 have E:decide ((n:Int)=1)=decide (n=1):=by rw[decide_eq_decide];omega
 have F:decide ((n:Int)=2)=decide (n=2):=by rw[decide_eq_decide];omega
 have H:decide ((n:Int)=3)=decide (n=3):=by rw[decide_eq_decide];omega
 have I:decide ((2:Int)≤n)=decide (2≤n):=by rw[decide_eq_decide];omega
 rw[gX afL (by simp[UR])]
 rcases oO r C with rfl|rfl|rfl|rfl|rfl|rfl|rfl|rfl|rfl|rfl|rfl|rfl|rfl|rfl|rfl|rfl|rfl|rfl|rfl|rfl|rfl|rfl <;>
  simp only[qA,seval,UR,jA,D,E,F,H,I,or_true,or_false,or_self]
def S0(op:Int):Int:=if op≤6 then 0 else if op=7∨op=19 then 1 else if op=12∨op=13 then 2 else if op=14∨op=15 then 3 else 2
def NY(op:Int):Int:=if op≤6 then 0 else if op=7∨op=19 then 1 else if op=12∨op=13 then 200 else if op=14∨op=15 then 3 else 2
theorem Y7(op:Int)(r:1≤op)(C:op≤22):gS pE 288 [.i .i64 op] []=some (.tup [.i .i64 (S0 op),.i .i64 (NY op)],[]):=by
 rw[gX afF (by simp[UO])]
 rcases oO r C with rfl|rfl|rfl|rfl|rfl|rfl|rfl|rfl|rfl|rfl|rfl|rfl|rfl|rfl|rfl|rfl|rfl|rfl|rfl|rfl|rfl|rfl <;>
  simp only[qA,seval,UO,S0,NY,or_true,or_false,or_self]
theorem aj7(op:Int)(n:Nat)(i:1≤op)(r:op≤22)(C:n≤200):jA op n=true↔ ¬(n:Int)<S0 op∧ ¬NY op<(n:Int):=by
 rcases oO i r with rfl|rfl|rfl|rfl|rfl|rfl|rfl|rfl|rfl|rfl|rfl|rfl|rfl|rfl|rfl|rfl|rfl|rfl|rfl|rfl|rfl|rfl <;>
  simp only[jA,S0,NY,Int.reduceLE,Int.reduceEq,or_true,or_false,or_self,if_true,if_false,decide_eq_true_eq] <;> omega
theorem IU: ∀{s:List Nat} {i:Nat},pt s=some i→i<s.length
 | [],i,h=>by simp[pt]at h
 |c::cs,i,h=>by
  rw[pt]at h
  split at h
  ·simp at h;subst h;simp
  ·cases r:pt cs with
   |none=>simp[r]at h
   |some j=>
    simp[r]at h
    have:=IU r
    subst h;simpa using this
theorem BQ{s:List Nat}: ∀(k:Nat),k≤s.length→(∀j (h:j<k) (r:j<s.length),s[j]≠46)→pt s=(pt (s.drop k)).map (· +k)
 |0,_,_=>by simp
 |k+1,D,h=>by
  have:=BQ (s:=s) k (by omega) fun j E r=>h j (by omega) r
  have C:k<s.length:=by omega
  rw[this,List.drop_eq_getElem_cons C,pt,if_neg (h k (by omega) C)]
  cases pt (s.drop (k+1))with
  |none=>rfl
  |some i=>simp;omega
theorem aj8(s:List Nat)(hs:s.length≤l6)(o:Out)(K:o=if pt s=none then .ext 0 else .ret)(fr:Fr)(lh:hJ gR)(sh:List gR)(C:an fr 0= .s s)(E:an fr 1= .i .u8 46)(F:an fr 5= .i .i64 0):
  kV 18 sv fr lh sh o∧
  ((∀i,pt s=some i→an (kh pE 18 sv fr lh sh) 4= .i .i64 (i:Int))∧kH pE 18 sv fr lh sh=lh∧kb pE 18 sv fr lh sh=sh):=by
 refine ib (P:=fun fr V W=>(∀i,pt s=some i→an fr 4= .i .i64 (i:Int))∧V=lh∧W=sh) (ij (fun k st=> ∃fr:Fr,st=⟨fr,lh,sh⟩∧an fr 0= .s s∧an fr 1= .i .u8 46∧an fr 5= .i .i64 (k:Int)∧k≤s.length∧ ∀j (h:j<k) (N:j<s.length),s[j]≠46) _ s.length ?_ ?_ 0 _ (Nat.zero_le _) ⟨fr,rfl,C,E,F,Nat.zero_le _,by simp⟩)
 ·rintro k _ I ⟨fr,rfl,C,E,F,J,H⟩
  have O:(k:Int)<s.length:=by omega
  have X:=nQ (k:=k) (by omega)
  have r:=BQ k J H
  rw[List.drop_eq_getElem_cons I,pt]at r
  by_cases U:s[k]=46
  ·right
   have D:(s[k]:Int)=46:=by omega
   rw[if_pos U]at r
   simp only[Option.map_some,Nat.zero_add]at r
   simp only[qA,seval,sv,C,E,F,O,qd I,D]
   refine⟨_,_,jJ,rfl,by rw[K,r];rfl,fun i hi=> ?_,rfl,rfl⟩
   rw[r]at hi
   cases hi
   simp only[qA,seval]
  ·left
   have D: ¬(s[k]:Int)=46:=by omega
   simp only[qA,seval,sv,C,E,F,O,qd I,D,X]
   refine⟨_,rfl,_,rfl, ?_, ?_, ?_,by omega, ?_⟩
   all_goals first|(simp only[qA,seval,C,E];done)|skip
   intro j Y N
   by_cases e:j=k
   ·subst e;exact U
   ·exact H j (by omega) N
 ·rintro _ ⟨fr,rfl,C,E,F,J,H⟩
  have r:=BQ s.length J H
  rw[List.drop_length,pt]at r
  simp only[qA,seval,sv,C,F,Int.lt_irrefl]
  refine⟨_,_,jB,rfl,by rw[K,r];rfl,fun i hi=> ?_,rfl,rfl⟩
  rw[r]at hi;cases hi
def FV(s:List Nat):Int:=match pt s with|none=> -1|some i=>(i:Int)
theorem Y8(s:List Nat)(hs:s.length≤l6):gS pE 304 [.s s,.i .u8 46] []=some (.i .i64 (FV s),[]):=by
 have r:=fun fr lh sh=>aj8 s hs _ rfl fr lh sh
 rw[gX afQ (by simp[Q6])]
 unfold FV
 cases C:pt s with
 |none=>
  simp only[C,if_true,reduceCtorEq,false_implies,implies_true,true_and]at r
  simp only[qA,seval,Q6,r]
 |some i=>
  simp only[C,reduceCtorEq,if_false,Option.some.injEq,forall_eq']at r
  simp only[qA,seval,Q6,r]
theorem Hh{fr:Fr}{r:List Nat}{x:iz}{k:IntKind}{j:Nat}(h:rd fr x= .i k (j:Int))(C:j≤r.length):uZ fr (.s r) (some x) none=some (.s (r.drop j)):=by
 unfold uZ kG
 have D:List.take (r.length-j) (r.drop j)=r.drop j:=List.take_of_length_le (by simp)
 simp[h,H8,C,D]
theorem Qa{fr:Fr}{r:List Nat}{x:iz}{k:IntKind}{j:Nat}(h:rd fr x= .i k (j:Int))(C:j≤r.length):uZ fr (.s r) none (some x)=some (.s (r.take j)):=by
 unfold uZ kG
 simp[h,H8,C]
theorem Cu{s:List Nat}{i:Nat}(h:pt s=some i):qx s=(lQ (s.take i)&&lQ (s.drop (i+1))):=by unfold qx;rw[h]
theorem Cv{s:List Nat}(h:pt s=none):qx s=qw s:=by unfold qx;rw[h]
theorem NZ(s:List Nat)(hs:s.length≤l6):gS pE 289 [.s s] []=some (.b (qx s),[]):=by
 have r:=Y8 s hs
 unfold FV at r
 rw[gX afG (by simp[Q3])]
 cases C:pt s with
 |none=>
  simp only[C]at r
  rw[Cv C]
  simp only[qA,seval,Q3,r,afR,tV,JP]
 |some i=>
  simp only[C]at r
  rw[Cu C]
  have hi:=IU C
  have F: ¬(i:Int)<0:=by omega
  have E:=nQ (k:=i) (by omega)
  have D:i≤s.length:=by omega
  have J2:i+1≤s.length:=by omega
  generalize i+1=j at E J2 ⊢
  have H:=fun fr x (h:rd fr x= .i .i64 (j:Int))=>Hh h J2
  have I:=fun fr x (h:rd fr x= .i .i64 (i:Int))=>Qa h D
  cases J:lQ (s.take i) <;> simp only[qA,seval,Q3,r,afR,Av,tg,F,E,H,I,J]
theorem Lz: ∀s:List Nat,Nc s 46=FV s
 | []=>rfl
 |c::cs=>by
  rw[Nc,Lz cs]
  unfold FV
  rw[pt]
  by_cases h:c=46
  ·simp[h]
  ·rw[if_neg h,if_neg h]
   cases pt cs with
   |none=>rfl
   |some i=>simp only[Option.map_some];rw[if_neg (by omega)];omega
theorem agS{z:Nat}{fr:Fr}{lh:hJ gR}{sh:List gR}{s:List Nat}:iU pE (gS pE) z ⟨fr,lh,sh⟩ 326 [.s s,.s [46]]=some (.i .i64 (FV s),⟨fr,lh,sh⟩):=by
 rw[Wv (g:=aak) rfl rfl,wL (by rfl),←Lz]
 rfl
theorem S1{s:List Nat}{i:Nat}(h:pt s=some i):FV s=(i:Int):=by unfold FV;rw[h]
theorem S2{s:List Nat}(h:pt s=none):FV s= -1:=by unfold FV;rw[h]
theorem ati{s:List Nat}(i:pt s=none):gS pE 319 [.s s,.s [46]] []=some (.tup [.s s,.s [],.b false],[]):=by
 have r:gS pE 325 [.s s,.s [46]] []=some (.tup [.s s,.s [],.b false],[]):=by
  rw[gX VL (by simp[Mu])]
  simp only[qA,seval,uZ,Mu,agS,S2 i]
 rw[gX VI (by simp[Mt])]
 simp only[qA,seval,Mt,r,af0]
theorem atj{s:List Nat}{i:Nat}(hs:s.length≤l6)(C:pt s=some i):gS pE 319 [.s s,.s [46]] []=some (.tup [.s (s.take i),.s (s.drop (i+1)),.b true],[]):=by
 have hi:=IU C
 have E:(0:Int)≤i:=by omega
 have D:=nQ (k:=i) (by omega)
 have r:i≤s.length:=by omega
 have J2:i+1≤s.length:=by omega
 generalize i+1=j at D J2 ⊢
 have F:=fun fr x (h:rd fr x= .i .i64 (j:Int))=>Hh h J2
 have H:=fun fr x (h:rd fr x= .i .i64 (i:Int))=>Qa h r
 have I:gS pE 325 [.s s,.s [46]] []=some (.tup [.s (s.take i),.s (s.drop j),.b true],[]):=by
  rw[gX VL (by simp[Mu])]
  simp only[qA,seval,Mu,agS,S1 C,E,D,F,H]
 rw[gX VI (by simp[Mt])]
 simp only[qA,seval,Mt,I,af0]
theorem N0(s:List Nat)(hs:s.length≤l6):gS pE 301 [.s s] []=some (.b (qx s),[]):=by
 rw[gX afM (by simp[Q5])]
 cases r:pt s with
 |none=>
  rw[Cv r]
  simp only[qA,seval,Q5,ati r,afU,tU,qE]
 |some i=>
  have C:=atj hs r
  rw[Cu r]
  generalize i+1=j at C ⊢
  cases D:lQ (s.take i) <;> simp only[qA,seval,Q5,C,afU,Ax,vR,D]
mutual
def Ex.sm:Ex→Prop
 | .mk _ _ name args=>name.length≤l6∧smL args
def smL:List Ex→Prop
 | []=>True
 |x::xs=>x.sm∧smL xs
end
theorem Ex.sm_eq(x:Ex):x.sm↔(x.name.length≤l6∧smL x.args):=by obtain⟨_,_,_,_⟩:=x;rw[Ex.sm];rfl
theorem Da: ∀{xs:List Ex},smL xs↔ ∀x∈xs,x.sm
 | []=>by simp[smL]
 |x::xs=>by rw[smL,Da (xs:=xs)];simp
def wfP(y:Ex):Prop:= ∀cs:List T,lK y cs→y.nodes≤100000→y.sm→gS pE 273 [.agg cs] []=some (.b y.wf,[])
theorem LA{xs:List Ex}{k:Nat}(i:k<xs.length):sM (xs.drop k)=(xs[k].wf&&sM (xs.drop (k+1))):=by rw[xF i,sM]
theorem wf1(xs:List Ex)(ih: ∀y∈xs,wfP y)(a:T)(F:List T)(V:g8 a xs.length F)(W:jN xs F)(H:jt xs≤100000)(X:smL xs)(o:Out)(I:o=if sM xs then .ext 1 else .ret)(fr:Fr)(lh:hJ gR)(sh:List gR)
  (CM:an fr 59=a) (BR:an fr 60= .i .i64 (xs.length:Int)) (CN:an fr 61= .i .i64 0):
  kV 69 uM fr lh sh o∧
  ((sM xs=false→an (kh pE 69 uM fr lh sh) 2= .b false)∧kb pE 69 uM fr lh sh=sh):=by
 refine ib (P:=fun fr il Y=>(sM xs=false→an fr 2= .b false)∧Y=sh) (ij (fun k st=> ∃(fr:Fr) (lh:hJ gR),st=⟨fr,lh,sh⟩∧an fr 59=a∧an fr 60= .i .i64 (xs.length:Int)∧an fr 61= .i .i64 (k:Int)∧sM xs=sM (xs.drop k)) _ xs.length ?_ ?_ 0 _ (Nat.zero_le _) ⟨fr,lh,rfl,CM,BR,CN,rfl⟩)
 ·rintro k _ D ⟨fr,lh,rfl,CM,BR,CN,C⟩
  have J:(k:Int)<xs.length:=by omega
  have DY:=jR xs
  have Z:=mj (List.getElem_mem D)
  have hw:=iD (k:=k) (ku (by omega))
  obtain⟨b,cb,r,K,N,oV,hb⟩:=mY V W k D
  have E:=ih xs[k] (List.getElem_mem D) _ hb (by omega) (Da.1 X _ (List.getElem_mem D))
  rw[LA D]at C
  cases O:xs[k].wf with
  |true=>
   left
   rw[O]at E C
   simp only[qA,seval,uM,CM,BR,CN,J,K,hw,E,VF,N.froz1]
   refine⟨_,rfl,_,_,rfl, ?_, ?_, ?_,C⟩ <;> simp only[qA,seval,CM,BR]
  |false=>
   right
   rw[O]at E C
   simp only[qA,seval,uM,CM,BR,CN,J,K,E,VF,N.froz1]
   refine⟨_,_,jJ,rfl,by rw[I,C];rfl,fun _=>by simp only[qA,seval],rfl⟩
 ·rintro _ ⟨fr,lh,rfl,CM,BR,CN,C⟩
  rw[List.drop_length,sM]at C
  simp only[qA,seval,uM,BR,CN,Int.lt_irrefl]
  exact⟨_,_,jB,rfl,by rw[I,C];rfl,fun U=>(by rw[C]at U;cases U),rfl⟩
theorem Qb{op num:Int}{name:List Nat}{n:Nat}(h:op<1):oD op num name n=false:=by unfold oD;rw[decide_eq_false (by omega)];rfl
theorem Qc{op num:Int}{name:List Nat}{n:Nat}(h:22<op):oD op num name n=false:=by unfold oD;rw[decide_eq_false (p:=op≤22) (by omega)];simp
theorem Qd{op num:Int}{name:List Nat}{n:Nat}(i: ¬op<1)(r: ¬22<op):oD op num name n=(jA op n&&(decide (0≤num∧num≤qN op)&&(if op=6 then qx name else decide (name= [])))):=by
 unfold oD;rw[decide_eq_true (p:=1≤op) (by omega),decide_eq_true (p:=op≤22) (by omega)];rfl
theorem atk(x:Ex):wfP x:=by
 induction x using Ex.ind with
 |h x ih=>
  intro cs Y hn hs
  obtain⟨a,Z,rfl,C,BB⟩:=Y.cells
  rw[gX afs (by simp[qT]),Ex.wf_eq]
  have hnd:=x.nodes_eq
  obtain⟨rE,yk⟩:=(Ex.sm_eq x).1 hs
  have E:=fun fr lh sh=>wf1 x.args ih a Z C BB (by omega) yk _ rfl fr lh sh
  have N:=N0 x.name rE
  generalize x.op=op,x.num=num,x.name=name,x.args.length=n at*
  by_cases H:op<1
  ·rw[Qb H];simp only[qA,seval,qT,H]
  by_cases I:(22:Int)<op
  ·rw[Qc I];simp only[qA,seval,qT,H,I]
  rw[Qd H I]
  have r:=NX op n (by omega) (by omega)
  cases W:jA op n with
  |false=>
   rw[W]at r
   simp only[qA,seval,qT,H,I,C.lenI,r,oS]
  |true=>
   rw[W]at r
   have base: ∀b:Bool,(true&&b)=b:=fun b=>by simp
   rw[base]
   by_cases O:op=1
   ·subst O
    have J:qN 1=1099511627776:=rfl
    rw[J,if_neg (by decide)]
    by_cases i:num<0
    ·rw[decide_eq_false (by omega)];simp only[qA,seval,qT,C.lenI,r,oS,i]
    by_cases D:(1099511627776:Int)<num
    ·rw[decide_eq_false (fun h=>absurd h.2 (Int.not_le.2 D))];simp only[qA,seval,qT,C.lenI,r,oS,i,D]
    rw[decide_eq_true (p:=0≤num∧num≤1099511627776) ⟨Int.not_lt.1 i,Int.not_lt.1 D⟩,base]
    by_cases e:name= []
    ·rw[decide_eq_true e,base]
     cases F:sM x.args <;> simp only[F]at E <;> simp only[qA,seval,qT,C.lenI,r,oS,i,D,e,E]
    ·rw[decide_eq_false e];simp only[qA,seval,qT,C.lenI,r,oS,i,D,e]
   by_cases U:op=2
   ·subst U
    have J:qN 2=1099511627776:=rfl
    rw[J,if_neg (by decide)]
    by_cases i:num<0
    ·rw[decide_eq_false (by omega)];simp only[qA,seval,qT,C.lenI,r,oS,i]
    by_cases D:(1099511627776:Int)<num
    ·rw[decide_eq_false (fun h=>absurd h.2 (Int.not_le.2 D))];simp only[qA,seval,qT,C.lenI,r,oS,i,D]
    rw[decide_eq_true (p:=0≤num∧num≤1099511627776) ⟨Int.not_lt.1 i,Int.not_lt.1 D⟩,base]
    by_cases e:name= []
    ·rw[decide_eq_true e,base]
     cases F:sM x.args <;> simp only[F]at E <;> simp only[qA,seval,qT,C.lenI,r,oS,i,D,e,E]
    ·rw[decide_eq_false e];simp only[qA,seval,qT,C.lenI,r,oS,i,D,e]
   by_cases K:op=3
   ·subst K
    have J:qN 3=1439:=rfl
    rw[J,if_neg (by decide)]
    by_cases i:num<0
    ·rw[decide_eq_false (by omega)];simp only[qA,seval,qT,C.lenI,r,oS,i]
    by_cases D:(1439:Int)<num
    ·rw[decide_eq_false (fun h=>absurd h.2 (Int.not_le.2 D))];simp only[qA,seval,qT,C.lenI,r,oS,i,D]
    rw[decide_eq_true (p:=0≤num∧num≤1439) ⟨Int.not_lt.1 i,Int.not_lt.1 D⟩,base]
    by_cases e:name= []
    ·rw[decide_eq_true e,base]
     cases F:sM x.args <;> simp only[F]at E <;> simp only[qA,seval,qT,C.lenI,r,oS,i,D,e,E]
    ·rw[decide_eq_false e];simp only[qA,seval,qT,C.lenI,r,oS,i,D,e]
   have J:qN op=0:=by unfold qN;rw[if_neg (by omega),if_neg K]
   rw[J]
   by_cases i:num=0
   ·rw[decide_eq_true (p:=0≤num∧num≤0) (by omega),base]
    by_cases V:op=6
    ·subst V
     rw[if_pos rfl]
     cases X:qx name with
     |true=>
      rw[X]at N
      cases F:sM x.args <;> simp only[F]at E <;> simp only[qA,seval,qT,C.lenI,r,oS,i,N,afN,E]
     |false=>
      rw[X]at N
      simp only[qA,seval,qT,C.lenI,r,oS,i,N,afN]
    ·rw[if_neg V]
     by_cases e:name= []
     ·rw[decide_eq_true e,base]
      cases F:sM x.args <;> simp only[F]at E <;> simp only[qA,seval,qT,C.lenI,r,oS,H,I,O,U,K,V,i,e,E]
     ·rw[decide_eq_false e];simp only[qA,seval,qT,C.lenI,r,oS,H,I,O,U,K,V,i,e]
   ·rw[decide_eq_false (p:=0≤num∧num≤0) (by omega)]
    simp only[qA,seval,qT,C.lenI,r,oS,H,I,O,U,K,i]
def ndP(y:Ex):Prop:= ∀cs:List T,lK y cs→y.nodes≤200→y.sm→gS pE 261 [.agg cs] []=some (.b y.wf,[])
theorem nd1(xs:List Ex)(ih: ∀y∈xs,ndP y)(a:T)(K:List T)(H:g8 a xs.length K)(Z:jN xs K)(N:jt xs≤200)(qJ:smL xs)(op num:Int)(s:List Nat)(o:Out)(O:o=if sM xs then .ext 1 else .ret)(g:Nat)(fr:Fr)(lh:hJ gR)(sh:List gR)
  (D:an fr 1= .ptr .L 1 g 0) (E:an fr 6= .i .i64 0) (J:a6 lh 1=⟨g,.cells [.i .i64 op,.i .i64 num,.s s,a] 0 true⟩):
  kV 84 uL fr lh sh o∧
  ((sM xs=false→an (kh pE 84 uL fr lh sh) 2= .b false)∧kb pE 84 uL fr lh sh=sh):=by
 refine ib (P:=fun fr il iw=>(sM xs=false→an fr 2= .b false)∧iw=sh) (ij (fun k st=> ∃(fr:Fr),st=⟨fr,lh,sh⟩∧an fr 1= .ptr .L 1 g 0∧an fr 6= .i .i64 (k:Int)∧sM xs=sM (xs.drop k)) _ xs.length ?_ ?_ 0 _ (Nat.zero_le _) ⟨fr,rfl,D,E,rfl⟩)
 ·rintro k _ F ⟨fr,rfl,D,E,C⟩
  have U:(k:Int)<xs.length:=by omega
  have DY:=jR xs
  have hyk:=mj (List.getElem_mem F)
  have hw:=iD (k:=k) (ku (by omega))
  obtain⟨b,cb,r,V,W,oV,hb⟩:=mY H Z k F
  have I:=ih xs[k] (List.getElem_mem F) _ hb (by omega) (Da.1 qJ _ (List.getElem_mem F))
  rw[LA F]at C
  cases X:xs[k].wf with
  |true=>
   left
   rw[X]at I C
   simp only[qA,seval,uL,D,E,J,H.lenI,U,V,hw,I,VD,W.froz1]
   refine⟨_,rfl,_,rfl, ?_, ?_,C⟩ <;> simp only[qA,seval,D]
  |false=>
   right
   rw[X]at I C
   simp only[qA,seval,uL,D,E,J,H.lenI,U,V,I,VD,W.froz1]
   refine⟨_,_,jJ,rfl,by rw[O,C];rfl,fun _=>by simp only[qA,seval],rfl⟩
 ·rintro _ ⟨fr,rfl,D,E,C⟩
  rw[List.drop_length,sM]at C
  simp only[qA,seval,uL,D,E,J,H.lenI,Int.lt_irrefl]
  exact⟨_,_,jB,rfl,by rw[O,C];rfl,fun Y=>(by rw[C]at Y;cases Y),rfl⟩
theorem atl(x:Ex):ndP x:=by
 induction x using Ex.ind with
 |h x ih=>
  intro cs hx hn hs
  obtain⟨a,cc,rfl,C,BB⟩:=hx.cells
  rw[gX afl (by simp[pT]),Ex.wf_eq]
  have hnd:=x.nodes_eq
  have L3:=jR x.args
  obtain⟨rE,yk⟩:=(Ex.sm_eq x).1 hs
  have E:=fun fr lh sh=>nd1 x.args ih a cc C BB (by omega) yk x.op x.num x.name _ rfl 1 fr lh sh
  have U:=NZ x.name rE
  have X:x.args.length≤200:=by omega
  generalize x.op=op,x.num=num,x.name=name,x.args.length=n at*
  by_cases F:op<1
  ·rw[Qb F];simp only[qA,seval,pT,F]
  by_cases H:(22:Int)<op
  ·rw[Qc H];simp only[qA,seval,pT,F,H]
  rw[Qd F H]
  have D:=Y7 op (by omega) (by omega)
  have V:=aj7 op n (by omega) (by omega) X
  have base: ∀b:Bool,(true&&b)=b:=fun b=>by simp
  cases Y:jA op n with
  |false=>
   rw[Y]at V
   by_cases a1:(n:Int)<S0 op
   ·simp only[qA,seval,pT,F,H,C.lenI,D,od,a1]
   ·have a2:NY op<(n:Int):=by
     by_cases a2:NY op<(n:Int)
     ·exact a2
     ·exact absurd (V.2 ⟨a1,a2⟩) (by simp)
    simp only[qA,seval,pT,F,H,C.lenI,D,od,a1,a2]
  |true=>
   obtain⟨a1,a2⟩:=V.1 Y
   rw[base]
   generalize S0 op=lo,NY op=hi at D a1 a2
   clear V Y
   by_cases N:op=1
   ·subst N
    have J:qN 1=1099511627776:=rfl
    rw[J,if_neg (by decide)]
    by_cases i:num<0
    ·rw[decide_eq_false (by omega)];simp only[qA,seval,pT,C.lenI,D,od,a1,a2,i]
    by_cases r:(1099511627776:Int)<num
    ·rw[decide_eq_false (fun h=>absurd h.2 (Int.not_le.2 r))];simp only[qA,seval,pT,C.lenI,D,od,a1,a2,i,r]
    rw[decide_eq_true (p:=0≤num∧num≤1099511627776) ⟨Int.not_lt.1 i,Int.not_lt.1 r⟩,base]
    by_cases e:name= []
    ·rw[decide_eq_true e,base]
     cases I:sM x.args <;> simp only[I]at E <;> simp only[qA,seval,pT,C.lenI,D,od,a1,a2,i,r,e,E]
    ·rw[decide_eq_false e];simp only[qA,seval,pT,C.lenI,D,od,a1,a2,i,r,e]
   by_cases O:op=2
   ·subst O
    have J:qN 2=1099511627776:=rfl
    rw[J,if_neg (by decide)]
    by_cases i:num<0
    ·rw[decide_eq_false (by omega)];simp only[qA,seval,pT,C.lenI,D,od,a1,a2,i]
    by_cases r:(1099511627776:Int)<num
    ·rw[decide_eq_false (fun h=>absurd h.2 (Int.not_le.2 r))];simp only[qA,seval,pT,C.lenI,D,od,a1,a2,i,r]
    rw[decide_eq_true (p:=0≤num∧num≤1099511627776) ⟨Int.not_lt.1 i,Int.not_lt.1 r⟩,base]
    by_cases e:name= []
    ·rw[decide_eq_true e,base]
     cases I:sM x.args <;> simp only[I]at E <;> simp only[qA,seval,pT,C.lenI,D,od,a1,a2,i,r,e,E]
    ·rw[decide_eq_false e];simp only[qA,seval,pT,C.lenI,D,od,a1,a2,i,r,e]
   by_cases K:op=3
   ·subst K
    have J:qN 3=1439:=rfl
    rw[J,if_neg (by decide)]
    by_cases i:num<0
    ·rw[decide_eq_false (by omega)];simp only[qA,seval,pT,C.lenI,D,od,a1,a2,i]
    by_cases r:(1439:Int)<num
    ·rw[decide_eq_false (fun h=>absurd h.2 (Int.not_le.2 r))];simp only[qA,seval,pT,C.lenI,D,od,a1,a2,i,r]
    rw[decide_eq_true (p:=0≤num∧num≤1439) ⟨Int.not_lt.1 i,Int.not_lt.1 r⟩,base]
    by_cases e:name= []
    ·rw[decide_eq_true e,base]
     cases I:sM x.args <;> simp only[I]at E <;> simp only[qA,seval,pT,C.lenI,D,od,a1,a2,i,r,e,E]
    ·rw[decide_eq_false e];simp only[qA,seval,pT,C.lenI,D,od,a1,a2,i,r,e]
   have J:qN op=0:=by unfold qN;rw[if_neg (by omega),if_neg K]
   rw[J]
   by_cases i:num<0
   ·rw[decide_eq_false (by omega)];simp only[qA,seval,pT,C.lenI,D,od,a1,a2,F,H,N,O,K,i]
   by_cases r:(0:Int)<num
   ·rw[decide_eq_false (by omega)];simp only[qA,seval,pT,C.lenI,D,od,a1,a2,F,H,N,O,K,i,r]
   rw[decide_eq_true (p:=0≤num∧num≤0) (by omega),base]
   by_cases W:op=6
   ·subst W
    rw[if_pos rfl]
    cases Z:qx name with
    |true=>
     rw[Z]at U
     cases I:sM x.args <;> simp only[I]at E <;> simp only[qA,seval,pT,C.lenI,D,od,a1,a2,i,r,U,afH,E]
    |false=>
     rw[Z]at U
     simp only[qA,seval,pT,C.lenI,D,od,a1,a2,i,r,U,afH]
   ·rw[if_neg W]
    by_cases e:name= []
    ·rw[decide_eq_true e,base]
     cases I:sM x.args <;> simp only[I]at E <;> simp only[qA,seval,pT,C.lenI,D,od,a1,a2,F,H,N,O,K,W,i,r,e,E]
    ·rw[decide_eq_false e];simp only[qA,seval,pT,C.lenI,D,od,a1,a2,F,H,N,O,K,W,i,r,e]
theorem AU{x:Ex}(i:iX x=0):x.nodes≤200:=by
 unfold iX at i
 by_cases h:big x
 ·rw[if_pos h]at i;cases i
 ·unfold big at h;omega
theorem S3(x:Ex)(cs:List T)(D:lK x cs)(U:0≤x.nodes)(hs:x.sm): ∃s,gS pE 229 [.agg cs] []=some (.i .i64 (iX x),s):=by
 obtain⟨V,r,_⟩:=acA x 1 0 cs D (by omega) (by omega)
 have E:=fun h=>atk x cs D h hs
 have J:j3 0 1 x↔ ¬big x:=by unfold j3 big;omega
 obtain⟨a,W,rfl,F,BB⟩:=D.cells
 rw[gX aeX (by simp[QR])]
 unfold El at r
 have H:((0:Nat):Int)=0:=rfl
 have I:((1:Nat):Int)=1:=rfl
 rw[H,I]at r
 unfold iX
 by_cases C:big x
 ·have N: ¬j3 0 1 x:=fun h=>J.1 h C
  rw[decide_eq_false N]at r
  simp only[qA,seval,mX,kq,QR,r,OG,F.kept1,C]
  exact⟨_,rfl⟩
 ·have K:=E (by unfold big at C;omega)
  rw[decide_eq_true (J.2 C)]at r
  cases O:x.wf <;> rw[O]at K <;> simp only[qA,seval,mX,kq,QR,r,OG,K,VF,F.kept1,F.froz1,C] <;> exact⟨_,rfl⟩
theorem uh{z:Nat}{fr:Fr}{lh:hJ gR}{sh:List gR}(x:Ex)(cs:List T)(r:lK x cs)(C:0≤x.nodes)(hs:x.sm):iU pE (gS pE) z ⟨fr,lh,sh⟩ 229 [.agg cs]=some (.i .i64 (iX x),⟨fr,lh,sh⟩):=by
 obtain⟨s,h⟩:=S3 x cs r C hs
 obtain⟨a,E,rfl,D,BB⟩:=r.cells
 rw[apA (by simp[Ks,Al,H9,D.froz1]),h];rfl
theorem rn(x:Ex)(cs:List T)(D:lK x cs)(hs:x.sm):gS pE 196 [.agg cs] []=some (.i .i64 (iX x),[]):=by
 have E:=adp x cs D
 have F:=aj5 x
 have K:=atl x cs D
 obtain⟨a,O,rfl,H,BB⟩:=D.cells
 rw[gX aeK (by simp[Mp])]
 unfold iX
 generalize x.sz 1=p at*
 by_cases I:(200:Int)<(p.1:Int)
 ·have r:big x:=F.1 (by omega)
  simp only[qA,seval,Mp,E,VC,H.froz1,r,I]
 ·by_cases J:(16:Int)<(p.2:Int)
  ·have r:big x:=F.1 (by omega)
   simp only[qA,seval,Mp,E,VC,H.froz1,r,I,J]
  ·have r: ¬big x:=fun h=>by have:=F.2 h;omega
   have C:=K (by unfold big at r;omega) hs
   cases N:x.wf <;> rw[N]at C <;> simp only[qA,seval,Mp,E,VC,H.froz1,r,I,J,C,VD]
theorem kg(l:List Int):(ints l).length=l.length:=by simp[ints]
theorem xB(l:List Int)(k:Nat)(r:k<l.length):(ints l).drop k=T.i .i64 l[k]::(ints l).drop (k+1):=by
 rw[List.drop_eq_getElem_cons (by rw[kg];exact r)];simp[ints]
theorem pz{a:T}{ts:List Int}(C:g8 a ts.length (ints ts)){k:Nat}(r:k<ts.length)(kk:IntKind):sH a (.i kk (k:Int)) 1=some (.vp (T.i .i64 ts[k]::(ints ts).drop (k+1))):=by
 rw[C.ia (sz:=1) (by rw[kg];omega) r,Nat.mul_one,xB ts k r]
theorem Hi{ts:List Int}{k:Nat}{t:Int}(i:k<ts.length):kW (ts.drop k) t=(decide (ts[k]=t)&&kW (ts.drop (k+1)) t):=by
 unfold kW;rw[List.drop_eq_getElem_cons i,List.all_cons]
theorem atm(ts:List Int)(t:Int)(a:T)(J:g8 a ts.length (ints ts))(K:ts.length≤oQ)(o:Out)(N:o=if kW ts t then .ext 0 else .ret)(fr:Fr)(lh:hJ gR)(sh:List gR)
  (D:an fr 1= .i .i64 t) (E:an fr 7=a) (C:an fr 8= .i .i64 (ts.length:Int)) (F:an fr 9= .i .i64 0):
  kV 17 sw fr lh sh o∧
  ((kW ts t=false→an (kh pE 17 sw fr lh sh) 4= .b false)∧kH pE 17 sw fr lh sh=lh∧kb pE 17 sw fr lh sh=sh):=by
 refine ib (P:=fun fr V W=>(kW ts t=false→an fr 4= .b false)∧V=lh∧W=sh) (ij (fun k st=> ∃(fr:Fr),st=⟨fr,lh,sh⟩∧an fr 1= .i .i64 t∧an fr 7=a∧an fr 8= .i .i64 (ts.length:Int)∧an fr 9= .i .i64 (k:Int)∧kW ts t=kW (ts.drop k) t) _ ts.length ?_ ?_ 0 _ (Nat.zero_le _) ⟨fr,rfl,D,E,C,F,rfl⟩)
 ·rintro k _ I ⟨fr,rfl,D,E,C,F,r⟩
  have O:(k:Int)<ts.length:=by omega
  have X:=iD (k:=k) (by omega)
  rw[Hi I]at r
  by_cases H:ts[k]=t
  ·left
   rw[decide_eq_true H,Bool.true_and]at r
   simp only[qA,seval,sw,D,E,C,F,O,pz J I,X,H]
   refine⟨_,rfl,_,rfl, ?_, ?_, ?_, ?_,r⟩ <;> simp only[qA,seval,D,E,C]
  ·right
   rw[decide_eq_false H,Bool.false_and]at r
   simp only[qA,seval,sw,D,E,C,F,O,pz J I,H]
   refine⟨_,_,jJ,rfl,by rw[N,r];rfl,fun _=>by simp only[qA,seval],rfl,rfl⟩
 ·rintro _ ⟨fr,rfl,D,E,C,F,r⟩
  rw[List.drop_length]at r
  have r:kW ts t=true:=r
  simp only[qA,seval,sw,C,F,Int.lt_irrefl]
  exact⟨_,_,jB,rfl,by rw[N,r];rfl,fun U=>(by rw[r]at U;cases U),rfl,rfl⟩
theorem Qe(ts:List Int)(t:Int)(a:T)(C:g8 a ts.length (ints ts))(r:ts.length≤oQ):gS pE 321 [a,.i .i64 t] []=some (.b (kW ts t),[]):=by
 have D:=fun fr lh sh=>atm ts t a C r _ rfl fr lh sh
 rw[gX afW (by simp[US])]
 cases h:kW ts t <;> simp only[h]at D <;> simp only[qA,seval,US,C.lenI,D]
theorem atn(ts:List Int)(t:Int)(a:T)(F:g8 a ts.length (ints ts))(J:ts.length≤oQ)(o:Out)(K:o=if kW ts t then .ext 0 else .ret)(fr:Fr)(lh:hJ gR)(sh:List gR)
  (C:an fr 0=a) (D:an fr 1= .i .i64 t) (E:an fr 5= .i .i64 0):
  kV 18 su fr lh sh o∧
  ((kW ts t=false→an (kh pE 18 su fr lh sh) 4= .b false)∧kH pE 18 su fr lh sh=lh∧kb pE 18 su fr lh sh=sh):=by
 refine ib (P:=fun fr U V=>(kW ts t=false→an fr 4= .b false)∧U=lh∧V=sh) (ij (fun k st=> ∃(fr:Fr),st=⟨fr,lh,sh⟩∧an fr 0=a∧an fr 1= .i .i64 t∧an fr 5= .i .i64 (k:Int)∧kW ts t=kW (ts.drop k) t) _ ts.length ?_ ?_ 0 _ (Nat.zero_le _) ⟨fr,rfl,C,D,E,rfl⟩)
 ·rintro k _ I ⟨fr,rfl,C,D,E,r⟩
  have N:(k:Int)<ts.length:=by omega
  have W:=iD (k:=k) (by omega)
  rw[Hi I]at r
  by_cases H:ts[k]=t
  ·left
   rw[decide_eq_true H,Bool.true_and]at r
   simp only[qA,seval,su,C,D,E,F.lenI,N,pz F I,W,H]
   refine⟨_,rfl,_,rfl, ?_, ?_, ?_,r⟩ <;> simp only[qA,seval,C,D]
  ·right
   rw[decide_eq_false H,Bool.false_and]at r
   simp only[qA,seval,su,C,D,E,F.lenI,N,pz F I,H]
   refine⟨_,_,jJ,rfl,by rw[K,r];rfl,fun _=>by simp only[qA,seval],rfl,rfl⟩
 ·rintro _ ⟨fr,rfl,C,D,E,r⟩
  rw[List.drop_length]at r
  have r:kW ts t=true:=r
  simp only[qA,seval,su,C,E,F.lenI,Int.lt_irrefl]
  exact⟨_,_,jB,rfl,by rw[K,r];rfl,fun O=>(by rw[r]at O;cases O),rfl,rfl⟩
theorem Dc(ts:List Int)(t:Int)(a:T)(D:g8 a ts.length (ints ts))(r:ts.length≤oQ):gS pE 290 [a,.i .i64 t] []=some (.b (kW ts t),[]):=by
 have C:=fun fr lh sh=>atn ts t a D r _ rfl fr lh sh
 rw[gX afI (by simp[UP])]
 cases h:kW ts t <;> simp only[h]at C <;> simp only[qA,seval,UP,C]
theorem Hj(k:Int):gS pE 320 [.i .i64 k] []=some (.b (decide (k=1∨k=2)),[]):=by
 rw[gX VJ (by simp[Q8])]
 by_cases r:k=1
 ·simp only[qA,seval,Q8,r,true_or]
 ·by_cases C:k=2 <;> simp only[qA,seval,Q8,r,C,or_true,or_self]
theorem E0(op a b:Int):gS pE 322 [.i .i64 op,.i .i64 a,.i .i64 b] []=some (.i .i64 (qO op a b),[]):=by
 rw[gX VK (by simp[Bc])]
 unfold qO
 by_cases a1:a=1
 ·subst a1
  by_cases r:b=1
  ·simp only[qA,seval,Bc,r]
  ·by_cases C:op=10
   ·by_cases E:b=2 <;> simp only[qA,seval,Bc,r,E,C]
   ·by_cases D:op=11 <;> simp only[qA,seval,Bc,r,C,D]
 ·by_cases a2:a=2
  ·subst a2
   by_cases r:b=1
   ·simp only[qA,seval,Bc,r]
   ·by_cases C:op=10
    ·simp only[qA,seval,Bc,r,C]
    ·by_cases D:op=11
     ·by_cases E:b=2 <;> simp only[qA,seval,Bc,r,E,D]
     ·simp only[qA,seval,Bc,r,C,D]
  ·by_cases C:op=10
   ·simp only[qA,seval,Bc,a1,a2,C]
   ·by_cases D:op=11 <;> simp only[qA,seval,Bc,a1,a2,C,D]
theorem mB{a:T}{t:Int}{ts:List Int}(r:g8 a (t::ts).length (ints (t::ts))): ∃ex,a= .sl (.i .i64 t::ints ts) (ts.length+1) ex:=by
 rcases r with⟨_,h,_⟩|⟨ex,h⟩
 ·simp at h
 ·exact⟨ex,h⟩
theorem N1{ts:List Int}(h:ts.length=1): ∃a,ts= [a]:=by
 match ts,h with
 | [a],_=>exact⟨a,rfl⟩
theorem mh{ts:List Int}(h:ts.length=2): ∃a b,ts= [a,b]:=by
 match ts,h with
 | [a,b],_=>exact⟨a,b,rfl⟩
theorem yB{ts:List Int}(h:ts.length=3): ∃a b c,ts= [a,b,c]:=by
 match ts,h with
 | [a,b,c],_=>exact⟨a,b,c,rfl⟩
theorem pA(t:Int)(ts:List Int)(k:Int):kW (t::ts) k=(decide (t=k)&&kW ts k):=rfl
theorem E1(k:Int):kW [] k=true:=rfl
theorem Y9(t:Int)(ts:List Int):(if kW (t::ts) 1 then(1:Int)else if kW (t::ts) 2 then 2 else 0)=if(t=1∨t=2)∧kW (t::ts) t=true then t else 0:=by
 rw[pA,pA,pA,decide_eq_true (p:=t=t) rfl,Bool.true_and]
 by_cases i:t=1
 ·subst i;simp
 ·by_cases r:t=2
  ·subst r;simp
  ·simp[i,r]
theorem ui(op k:Int)(ts:List Int)(a:T)(r:g8 a ts.length (ints ts))(C:ts.length≤oQ)(h:op=15∧k=3∨(op=19∨op=20∨op=21∨op=22)∧k=4):gS pE 323 [.i .i64 op,a] []=some (.b (kW ts k),[]):=by
 have D:=Qe ts k a r C
 rw[gX OJ (by simp[Fs])]
 rcases h with⟨rfl,rfl⟩|⟨rfl|rfl|rfl|rfl,rfl⟩ <;> simp only[qA,seval,Fs,D,afX,r.froz]
theorem Hk(op x y:Int)(a:T)(D:g8 a 2 (ints [x,y]))(h:op=16∨op=17):gS pE 323 [.i .i64 op,a] []=some (.b (decide ((x=1∨x=2)∧x=y)),[]):=by
 obtain⟨ex,rfl⟩:=mB (ts:= [y]) D
 have r:=Hj x
 rw[gX OJ (by simp[Fs])]
 by_cases C:x=1∨x=2
 ·rw[decide_eq_true C]at r
  rcases h with rfl|rfl <;> simp only[qA,seval,jm,iR,iy,Fs,r,OI,afV,ints,C]
 ·rw[decide_eq_false C]at r
  rcases h with rfl|rfl <;> simp only[qA,seval,jm,iR,Fs,r,OI,afV,ints,C]
theorem Za(x y:Int)(a:T)(r:g8 a 2 (ints [x,y])):gS pE 323 [.i .i64 18,a] []=some (.b (decide (x=y)),[]):=by
 obtain⟨ex,rfl⟩:=mB (ts:= [y]) r
 rw[gX OJ (by simp[Fs])]
 simp only[qA,seval,jm,iR,Fs,ints]
theorem N2(op:Int)(ts:List Int)(a:T)(r:g8 a ts.length (ints ts))(F:ts.length≤oQ)(U:1≤op)(V:op≤22)(W:op≠6)(C:jA op ts.length=true):gS pE 302 [.i .i64 op,a] []=some (.i .i64 (mH op ts),[]):=by
 rw[gX afO (by simp[tA])]
 have H: ∀t DE,ts=t::DE→(op=7∨op=8∨op=9∨op=12∨op=13)→yJ tA.res tA.eff (DC pE tA.n tA.code ⟨pe [.i .i64 op,a],.nil,[]⟩)=some (.i .i64 (if(t=1∨t=2)∧kW ts t=true then t else 0),[]):=by
  rintro t DE rfl I
  have N:=Qe (t::DE) t a r F
  have J:=Hj t
  obtain⟨ex,rfl⟩:=mB r
  have O:0<DE.length+1:=Nat.succ_pos _
  by_cases D:t=1∨t=2
  ·rw[decide_eq_true D]at J
   cases X:kW (t::DE) t <;> rw[X]at N <;> rcases I with rfl|rfl|rfl|rfl|rfl <;>
    simp only[qA,seval,jm,tA,J,OI,N,afX,D,O]
  ·rw[decide_eq_false D]at J
   rcases I with rfl|rfl|rfl|rfl|rfl <;> simp only[qA,seval,jm,tA,J,OI,D,O]
 have LB: ∀b:Bool,gS pE 323 [.i .i64 op,a] []=some (.b b,[])→(op=15∨op=16∨op=17∨op=18∨op=19∨op=20∨op=21∨op=22)→yJ tA.res tA.eff (DC pE tA.n tA.code ⟨pe [.i .i64 op,a],.nil,[]⟩)=some (.i .i64 (if b=true then 4 else 0),[]):=by
  intro b Y I
  cases b <;> rcases I with rfl|rfl|rfl|rfl|rfl|rfl|rfl|rfl <;> simp only[qA,seval,tA,Y,apV,r.froz]
 rcases oO U V with rfl|rfl|rfl|rfl|rfl|rfl|rfl|rfl|rfl|rfl|rfl|rfl|rfl|rfl|rfl|rfl|rfl|rfl|rfl|rfl|rfl|rfl
 iterate 5 ·simp only[qA,seval,tA,mH]
 ·exact absurd rfl W
 ·obtain⟨x,rfl⟩:=N1 (by simpa[jA]using C)
  rw[H x [] rfl (by simp),←Y9];rfl
 ·obtain⟨x,y,rfl⟩:=mh (by simpa[jA]using C)
  rw[H x [y] rfl (by simp),←Y9];rfl
 ·obtain⟨x,y,rfl⟩:=mh (by simpa[jA]using C)
  rw[H x [y] rfl (by simp),←Y9];rfl
 ·obtain⟨x,y,rfl⟩:=mh (by simpa[jA]using C)
  obtain⟨ex,rfl⟩:=mB r
  have K:=E0 10 x y
  simp only[qA,seval,jm,iR,iy,tA,ints,K,afY,afZ];rfl
 ·obtain⟨x,y,rfl⟩:=mh (by simpa[jA]using C)
  obtain⟨ex,rfl⟩:=mB r
  have K:=E0 11 x y
  simp only[qA,seval,jm,iR,iy,tA,ints,K,afY,afZ];rfl
 ·match ts,C with
  |x::ts,_=>rw[H x ts rfl (by simp),←Y9];rfl
 ·match ts,C with
  |x::ts,_=>rw[H x ts rfl (by simp),←Y9];rfl
 ·obtain⟨x,y,z,rfl⟩:=yB (by simpa[jA]using C)
  obtain⟨ex,rfl⟩:=mB r
  have E:mH 14 [x,y,z]=if x=4∧y=z then y else 0:=rfl
  rw[E]
  by_cases D:x=4
  ·by_cases Z:y=z <;> simp only[qA,seval,jm,iR,iy,tA,ints,D,Z]
  ·simp only[qA,seval,jm,iR,iy,tA,ints,D]
 ·exact LB _ (ui 15 3 ts a r F (by simp)) (by simp)
 ·obtain⟨x,y,rfl⟩:=mh (by simpa[jA]using C)
  rw[LB _ (Hk 16 x y a r (by simp)) (by simp)]
  have E:mH 16 [x,y]=if(x=1∨x=2)∧x=y then 4 else 0:=rfl
  rw[E];simp only[decide_eq_true_eq]
 ·obtain⟨x,y,rfl⟩:=mh (by simpa[jA]using C)
  rw[LB _ (Hk 17 x y a r (by simp)) (by simp)]
  have E:mH 17 [x,y]=if(x=1∨x=2)∧x=y then 4 else 0:=rfl
  rw[E];simp only[decide_eq_true_eq]
 ·obtain⟨x,y,rfl⟩:=mh (by simpa[jA]using C)
  rw[LB _ (Za x y a r) (by simp)]
  have E:mH 18 [x,y]=if x=y then 4 else 0:=rfl
  rw[E];simp only[decide_eq_true_eq]
 ·exact LB _ (ui 19 4 ts a r F (by simp)) (by simp)
 ·exact LB _ (ui 20 4 ts a r F (by simp)) (by simp)
 ·exact LB _ (ui 21 4 ts a r F (by simp)) (by simp)
 ·exact LB _ (ui 22 4 ts a r F (by simp)) (by simp)
theorem N3(op:Int)(ts:List Int)(a:T)(F:g8 a ts.length (ints ts))(O:ts.length≤oQ)(h1:1≤op)(h2:op≤22)(h6:op≠6)(I:jA op ts.length=true):gS pE 262 [.i .i64 op,a] []=some (.i .i64 (mH op ts),[]):=by
 rw[gX afm (by simp[qq])]
 have a1:=Dc ts 1 a F O
 have a2:=Dc ts 2 a F O
 have X:=Dc ts 3 a F O
 have Y:=Dc ts 4 a F O
 have H:=F.froz
 have J:(op=7∨op=8∨op=9∨op=12∨op=13)→yJ qq.res qq.eff (DC pE qq.n qq.code ⟨pe [.i .i64 op,a],.nil,[]⟩)=some (.i .i64 (if kW ts 1 then 1 else if kW ts 2 then 2 else 0),[]):=by
  intro K
  cases U:kW ts 1 <;> rw[U]at a1 <;> cases V:kW ts 2 <;> rw[V]at a2 <;> rcases K with rfl|rfl|rfl|rfl|rfl <;>
    simp only[qA,seval,qq,a1,a2,tB,H]
 rcases oO h1 h2 with rfl|rfl|rfl|rfl|rfl|rfl|rfl|rfl|rfl|rfl|rfl|rfl|rfl|rfl|rfl|rfl|rfl|rfl|rfl|rfl|rfl|rfl
 iterate 5 ·simp only[qA,seval,qq,mH]
 ·exact absurd rfl h6
 ·exact J (by simp)
 ·exact J (by simp)
 ·exact J (by simp)
 ·obtain⟨x,y,rfl⟩:=mh (by simpa[jA]using I)
  obtain⟨ex,rfl⟩:=mB F
  have D:mH 10 [x,y]=qO 10 x y:=rfl
  rw[D]
  simp only[pA,E1,Bool.and_true]at a1
  by_cases C:x=1
  ·by_cases r:y=1
   ·simp only[qA,seval,C,r,ints]at a1
    simp only[qA,seval,jm,qq,ints,a1,tB,C,r,qO]
   ·by_cases N:y=2 <;> simp only[qA,seval,C,r,N,ints]at a1 <;> simp only[qA,seval,jm,qq,ints,a1,tB,C,r,N,qO]
  ·by_cases E:x=2
   ·by_cases r:y=1 <;> simp only[qA,seval,E,r,ints]at a1 <;> simp only[qA,seval,jm,qq,ints,a1,tB,E,r,qO]
   ·simp only[qA,seval,C,ints]at a1
    simp only[qA,seval,jm,qq,ints,a1,tB,C,E,qO]
 ·obtain⟨x,y,rfl⟩:=mh (by simpa[jA]using I)
  obtain⟨ex,rfl⟩:=mB F
  have D:mH 11 [x,y]=qO 11 x y:=rfl
  rw[D]
  simp only[pA,E1,Bool.and_true]at a1 a2
  by_cases C:x=1
  ·by_cases r:y=1
   ·simp only[qA,seval,C,r,ints]at a1
    simp only[qA,seval,jm,qq,ints,a1,tB,C,r,qO]
   ·simp only[qA,seval,C,r,ints]at a1 a2
    simp only[qA,seval,jm,qq,ints,a1,a2,tB,C,r,qO]
  ·by_cases E:x=2
   ·by_cases r:y=1
    ·simp only[qA,seval,E,r,ints]at a1 a2
     simp only[qA,seval,jm,qq,ints,a1,a2,tB,E,r,qO]
    ·by_cases N:y=2 <;> simp only[qA,seval,E,r,N,ints]at a1 a2 <;> simp only[qA,seval,jm,qq,ints,a1,a2,tB,E,r,N,qO]
   ·simp only[qA,seval,C,E,ints]at a1 a2
    simp only[qA,seval,jm,qq,ints,a1,a2,tB,C,E,qO]
 ·exact J (by simp)
 ·exact J (by simp)
 ·obtain⟨x,y,z,rfl⟩:=yB (by simpa[jA]using I)
  obtain⟨ex,rfl⟩:=mB F
  have D:mH 14 [x,y,z]=if x=4∧y=z then y else 0:=rfl
  rw[D]
  by_cases Z:x=4
  ·by_cases W:y=z <;> simp only[qA,seval,jm,qq,ints,Z,W]
  ·simp only[qA,seval,jm,qq,ints,Z]
 ·have D:mH 15 ts=if kW ts 3 then 4 else 0:=rfl
  rw[D]
  cases k3:kW ts 3 <;> rw[k3]at X <;> simp only[qA,seval,qq,X,tB,H]
 iterate 2
  ·obtain⟨x,y,rfl⟩:=mh (by simpa[jA]using I)
   have D: ∀op,(op=16∨op=17)→mH op [x,y]=if kW [x,y] 1 then 4 else if kW [x,y] 2 then 4 else 0:=by
    intro op K
    have:mH op [x,y]=if(x=1∨x=2)∧x=y then 4 else 0:=by rcases K with rfl|rfl <;> rfl
    rw[this]
    simp only[pA,E1,Bool.and_true]
    by_cases C:x=1
    ·subst C;by_cases r:y=1
     ·simp[r]
     ·simp[r,Ne.symm r]
    ·by_cases E:x=2
     ·subst E;by_cases r:y=2
      ·simp[r]
      ·simp[r,Ne.symm r]
     ·simp[C,E]
   rw[D _ (by simp)]
   cases U:kW [x,y] 1 <;> rw[U]at a1 <;> cases V:kW [x,y] 2 <;> rw[V]at a2 <;> simp only[qA,seval,qq,a1,a2,tB,H]
 ·obtain⟨x,y,rfl⟩:=mh (by simpa[jA]using I)
  obtain⟨ex,rfl⟩:=mB F
  have D:mH 18 [x,y]=if x=y then 4 else 0:=rfl
  rw[D]
  by_cases W:x=y <;> simp only[qA,seval,jm,qq,ints,W]
 iterate 4
  ·have D: ∀op,(op=19∨op=20∨op=21∨op=22)→mH op ts=if kW ts 4 then 4 else 0:=by
    intro op K;rcases K with rfl|rfl|rfl|rfl <;> rfl
   rw[D _ (by simp)]
   cases k4:kW ts 4 <;> rw[k4]at Y <;> simp only[qA,seval,qq,Y,tB,H]
end Go.Proofs.YtblcbheipjeoeaaGreat
