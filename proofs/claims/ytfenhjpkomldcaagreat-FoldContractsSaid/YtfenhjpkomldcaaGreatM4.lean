/- The type of a node by the types of its arguments: the program's and the reference's. Types as the reference finds them. Types as the reference finds them. Conditions: the theorems' own. -/
import Derived.Test.YtfenhjpkomldcaaGreatM3
import Derived.KernelRfl
set_option maxRecDepth 100000
set_option linter.unusedSimpArgs false
set_option linter.unusedVariables false
set_option maxHeartbeats 16000000
namespace Go.Proofs.YtfenhjpkomldcaaGreat
open Go Go.Ev
theorem eQ{a:T}{t:Int}{ts:List Int}(ha:aR a (t::ts).length (ints (t::ts))): ∃ex,a= .sl (.i .i64 t::ints ts) (ts.length+1) ex:=by
 rcases ha with⟨_,h,_⟩|⟨ex,h⟩
 ·simp at h
 ·exact⟨ex,h⟩
theorem BQ{ts:List Int}(h:ts.length=1): ∃a,ts= [a]:=by
 match ts,h with
 | [a],_=>exact⟨a,rfl⟩
theorem ft{ts:List Int}(h:ts.length=2): ∃a b,ts= [a,b]:=by
 match ts,h with
 | [a,b],_=>exact⟨a,b,rfl⟩
theorem zj{ts:List Int}(h:ts.length=3): ∃a b c,ts= [a,b,c]:=by
 match ts,h with
 | [a,b,c],_=>exact⟨a,b,c,rfl⟩
theorem dt(t:Int)(ts:List Int)(k:Int):cY (t::ts) k=(decide (t=k)&&cY ts k):=rfl
theorem mF(k:Int):cY [] k=true:=rfl
theorem Hn(t:Int)(ts:List Int):(if cY (t::ts) 1 then(1:Int)else if cY (t::ts) 2 then 2 else 0)=if(t=1∨t=2)∧cY (t::ts) t=true then t else 0:=by
 rw[dt,dt,dt,decide_eq_true (p:=t=t) rfl,Bool.true_and]
 by_cases h1:t=1
 ·subst h1;simp
 ·by_cases h2:t=2
  ·subst h2;simp
  ·simp[h1,h2]
theorem mG(op k:Int)(ts:List Int)(a:T)(ha:aR a ts.length (ints ts))(hl:ts.length≤eG)(h:op=15∧k=3∨(op=19∨op=20∨op=21∨op=22)∧k=4):ai pE 249 [.i .i64 op,a] []=some (.b (cY ts k),[]):=by
 have h1:=Fc ts k a ha hl
 rw[aG D4 (by simp[we])]
 rcases h with⟨rfl,rfl⟩|⟨rfl|rfl|rfl|rfl,rfl⟩ <;> simp(maxDischargeDepth:=6) only[qF,ae,ah,aa,aj,ab,an,bn,aP,Nat.reduceAdd,reduceCtorEq,Nat.reduceLT,Nat.reduceEqDiff,Int.reduceEq,we,h1,Q1,ha.froz]
theorem xQ(op x y:Int)(a:T)(ha:aR a 2 (ints [x,y]))(h:op=16∨op=17):ai pE 249 [.i .i64 op,a] []=some (.b (decide ((x=1∨x=2)∧x=y)),[]):=by
 obtain⟨ex,rfl⟩:=eQ (ts:= [y]) ha
 have hm:=xP x
 rw[aG D4 (by simp[we])]
 by_cases hx:x=1∨x=2
 ·rw[decide_eq_true hx]at hm
  rcases h with rfl|rfl <;> simp(maxDischargeDepth:=6) only[qF,ae,ah,aa,aj,ab,an,bW,bn,aP,Nat.reduceAdd,reduceCtorEq,Nat.reduceLT,Nat.reduceLeDiff,Nat.reduceEqDiff,Int.reduceToNat,Int.reduceLE,Int.reduceEq,cq,aZ,we,hm,D3,QZ,ints,hx]
 ·rw[decide_eq_false hx]at hm
  rcases h with rfl|rfl <;> simp(maxDischargeDepth:=6) only[qF,ae,ah,aa,aj,ab,an,bW,bn,aP,Nat.reduceAdd,reduceCtorEq,Nat.reduceLT,Nat.reduceLeDiff,Nat.reduceEqDiff,Int.reduceToNat,Int.reduceLE,Int.reduceEq,cq,we,hm,D3,QZ,ints,hx]
theorem Ly(x y:Int)(a:T)(ha:aR a 2 (ints [x,y])):ai pE 249 [.i .i64 18,a] []=some (.b (decide (x=y)),[]):=by
 obtain⟨ex,rfl⟩:=eQ (ts:= [y]) ha
 rw[aG D4 (by simp[we])]
 simp(maxDischargeDepth:=6) only[qF,ae,ah,aa,aj,ab,an,bW,bn,aP,Nat.reduceAdd,reduceCtorEq,Nat.reduceLT,Nat.reduceLeDiff,Nat.reduceEqDiff,Int.reduceToNat,Int.reduceLE,Int.reduceEq,cq,we,ints]
theorem DH(op:Int)(ts:List Int)(a:T)(ha:aR a ts.length (ints ts))(hl:ts.length≤eG)(h1:1≤op)(h2:op≤22)(h6:op≠6)(bo:bm op ts.length=true):ai pE 215 [.i .i64 op,a] []=some (.i .i64 (dJ op ts),[]):=by
 rw[aG QI (by simp[l4])]
 have nL: ∀t uA,ts=t::uA→(op=7∨op=8∨op=9∨op=12∨op=13)→rR l4.res l4.eff (DC pE l4.n l4.code ⟨iO [.i .i64 op,a],.nil,[]⟩)=some (.i .i64 (if(t=1∨t=2)∧cY ts t=true then t else 0),[]):=by
  rintro t uA rfl ho
  have bl:=Fc (t::uA) t a ha hl
  have hm:=xP t
  have pU:=ha.froz
  obtain⟨ex,rfl⟩:=eQ ha
  have hz:0<uA.length+1:=Nat.succ_pos _
  by_cases hx:t=1∨t=2
  ·rw[decide_eq_true hx]at hm
   cases hk:cY (t::uA) t <;> rw[hk]at bl <;> rcases ho with rfl|rfl|rfl|rfl|rfl <;>
    simp(maxDischargeDepth:=6) only[qF,ae,ah,aa,aj,ab,an,bW,bn,aP,Nat.reduceAdd,reduceCtorEq,Nat.reduceLT,Nat.reduceLeDiff,Nat.reduceEqDiff,Int.reduceToNat,Int.reduceLE,Int.reduceEq,l4,hm,D3,bl,Q1,hx,hz]
  ·rw[decide_eq_false hx]at hm
   rcases ho with rfl|rfl|rfl|rfl|rfl <;> simp(maxDischargeDepth:=6) only[qF,ae,ah,aa,aj,ab,an,bW,bn,aP,Nat.reduceAdd,reduceCtorEq,Nat.reduceLT,Nat.reduceLeDiff,Nat.reduceEqDiff,Int.reduceToNat,Int.reduceLE,Int.reduceEq,l4,hm,D3,hx,hz]
 have vr: ∀b:Bool,ai pE 249 [.i .i64 op,a] []=some (.b b,[])→(op=15∨op=16∨op=17∨op=18∨op=19∨op=20∨op=21∨op=22)→rR l4.res l4.eff (DC pE l4.n l4.code ⟨iO [.i .i64 op,a],.nil,[]⟩)=some (.i .i64 (if b=true then 4 else 0),[]):=by
  intro b hb ho
  cases b <;> rcases ho with rfl|rfl|rfl|rfl|rfl|rfl|rfl|rfl <;> simp(maxDischargeDepth:=6) only[qF,ae,ah,aa,aj,ab,an,bn,aP,Nat.reduceAdd,reduceCtorEq,Nat.reduceLT,Nat.reduceEqDiff,Int.reduceEq,l4,hb,WG,ha.froz]
 rcases eP h1 h2 with rfl|rfl|rfl|rfl|rfl|rfl|rfl|rfl|rfl|rfl|rfl|rfl|rfl|rfl|rfl|rfl|rfl|rfl|rfl|rfl|rfl|rfl
 iterate 5 ·simp(maxDischargeDepth:=6) only[qF,ae,ah,aa,aj,ab,an,bn,aP,Nat.reduceAdd,reduceCtorEq,Nat.reduceLT,Nat.reduceEqDiff,Int.reduceEq,l4,dJ]
 ·exact absurd rfl h6
 ·obtain⟨x,rfl⟩:=BQ (by simpa[bm]using bo)
  rw[nL x [] rfl (by simp),←Hn];rfl
 ·obtain⟨x,y,rfl⟩:=ft (by simpa[bm]using bo)
  rw[nL x [y] rfl (by simp),←Hn];rfl
 ·obtain⟨x,y,rfl⟩:=ft (by simpa[bm]using bo)
  rw[nL x [y] rfl (by simp),←Hn];rfl
 ·obtain⟨x,y,rfl⟩:=ft (by simpa[bm]using bo)
  obtain⟨ex,rfl⟩:=eQ ha
  have hp:=vN 10 x y
  simp(maxDischargeDepth:=6) only[qF,ae,ah,aa,aj,ab,an,bW,bn,aP,Nat.reduceAdd,reduceCtorEq,Nat.reduceLT,Nat.reduceLeDiff,Nat.reduceEqDiff,Int.reduceToNat,Int.reduceLE,Int.reduceEq,cq,aZ,l4,ints,hp,Q2,Q3];rfl
 ·obtain⟨x,y,rfl⟩:=ft (by simpa[bm]using bo)
  obtain⟨ex,rfl⟩:=eQ ha
  have hp:=vN 11 x y
  simp(maxDischargeDepth:=6) only[qF,ae,ah,aa,aj,ab,an,bW,bn,aP,Nat.reduceAdd,reduceCtorEq,Nat.reduceLT,Nat.reduceLeDiff,Nat.reduceEqDiff,Int.reduceToNat,Int.reduceLE,Int.reduceEq,cq,aZ,l4,ints,hp,Q2,Q3];rfl
 ·match ts,bo with
  |x::ts,_=>rw[nL x ts rfl (by simp),←Hn];rfl
 ·match ts,bo with
  |x::ts,_=>rw[nL x ts rfl (by simp),←Hn];rfl
 ·obtain⟨x,y,z,rfl⟩:=zj (by simpa[bm]using bo)
  obtain⟨ex,rfl⟩:=eQ ha
  have hr:dJ 14 [x,y,z]=if x=4∧y=z then y else 0:=rfl
  rw[hr]
  by_cases hx:x=4
  ·by_cases hy:y=z <;> simp(maxDischargeDepth:=6) only[qF,ae,ah,aa,aj,ab,an,bW,bn,aP,Nat.reduceAdd,reduceCtorEq,Nat.reduceLT,Nat.reduceLeDiff,Nat.reduceEqDiff,Int.reduceToNat,Int.reduceLE,Int.reduceEq,cq,aZ,l4,ints,hx,hy]
  ·simp(maxDischargeDepth:=6) only[qF,ae,ah,aa,aj,ab,an,bW,bn,aP,Nat.reduceAdd,reduceCtorEq,Nat.reduceLT,Nat.reduceLeDiff,Nat.reduceEqDiff,Int.reduceToNat,Int.reduceLE,Int.reduceEq,cq,aZ,l4,ints,hx]
 ·exact vr _ (mG 15 3 ts a ha hl (by simp)) (by simp)
 ·obtain⟨x,y,rfl⟩:=ft (by simpa[bm]using bo)
  rw[vr _ (xQ 16 x y a ha (by simp)) (by simp)]
  have hr:dJ 16 [x,y]=if(x=1∨x=2)∧x=y then 4 else 0:=rfl
  rw[hr];simp only[decide_eq_true_eq]
 ·obtain⟨x,y,rfl⟩:=ft (by simpa[bm]using bo)
  rw[vr _ (xQ 17 x y a ha (by simp)) (by simp)]
  have hr:dJ 17 [x,y]=if(x=1∨x=2)∧x=y then 4 else 0:=rfl
  rw[hr];simp only[decide_eq_true_eq]
 ·obtain⟨x,y,rfl⟩:=ft (by simpa[bm]using bo)
  rw[vr _ (Ly x y a ha) (by simp)]
  have hr:dJ 18 [x,y]=if x=y then 4 else 0:=rfl
  rw[hr];simp only[decide_eq_true_eq]
 ·exact vr _ (mG 19 4 ts a ha hl (by simp)) (by simp)
 ·exact vr _ (mG 20 4 ts a ha hl (by simp)) (by simp)
 ·exact vr _ (mG 21 4 ts a ha hl (by simp)) (by simp)
 ·exact vr _ (mG 22 4 ts a ha hl (by simp)) (by simp)
theorem DI(op:Int)(ts:List Int)(a:T)(ha:aR a ts.length (ints ts))(hl:ts.length≤eG)(h1:1≤op)(h2:op≤22)(h6:op≠6)(bo:bm op ts.length=true):ai pE 157 [.i .i64 op,a] []=some (.i .i64 (dJ op ts),[]):=by
 rw[aG Ql (by simp[jN])]
 have a1:=tT ts 1 a ha hl
 have a2:=tT ts 2 a ha hl
 have a3:=tT ts 3 a ha hl
 have a4:=tT ts 4 a ha hl
 have pU:=ha.froz
 have nL:(op=7∨op=8∨op=9∨op=12∨op=13)→rR jN.res jN.eff (DC pE jN.n jN.code ⟨iO [.i .i64 op,a],.nil,[]⟩)=some (.i .i64 (if cY ts 1 then 1 else if cY ts 2 then 2 else 0),[]):=by
  intro ho
  cases k1:cY ts 1 <;> rw[k1]at a1 <;> cases k2:cY ts 2 <;> rw[k2]at a2 <;> rcases ho with rfl|rfl|rfl|rfl|rfl <;>
    simp(maxDischargeDepth:=6) only[qF,ae,ah,aa,aj,ab,an,bn,aP,Nat.reduceAdd,reduceCtorEq,Nat.reduceLT,Nat.reduceEqDiff,Int.reduceEq,jN,a1,a2,ma,pU]
 rcases eP h1 h2 with rfl|rfl|rfl|rfl|rfl|rfl|rfl|rfl|rfl|rfl|rfl|rfl|rfl|rfl|rfl|rfl|rfl|rfl|rfl|rfl|rfl|rfl
 iterate 5 ·simp(maxDischargeDepth:=6) only[qF,ae,ah,aa,aj,ab,an,bn,aP,Nat.reduceAdd,reduceCtorEq,Nat.reduceLT,Nat.reduceEqDiff,Int.reduceEq,jN,dJ]
 ·exact absurd rfl h6
 ·exact nL (by simp)
 ·exact nL (by simp)
 ·exact nL (by simp)
 ·obtain⟨x,y,rfl⟩:=ft (by simpa[bm]using bo)
  obtain⟨ex,rfl⟩:=eQ ha
  have hr:dJ 10 [x,y]=fm 10 x y:=rfl
  rw[hr]
  simp only[dt,mF,Bool.and_true]at a1
  by_cases x1:x=1
  ·by_cases y1:y=1
   ·simp(maxDischargeDepth:=6) only[x1,y1,aj,ab,Nat.reduceAdd,ints]at a1
    simp(maxDischargeDepth:=6) only[qF,ae,ah,aa,aj,ab,an,bW,bn,aP,Nat.reduceAdd,reduceCtorEq,Nat.reduceLT,Nat.reduceLeDiff,Nat.reduceEqDiff,Int.reduceToNat,Int.reduceLE,Int.reduceEq,jN,ints,a1,ma,x1,y1,fm]
   ·by_cases y2:y=2 <;> simp(maxDischargeDepth:=6) only[x1,y1,y2,aj,ab,an,Nat.reduceAdd,Int.reduceEq,ints]at a1 <;> simp(maxDischargeDepth:=6) only[qF,ae,ah,aa,aj,ab,an,bW,bn,aP,Nat.reduceAdd,reduceCtorEq,Nat.reduceLT,Nat.reduceLeDiff,Nat.reduceEqDiff,Int.reduceToNat,Int.reduceLE,Int.reduceEq,jN,ints,a1,ma,x1,y1,y2,fm]
  ·by_cases x2:x=2
   ·by_cases y1:y=1 <;> simp(maxDischargeDepth:=6) only[x2,y1,aj,ab,an,Nat.reduceAdd,Int.reduceEq,ints]at a1 <;> simp(maxDischargeDepth:=6) only[qF,ae,ah,aa,aj,ab,an,bW,bn,aP,Nat.reduceAdd,reduceCtorEq,Nat.reduceLT,Nat.reduceLeDiff,Nat.reduceEqDiff,Int.reduceToNat,Int.reduceLE,Int.reduceEq,jN,ints,a1,ma,x2,y1,fm]
   ·simp(maxDischargeDepth:=6) only[x1,ab,an,Nat.reduceAdd,ints]at a1
    simp(maxDischargeDepth:=6) only[qF,ae,ah,aa,aj,ab,an,bW,bn,aP,Nat.reduceAdd,reduceCtorEq,Nat.reduceLT,Nat.reduceLeDiff,Nat.reduceEqDiff,Int.reduceToNat,Int.reduceLE,Int.reduceEq,jN,ints,a1,ma,x1,x2,fm]
 ·obtain⟨x,y,rfl⟩:=ft (by simpa[bm]using bo)
  obtain⟨ex,rfl⟩:=eQ ha
  have hr:dJ 11 [x,y]=fm 11 x y:=rfl
  rw[hr]
  simp only[dt,mF,Bool.and_true]at a1 a2
  by_cases x1:x=1
  ·by_cases y1:y=1
   ·simp(maxDischargeDepth:=6) only[x1,y1,aj,ab,Nat.reduceAdd,ints]at a1
    simp(maxDischargeDepth:=6) only[qF,ae,ah,aa,aj,ab,an,bW,bn,aP,Nat.reduceAdd,reduceCtorEq,Nat.reduceLT,Nat.reduceLeDiff,Nat.reduceEqDiff,Int.reduceToNat,Int.reduceLE,Int.reduceEq,jN,ints,a1,ma,x1,y1,fm]
   ·simp(maxDischargeDepth:=6) only[x1,y1,aj,ab,an,Nat.reduceAdd,Int.reduceEq,ints]at a1 a2
    simp(maxDischargeDepth:=6) only[qF,ae,ah,aa,aj,ab,an,bW,bn,aP,Nat.reduceAdd,reduceCtorEq,Nat.reduceLT,Nat.reduceLeDiff,Nat.reduceEqDiff,Int.reduceToNat,Int.reduceLE,Int.reduceEq,jN,ints,a1,a2,ma,x1,y1,fm]
  ·by_cases x2:x=2
   ·by_cases y1:y=1
    ·simp(maxDischargeDepth:=6) only[x2,y1,aj,ab,an,Nat.reduceAdd,Int.reduceEq,ints]at a1 a2
     simp(maxDischargeDepth:=6) only[qF,ae,ah,aa,aj,ab,an,bW,bn,aP,Nat.reduceAdd,reduceCtorEq,Nat.reduceLT,Nat.reduceLeDiff,Nat.reduceEqDiff,Int.reduceToNat,Int.reduceLE,Int.reduceEq,jN,ints,a1,a2,ma,x2,y1,fm]
    ·by_cases y2:y=2 <;> simp(maxDischargeDepth:=6) only[x2,y1,y2,aj,ab,an,Nat.reduceAdd,Int.reduceEq,ints]at a1 a2 <;> simp(maxDischargeDepth:=6) only[qF,ae,ah,aa,aj,ab,an,bW,bn,aP,Nat.reduceAdd,reduceCtorEq,Nat.reduceLT,Nat.reduceLeDiff,Nat.reduceEqDiff,Int.reduceToNat,Int.reduceLE,Int.reduceEq,jN,ints,a1,a2,ma,x2,y1,y2,fm]
   ·simp(maxDischargeDepth:=6) only[x1,x2,ab,an,Nat.reduceAdd,ints]at a1 a2
    simp(maxDischargeDepth:=6) only[qF,ae,ah,aa,aj,ab,an,bW,bn,aP,Nat.reduceAdd,reduceCtorEq,Nat.reduceLT,Nat.reduceLeDiff,Nat.reduceEqDiff,Int.reduceToNat,Int.reduceLE,Int.reduceEq,jN,ints,a1,a2,ma,x1,x2,fm]
 ·exact nL (by simp)
 ·exact nL (by simp)
 ·obtain⟨x,y,z,rfl⟩:=zj (by simpa[bm]using bo)
  obtain⟨ex,rfl⟩:=eQ ha
  have hr:dJ 14 [x,y,z]=if x=4∧y=z then y else 0:=rfl
  rw[hr]
  by_cases hx:x=4
  ·by_cases hy:y=z <;> simp(maxDischargeDepth:=6) only[qF,ae,ah,aa,aj,ab,an,bW,bn,aP,Nat.reduceAdd,reduceCtorEq,Nat.reduceLT,Nat.reduceLeDiff,Nat.reduceEqDiff,Int.reduceToNat,Int.reduceLE,Int.reduceEq,jN,ints,hx,hy]
  ·simp(maxDischargeDepth:=6) only[qF,ae,ah,aa,aj,ab,an,bW,bn,aP,Nat.reduceAdd,reduceCtorEq,Nat.reduceLT,Nat.reduceLeDiff,Nat.reduceEqDiff,Int.reduceToNat,Int.reduceLE,Int.reduceEq,jN,ints,hx]
 ·have hr:dJ 15 ts=if cY ts 3 then 4 else 0:=rfl
  rw[hr]
  cases k3:cY ts 3 <;> rw[k3]at a3 <;> simp(maxDischargeDepth:=6) only[qF,ae,ah,aa,aj,ab,an,bn,aP,Nat.reduceAdd,reduceCtorEq,Nat.reduceLT,Nat.reduceEqDiff,Int.reduceEq,jN,a3,ma,pU]
 iterate 2
  ·obtain⟨x,y,rfl⟩:=ft (by simpa[bm]using bo)
   have hr: ∀op,(op=16∨op=17)→dJ op [x,y]=if cY [x,y] 1 then 4 else if cY [x,y] 2 then 4 else 0:=by
    intro op ho
    have:dJ op [x,y]=if(x=1∨x=2)∧x=y then 4 else 0:=by rcases ho with rfl|rfl <;> rfl
    rw[this]
    simp only[dt,mF,Bool.and_true]
    by_cases x1:x=1
    ·subst x1;by_cases y1:y=1
     ·simp[y1]
     ·simp[y1,Ne.symm y1]
    ·by_cases x2:x=2
     ·subst x2;by_cases y1:y=2
      ·simp[y1]
      ·simp[y1,Ne.symm y1]
     ·simp[x1,x2]
   rw[hr _ (by simp)]
   cases k1:cY [x,y] 1 <;> rw[k1]at a1 <;> cases k2:cY [x,y] 2 <;> rw[k2]at a2 <;> simp(maxDischargeDepth:=6) only[qF,ae,ah,aa,aj,ab,an,bn,aP,Nat.reduceAdd,reduceCtorEq,Nat.reduceLT,Nat.reduceEqDiff,Int.reduceEq,jN,a1,a2,ma,pU]
 ·obtain⟨x,y,rfl⟩:=ft (by simpa[bm]using bo)
  obtain⟨ex,rfl⟩:=eQ ha
  have hr:dJ 18 [x,y]=if x=y then 4 else 0:=rfl
  rw[hr]
  by_cases hy:x=y <;> simp(maxDischargeDepth:=6) only[qF,ae,ah,aa,aj,ab,an,bW,bn,aP,Nat.reduceAdd,reduceCtorEq,Nat.reduceLT,Nat.reduceLeDiff,Nat.reduceEqDiff,Int.reduceToNat,Int.reduceLE,Int.reduceEq,jN,ints,hy]
 iterate 4
  ·have hr: ∀op,(op=19∨op=20∨op=21∨op=22)→dJ op ts=if cY ts 4 then 4 else 0:=by
    intro op ho;rcases ho with rfl|rfl|rfl|rfl <;> rfl
   rw[hr _ (by simp)]
   cases k4:cY ts 4 <;> rw[k4]at a4 <;> simp(maxDischargeDepth:=6) only[qF,ae,ah,aa,aj,ab,an,bn,aP,Nat.reduceAdd,reduceCtorEq,Nat.reduceLT,Nat.reduceEqDiff,Int.reduceEq,jN,a4,ma,pU]
end Go.Proofs.YtfenhjpkomldcaaGreat
namespace Go.Proofs.YtfenhjpkomldcaaGreat
open Go Go.Ev
def dK:Cs→List T→Prop
 | [],cs=>cs= []
 |c::l,cs=> ∃ex r,cs=(T.s c.1::ex)++r∧bE c.2 ex∧dK l r
theorem dK.len: ∀{l:Cs} {cs:List T},dK l cs→cs.length=l.length*5
 | [],cs,h=>by rw[dK]at h;rw[h];rfl
 |c::l,cs,h=>by
  rw[dK]at h
  obtain⟨ex,r,rfl,h1,h2⟩:=h
  rw[List.length_append,List.length_cons,h1.len,h2.len,List.length_cons];omega
theorem dK.drop: ∀{l:Cs} {cs:List T} (k:Nat) (hk:k<l.length),dK l cs→ ∃ex r,cs.drop (k*5)=(T.s l[k].1::ex)++r∧bE l[k].2 ex∧dK (l.drop (k+1)) r
 | [],cs,k,hk,h=>by simp at hk
 |x::xs,cs,0,hk,h=>by
  rw[dK]at h
  obtain⟨c,r,rfl,h1,h2⟩:=h
  exact⟨c,r,by simp,h1,by simpa using h2⟩
 |x::xs,cs,k+1,hk,h=>by
  rw[dK]at h
  obtain⟨c,r,rfl,h1,h2⟩:=h
  obtain⟨c',r',e,h3,h4⟩:=dK.drop k (by simpa using hk) h2
  refine⟨c',r', ?_,h3,by simpa using h4⟩
  have:(k+1)*5=(T.s x.1::c).length+k*5:=by rw[List.length_cons,h1.len];omega
  rw[this,List.drop_append,Nat.add_sub_cancel_left,List.drop_eq_nil_of_le (by omega),e];rfl
theorem dK.take: ∀{l:Cs} {cs:List T} (k:Nat),dK l cs→dK (l.take k) (cs.take (k*5))
 |l,cs,0,h=>by simp[dK]
 | [],cs,k+1,h=>by rw[dK]at h;subst h;simp[dK]
 |x::xs,cs,k+1,h=>by
  rw[dK]at h
  obtain⟨c,r,rfl,h1,h2⟩:=h
  have:(k+1)*5=(T.s x.1::c).length+k*5:=by rw[List.length_cons,h1.len];omega
  rw[List.take_succ_cons,dK]
  refine⟨c,r.take (k*5), ?_,h1,dK.take k h2⟩
  rw[this,List.take_append,Nat.add_sub_cancel_left,List.take_of_length_le (by omega)]
theorem dL{l:Cs}{a:T}{cc:List T}(h1:aR a l.length cc)(h2:dK l cc)(k:Nat)(hk:k<l.length):
  ∃b cb r,(∀kk,uW a (.i kk (k:Int)) 5=some (.vp (.s l[k].1:: .i .i64 l[k].2.op:: .i .i64 l[k].2.num:: .s l[k].2.name::b::r)))∧aR b l[k].2.args.length cb∧aK l[k].2.args cb∧bE l[k].2 [.i .i64 l[k].2.op,.i .i64 l[k].2.num,.s l[k].2.name,b]:=by
 obtain⟨c,r,e,h3,h4⟩:=dK.drop k hk h2
 obtain⟨b,cb,rfl,h5,h6⟩:=h3.cells
 refine⟨b,cb,r,fun kk=> ?_,h5,h6,h3⟩
 rw[h1.ia (sz:=5) h2.len hk,e];rfl
theorem yX: ∀{l:Cs} {s:List Nat} {i:Nat},de l s=some i→i<l.length
 | [],s,i,h=>by simp[de]at h
 |c::cs,s,i,h=>by
  rw[de]at h
  split at h
  ·simp at h;subst h;simp
  ·cases hd:de cs s with
   |none=>simp[hd]at h
   |some j=>
    simp[hd]at h
    have:=yX hd
    subst h;simpa using this
theorem mw{l:Cs}{s:List Nat}: ∀(k:Nat),k≤l.length→(∀j (h:j<k) (hl:j<l.length),l[j].1≠s)→de l s=(de (l.drop k) s).map (· +k)
 |0,_,_=>by simp
 |k+1,hk,h=>by
  have:=mw (l:=l) k (by omega) fun j hj hl=>h j (by omega) hl
  have eo:k<l.length:=by omega
  rw[this,List.drop_eq_getElem_cons eo,de,if_neg (h k (by omega) eo)]
  cases de (l.drop (k+1)) s with
  |none=>rfl
  |some i=>simp;omega
theorem oQ(l:Cs)(s:List Nat): ∀n,de (l.take n) s=match de l s with|some i=>if i<n then some i else none|none=>none:=by
 induction l with
 |nil=>intro n;simp[de]
 |cons c l ih=>
  intro n
  cases n with
  |zero=>
   simp only[List.take_zero,de]
   cases h:(if c.1=s then some 0 else(de l s).map (· +1)) <;> simp
  |succ n=>
   rw[List.take_succ_cons,de,de,ih n]
   by_cases h:c.1=s
   ·simp[h]
   ·rw[if_neg h,if_neg h]
    cases de l s with
    |none=>rfl
    |some i=>simp only[Option.map_some];by_cases hi:i<n <;> simp[hi]
def GW(l:Cs)(s:List Nat):Int:=match de l s with|none=> -1|some i=>(i:Int)
theorem kg{l:Cs}{s:List Nat}{i:Nat}(h:de l s=some i):GW l s=(i:Int):=by unfold GW;rw[h]
theorem rY{l:Cs}{s:List Nat}(h:de l s=none):GW l s= -1:=by unfold GW;rw[h]
theorem Zq(l:Cs)(s:List Nat)(a:T)(cc:List T)(ha:aR a l.length cc)(hc:dK l cc)(hs:l.length≤eG)(o:Out)(ho:o=if de l s=none then .ext 0 else .ret)(fr:Fr)(lh:aQ aB)(sh:List aB)(h0:ak fr 0=a)(h1:ak fr 1= .s s)(h5:ak fr 5= .i .i64 0):
  DC pE 20 (.loop gX) ⟨fr,lh,sh⟩=some (o,⟨cz pE 20 gX fr lh sh,bK pE 20 gX fr lh sh,cw pE 20 gX fr lh sh⟩)∧
  ((∀i,de l s=some i→ak (cz pE 20 gX fr lh sh) 4= .i .i64 (i:Int))∧bK pE 20 gX fr lh sh=lh∧cw pE 20 gX fr lh sh=sh):=by
 refine aD (P:=fun fr bp br=>(∀i,de l s=some i→ak fr 4= .i .i64 (i:Int))∧bp=lh∧br=sh) (aI (fun k st=> ∃fr:Fr,st=⟨fr,lh,sh⟩∧ak fr 0=a∧ak fr 1= .s s∧ak fr 5= .i .i64 (k:Int)∧k≤l.length∧ ∀j (h:j<k) (hl:j<l.length),l[j].1≠s) _ l.length ?_ ?_ 0 _ (Nat.zero_le _) ⟨fr,rfl,h0,h1,h5,Nat.zero_le _,by simp⟩)
 ·rintro k _ hk ⟨fr,rfl,h0,h1,h5,lU,fh⟩
  have bt:(k:Int)<l.length:=by omega
  have hw:=aJ (k:=k) (by omega)
  have hd:=mw k lU fh
  rw[List.drop_eq_getElem_cons hk,de]at hd
  obtain⟨b,cb,r,bh,_,_,_⟩:=dL ha hc k hk
  by_cases fg:l[k].1=s
  ·right
   rw[if_pos fg]at hd
   simp only[Option.map_some,Nat.zero_add]at hd
   simp(maxDischargeDepth:=6) only[ae,ah,aa,aj,ab,an,reduceCtorEq,Nat.reduceLT,Nat.reduceEqDiff,gX,h0,h1,h5,ha.lenI,bt,bh,fg]
   refine⟨_,_,(by simp:Out.ret≠ .nrm),rfl,by rw[ho,hd];rfl,fun i hi=> ?_,rfl,rfl⟩
   rw[hd]at hi
   cases hi
   simp(maxDischargeDepth:=6) only[aa]
  ·left
   simp(maxDischargeDepth:=6) only[ae,ah,aa,aj,ab,an,reduceCtorEq,Nat.reduceLT,Nat.reduceEqDiff,gX,h0,h1,h5,ha.lenI,bt,bh,fg,hw]
   refine⟨_,rfl,_,rfl, ?_, ?_, ?_,by omega, ?_⟩
   all_goals first|(simp(maxDischargeDepth:=6) only[aa,ab,reduceCtorEq,Nat.reduceEqDiff,h0,h1];done)|skip
   intro j hj hl
   by_cases e:j=k
   ·subst e;exact fg
   ·exact fh j (by omega) hl
 ·rintro _ ⟨fr,rfl,h0,h1,h5,lU,fh⟩
  have hd:=mw l.length lU fh
  rw[List.drop_length,de]at hd
  simp(maxDischargeDepth:=6) only[ae,ah,aa,ab,an,reduceCtorEq,Nat.reduceLT,Nat.reduceEqDiff,gX,h0,h5,ha.lenI,Int.lt_irrefl]
  refine⟨_,_,(by simp:Out.ext 0≠ .nrm),rfl,by rw[ho,hd];rfl,fun i hi=> ?_,rfl,rfl⟩
  rw[hd]at hi;cases hi
theorem yY(l:Cs)(s:List Nat)(a:T)(cc:List T)(ha:aR a l.length cc)(hc:dK l cc)(hs:l.length≤eG):ai pE 105 [a,.s s] []=some (.i .i64 (GW l s),[]):=by
 have hL:=fun fr lh sh=>Zq l s a cc ha hc hs _ rfl fr lh sh
 rw[aG PK (by simp[Fo])]
 cases hd:de l s with
 |none=>
  rw[rY hd]
  simp only[hd,if_true,reduceCtorEq,false_implies,implies_true,true_and]at hL
  simp(maxDischargeDepth:=6) only[qF,ae,ah,aa,aj,ab,Int.reduceNeg,reduceCtorEq,Nat.reduceLT,Nat.reduceEqDiff,Fo,hL]
 |some i=>
  rw[kg hd]
  simp only[hd,reduceCtorEq,if_false,Option.some.injEq,forall_eq']at hL
  simp(maxDischargeDepth:=6) only[qF,ae,ah,aa,aj,ab,Int.reduceNeg,reduceCtorEq,Nat.reduceLT,Nat.reduceEqDiff,Fo,hL]
end Go.Proofs.YtfenhjpkomldcaaGreat
namespace Go.Proofs.YtfenhjpkomldcaaGreat
open Go Go.Ev
def zk(ts:List Int):Except Int (List Int)→Except Int (List Int)
 | .error e=> .error e
 | .ok us=> .ok (ts++us)
def DJ:Except Int (List Int)→Out
 | .error _=> .ret
 | .ok _=> .ext 0
theorem BR{cl:List Nat→Int×Int}{scope:Int}{xs:List Ex}{k:Nat}(hk:k<xs.length):gS cl scope (xs.drop k)=if(xs[k].ty cl scope).2≠0 then .error (xs[k].ty cl scope).2 else zk [(xs[k].ty cl scope).1] (gS cl scope (xs.drop (k+1))):=by
 rw[mD hk,gS]
 split
 ·rfl
 ·cases gS cl scope (xs.drop (k+1)) <;> rfl
theorem xR(a b:List Int)(x:Except Int (List Int)):zk a (zk b x)=zk (a++b) x:=by cases x <;> simp[zk]
theorem oP{cl:List Nat→Int×Int}{scope:Int}: ∀{xs:List Ex} {ts:List Int},gS cl scope xs= .ok ts→ts.length=xs.length
 | [],ts,h=>by rw[gS]at h;cases h;rfl
 |x::xs,ts,h=>by
  rw[gS]at h
  split at h
  ·cases h
  ·cases hx:gS cl scope xs with
   |error e=>rw[hx]at h;cases h
   |ok us=>rw[hx]at h;cases h;simp[oP hx]
theorem iB{lh:aQ aB}{sh:List aB}{v:T}{k n:Nat}{cs:List T}(h:be lh v k 1 n cs)(hn:n≤eG)(x:T)(ex:Bool):
  appW lh sh k 1 8 v (.sl [x] 1 ex)=some (vS lh sh k 1 8 v (.sl [x] 1 ex),pA lh sh k 1 8 v (.sl [x] 1 ex))∧be (pA lh sh k 1 8 v (.sl [x] 1 ex)) (vS lh sh k 1 8 v (.sl [x] 1 ex)) k 1 (n+1) (cs++ [x])∧ ∀j,j≠k→aq (pA lh sh k 1 8 v (.sl [x] 1 ex)) j=aq lh j:=
 be.appW h (m:=0) (by rw[yC];rfl) rfl (by unfold roomy;unfold eG at hn;omega)
section
variable(l:Cs)(oh:List (Int×Int))(lT kT eT:T)(cl:List T)(hl:aR lT l.length cl)(eA:dK l cl)(hlen:l.length≤eG)(UF:oh.length=l.length)(hk:aR kT oh.length (ints (oh.map (·.1))))(he:aR eT oh.length (ints (oh.map (·.2))))
def Zr(scope:Int)(y:Ex):Prop:= ∀cs:List T,bE y cs→y.nodes≤100000→y.wf=true→ai pE 103 [.agg [kT,eT],lT,.i .i64 scope,.agg cs] []=some (.tup [.i .i64 (y.ty (rZ l oh) scope).1,.i .i64 (y.ty (rZ l oh) scope).2],[])
include hl hk he
theorem aex(scope:Int)(xs:List Ex)(ih: ∀y∈xs,Zr l oh lT kT eT scope y)(a:T)(cc:List T)(ha:aR a xs.length cc)(hx:aK xs cc)(hn:a6 xs≤100000)(gK:gT xs=true)(op num:Int)(s:List Nat)(r:Except Int (List Int))(hr:r=gS (rZ l oh) scope xs)(o:Out)(ho:o=DJ r)(g g4:Nat)(fr:Fr)(lh:aQ aB)(sh:List aB)
  (h1:ak fr 1=lT) (h2:ak fr 2= .i .i64 scope) (h4:ak fr 4= .ptr .L 4 g4 0) (h7:ak fr 7= .ptr .L 7 g 0) (jV:ak fr 10= .nilsl) (mC:ak fr 11= .i .i64 0) (o4:aq lh 4=⟨g4,.cells [kT,eT] 0 true⟩) (o7:aq lh 7=⟨g,.cells [.i .i64 op,.i .i64 num,.s s,a] 0 true⟩):
  DC pE 80 (.loop ed) ⟨fr,lh,sh⟩=some (o,⟨cz pE 80 ed fr lh sh,bK pE 80 ed fr lh sh,cw pE 80 ed fr lh sh⟩)∧
  ((∀e,r= .error e→ak (cz pE 80 ed fr lh sh) 8= .i .i64 0∧ak (cz pE 80 ed fr lh sh) 9= .i .i64 e)∧(∀ts,r= .ok ts→be (bK pE 80 ed fr lh sh) (ak (cz pE 80 ed fr lh sh) 10) 43 1 ts.length (ints ts))∧
    aq (bK pE 80 ed fr lh sh) 4=aq lh 4∧aq (bK pE 80 ed fr lh sh) 7=aq lh 7∧cw pE 80 ed fr lh sh=sh):=by
 refine aD (P:=fun cO bp br=>(∀e,r= .error e→ak cO 8= .i .i64 0∧ak cO 9= .i .i64 e)∧(∀ts,r= .ok ts→be bp (ak cO 10) 43 1 ts.length (ints ts))∧aq bp 4=aq lh 4∧aq bp 7=aq lh 7∧br=sh)
  (aI (fun k st=> ∃(fr:Fr) (aX:aQ aB) (ts:List Int),st=⟨fr,aX,sh⟩∧ak fr 1=lT∧ak fr 2= .i .i64 scope∧ak fr 4= .ptr .L 4 g4 0∧ak fr 7= .ptr .L 7 g 0∧ak fr 11= .i .i64 (k:Int)∧aq aX 4=aq lh 4∧aq aX 7=aq lh 7∧
    be aX (ak fr 10) 43 1 k (ints ts)∧ts.length=k∧r=zk ts (gS (rZ l oh) scope (xs.drop k))) _ xs.length ?_ ?_ 0 _ (Nat.zero_le _) ⟨fr,lh,[],rfl,h1,h2,h4,h7,mC,rfl,rfl,by rw[jV];exact be.nil,rfl,by rw[hr,List.drop_zero];cases gS (rZ l oh) scope xs <;> rfl⟩)
 ·rintro k _ nN ⟨fr,aX,ts,rfl,h1,h2,h4,h7,mC,RS,Pw,hO,je,cN⟩
  rw[o4]at RS
  rw[o7]at Pw
  have bt:(k:Int)<xs.length:=by omega
  have qK:=bX xs
  have Rw:=cT (List.getElem_mem nN)
  have hw:=aJ (k:=k) (cm (by omega))
  obtain⟨b,cb,rr,bh,cH,nA,hb⟩:=dm ha hx k nN
  have az:=ih xs[k] (List.getElem_mem nN) _ hb (by omega) (jg.1 gK _ (List.getElem_mem nN))
  rw[BR nN]at cN
  by_cases hf:(xs[k].ty (rZ l oh) scope).2=0
  ·left
   rw[if_neg (by simp[hf]),xR]at cN
   have rz:=iB hO (cm (by omega)) (sh:=sh) (T.i .i64 (xs[k].ty (rZ l oh) scope).1) true
   generalize xs[k].ty (rZ l oh) scope=q at az hf cN rz
   obtain⟨q1,q2⟩:=q
   simp only at az hf cN rz
   subst hf
   generalize jV:ak fr 10=v10 at hO rz
   simp(maxDischargeDepth:=6) only[qF,ae,ah,aa,aj,ab,an,dq,dw,splice,aH,repl,Nat.reduceAdd,Nat.reduceLT,Nat.reduceLeDiff,Nat.reduceEqDiff,cq,aZ,ed,h1,h2,h4,h7,jV,mC,RS,Pw,ha.lenI,bt,bh,hw,az,Iq,Ir,cH.froz1,hk.froz1,he.froz1,hl.froz,hO.notS,rz.1]
   refine⟨_,rfl,_,_,ts++ [q1],rfl, ?_, ?_, ?_, ?_, ?_, ?_, ?_, ?_,by simp[je],cN⟩
   all_goals first|(simp(maxDischargeDepth:=6) only[aa,ab,Nat.reduceEqDiff,h1,h2,h4,h7];done)|skip
   ·rw[rz.2.2 4 (by decide),RS,o4]
   ·rw[rz.2.2 7 (by decide),Pw,o7]
   ·simp(maxDischargeDepth:=6) only[aa,ab,Nat.reduceEqDiff]
    rw[show ints (ts++ [q1])=ints ts++ [.i .i64 q1]by simp[ints]]
    exact rz.2.1
  ·right
   rw[if_pos (by simp[hf])]at cN
   generalize xs[k].ty (rZ l oh) scope=q at az hf cN
   obtain⟨q1,q2⟩:=q
   simp only at az hf cN
   simp(maxDischargeDepth:=6) only[qF,ae,ah,aa,aj,ab,an,Nat.reduceAdd,Nat.reduceLT,Nat.reduceLeDiff,Nat.reduceEqDiff,cq,aZ,ed,h1,h2,h4,h7,mC,RS,Pw,ha.lenI,bt,bh,az,Iq,Ir,cH.froz1,hk.froz1,he.froz1,hl.froz,hf]
   refine⟨_,_,(by simp:Out.ret≠ .nrm),rfl,by rw[ho,cN];rfl,fun e he=> ?_,fun t ht=>(by rw[cN]at ht;cases ht),by rw[RS,o4],by rw[Pw,o7],rfl⟩
   rw[cN]at he
   cases he
   exact⟨by simp(maxDischargeDepth:=6) only[aa,ab,Nat.reduceEqDiff],by simp(maxDischargeDepth:=6) only[aa]⟩
 ·rintro _ ⟨fr,aX,ts,rfl,h1,h2,h4,h7,mC,RS,Pw,hO,je,cN⟩
  rw[o4]at RS
  rw[o7]at Pw
  rw[List.drop_length,gS,zk,List.append_nil]at cN
  simp(maxDischargeDepth:=6) only[ae,ah,aa,aj,ab,an,Nat.reduceLT,Nat.reduceEqDiff,ed,h7,mC,Pw,ha.lenI,Int.lt_irrefl]
  refine⟨_,_,(by simp:Out.ext 0≠ .nrm),rfl,by rw[ho,cN];rfl,fun e he=>(by rw[cN]at he;cases he),fun t ht=> ?_,by rw[RS,o4],by rw[Pw,o7],rfl⟩
  rw[cN]at ht
  cases ht
  simp(maxDischargeDepth:=6) only[aa,ab,Nat.reduceEqDiff]
  rw[je];exact hO
include eA hlen UF
theorem Lz(scope:Int)(x:Ex):Zr l oh lT kT eT scope x:=by
 induction x using Ex.ind with
 |h x ih=>
  intro cs hx hn gK
  obtain⟨a,cc,rfl,ha,mH⟩:=hx.cells
  rw[aG Ac (by simp[wc]),Ex.ty_eq]
  have nO:=x.nodes_eq
  rw[Ex.wf_eq,Bool.and_eq_true]at gK
  obtain⟨fh,lD⟩:=gK
  have hL:=fun fr lh sh=>aex l oh lT kT eT cl hl hk he scope x.args (fun y hy=>ih y hy) a cc ha mH (by omega) lD x.op x.num x.name _ rfl _ rfl 1 1 fr lh sh
  have ga:=qX scope x.name
  have L0:=yY l x.name lT cl hl eA hlen
  have zB:=bX x.args
  have tu:x.args.length≤eG:=cm (by omega)
  simp only[fX,Bool.and_eq_true,decide_eq_true_eq]at fh
  obtain⟨LA,LB,bo,_,_⟩:=fh
  by_cases h6:x.op=6
  ·rw[if_pos h6]
   have wz:x.args= []:=by
    rw[h6]at bo
    simp[bm]at bo
    exact bo
   rw[wz]at hL
   simp only[gS,DJ,reduceCtorEq,false_implies,implies_true,Except.ok.injEq,forall_eq',true_and]at hL
   unfold lC at ga
   by_cases hz:dI scope x.name=0
   ·rw[if_neg (by simp[hz])]
    rw[if_pos hz,hz]at ga
    cases hi:de l x.name with
    |none=>
     rw[rY hi]at L0
     have:rZ l oh x.name=(0,6):=by unfold rZ;rw[hi]
     rw[this]
     simp(maxDischargeDepth:=6) only[qF,ae,ah,aa,aj,ab,an,Int.reduceNeg,Nat.reduceShiftRight,Nat.reduceMod,Nat.reduceAdd,reduceCtorEq,Nat.reduceLT,Nat.reduceEqDiff,Int.reduceLT,Int.reduceEq,wc,lZ,h6,hL,ga,uj,L0,DT,hl.froz]
    |some i=>
     rw[kg hi]at L0
     have eo:=yX hi
     have KK: ¬(i:Int)<0:=by omega
     have e1:=fun kk=>iU (ts:=oh.map (·.1)) (by simpa using hk) (k:=i) (by simp;omega) kk
     have e2:=fun kk=>iU (ts:=oh.map (·.2)) (by simpa using he) (k:=i) (by simp;omega) kk
     have:rZ l oh x.name=oh[i]'(by omega):=by unfold rZ;rw[hi];simp[List.getD_eq_getElem?_getD,List.getElem?_eq_getElem (show i<oh.length by omega)]
     rw[this]
     simp only[List.getElem_map]at e1 e2
     simp(maxDischargeDepth:=6) only[qF,ae,ah,aa,aj,ab,an,Nat.reduceShiftRight,Nat.reduceMod,bn,aP,Nat.reduceAdd,reduceCtorEq,Nat.reduceLT,Nat.reduceEqDiff,Int.reduceEq,wc,lZ,h6,hL,ga,uj,L0,DT,hl.froz,KK,e1,e2]
   ·rw[if_pos hz]
    rw[if_neg hz]at ga
    simp(maxDischargeDepth:=6) only[qF,ae,ah,aa,aj,ab,an,Nat.reduceShiftRight,Nat.reduceMod,Nat.reduceAdd,reduceCtorEq,Nat.reduceLT,Nat.reduceEqDiff,wc,lZ,h6,hL,ga,uj]
  ·rw[if_neg h6]
   cases hr:gS (rZ l oh) scope x.args with
   |error e=>
    simp only[hr,DJ,Except.error.injEq,reduceCtorEq,false_implies,implies_true,forall_eq',true_and]at hL
    simp(maxDischargeDepth:=6) only[qF,ae,ah,aa,aj,ab,Nat.reduceAdd,reduceCtorEq,Nat.reduceLT,Nat.reduceEqDiff,wc,hL]
   |ok ts=>
    have vO:=oP hr
    simp only[hr,DJ,Except.ok.injEq,reduceCtorEq,false_implies,implies_true,forall_eq',true_and]at hL
    have hO:=fun fr lh sh h1 h2 h4 h7 jV mC o4 o7=>be.fzV (sh:=sh) (keep:=false) (hL fr lh sh h1 h2 h4 h7 jV mC o4 o7).2.1
    have pd:=DI x.op ts (kY ts.length (ints ts)) (jr (fun h0=>by rw[List.length_eq_zero_iff.1 h0];rfl)) (by rw[vO];exact tu) LA LB h6 (by rw[vO];exact bo)
    by_cases hz:dJ x.op ts=0
    ·rw[hz]at pd
     simp(maxDischargeDepth:=6) only[qF,ae,ah,aa,aj,ab,an,Nat.reduceShiftRight,Nat.reduceMod,Nat.reduceAdd,reduceCtorEq,Nat.reduceLT,Nat.reduceEqDiff,wc,lZ,h6,hL,hO,pd,Qm,hz]
    ·simp(maxDischargeDepth:=6) only[qF,ae,ah,aa,aj,ab,an,Nat.reduceShiftRight,Nat.reduceMod,Nat.reduceAdd,reduceCtorEq,Nat.reduceLT,Nat.reduceEqDiff,wc,lZ,h6,hL,hO,pd,Qm,hz]
end
end Go.Proofs.YtfenhjpkomldcaaGreat
