/- The type of a node by the types of its arguments: the program's and the reference's. Types as the reference finds them. Types as the reference finds them. Conditions: the theorems' own. -/
import Derived.Test.YtfenhjpkomldcaaGreatM3
import Derived.KernelRfl
set_option maxRecDepth 100000
set_option linter.unusedSimpArgs false
set_option linter.unusedVariables false
set_option maxHeartbeats 16000000
namespace Go.Proofs.YtfenhjpkomldcaaGreat
open Go Go.Ev
theorem ee{a:T}{t:Int}{ts:List Int}(ha:aN a (t::ts).length (ints (t::ts))): ∃ex,a= .sl (.i .i64 t::ints ts) (ts.length+1) ex:=by
 rcases ha with⟨_,h,_⟩|⟨ex,h⟩
 ·simp at h
 ·exact⟨ex,h⟩
theorem yM{ts:List Int}(h:ts.length=1): ∃a,ts= [a]:=by
 match ts,h with
 | [a],_=>exact⟨a,rfl⟩
theorem eA{ts:List Int}(h:ts.length=2): ∃a b,ts= [a,b]:=by
 match ts,h with
 | [a,b],_=>exact⟨a,b,rfl⟩
theorem v8{ts:List Int}(h:ts.length=3): ∃a b c,ts= [a,b,c]:=by
 match ts,h with
 | [a,b,c],_=>exact⟨a,b,c,rfl⟩
theorem cT(t:Int)(ts:List Int)(k:Int):cI (t::ts) k=(decide (t=k)&&cI ts k):=rfl
theorem kb(k:Int):cI [] k=true:=rfl
theorem D6(t:Int)(ts:List Int):(if cI (t::ts) 1 then(1:Int)else if cI (t::ts) 2 then 2 else 0)=if(t=1∨t=2)∧cI (t::ts) t=true then t else 0:=by
 rw[cT,cT,cT,decide_eq_true (p:=t=t) rfl,Bool.true_and]
 by_cases h1:t=1
 ·subst h1;simp
 ·by_cases h2:t=2
  ·subst h2;simp
  ·simp[h1,h2]
theorem kf(op k:Int)(ts:List Int)(a:T)(ha:aN a ts.length (ints ts))(hl:ts.length≤gi)(h:op=15∧k=3∨(op=19∨op=20∨op=21∨op=22)∧k=4):aa pE 249 [.i .i64 op,a] []=some (.b (cI ts k),[]):=by
 have h1:=B7 ts k a ha hl
 rw[aD A2 (by simp[sU])]
 rcases h with⟨rfl,rfl⟩|⟨rfl|rfl|rfl|rfl,rfl⟩ <;> simp(maxDischargeDepth:=6) only[qF,ah,ai,ab,aj,ae,ak,aY,aK,Nat.reduceAdd,reduceCtorEq,Nat.reduceLT,Nat.reduceEqDiff,Int.reduceEq,sU,h1,Ni,ha.froz]
theorem uD(op x y:Int)(a:T)(ha:aN a 2 (ints [x,y]))(h:op=16∨op=17):aa pE 249 [.i .i64 op,a] []=some (.b (decide ((x=1∨x=2)∧x=y)),[]):=by
 obtain⟨ex,rfl⟩:=ee (ts:= [y]) ha
 have hm:=uC x
 rw[aD A2 (by simp[sU])]
 by_cases hx:x=1∨x=2
 ·rw[decide_eq_true hx]at hm
  rcases h with rfl|rfl <;> simp(maxDischargeDepth:=6) only[qF,ah,ai,ab,aj,ae,ak,bA,aY,aK,Nat.reduceAdd,reduceCtorEq,Nat.reduceLT,Nat.reduceLeDiff,Nat.reduceEqDiff,Int.reduceToNat,Int.reduceLE,Int.reduceEq,bV,aV,sU,hm,A1,Ng,ints,hx]
 ·rw[decide_eq_false hx]at hm
  rcases h with rfl|rfl <;> simp(maxDischargeDepth:=6) only[qF,ah,ai,ab,aj,ae,ak,bA,aY,aK,Nat.reduceAdd,reduceCtorEq,Nat.reduceLT,Nat.reduceLeDiff,Nat.reduceEqDiff,Int.reduceToNat,Int.reduceLE,Int.reduceEq,bV,sU,hm,A1,Ng,ints,hx]
theorem Ik(x y:Int)(a:T)(ha:aN a 2 (ints [x,y])):aa pE 249 [.i .i64 18,a] []=some (.b (decide (x=y)),[]):=by
 obtain⟨ex,rfl⟩:=ee (ts:= [y]) ha
 rw[aD A2 (by simp[sU])]
 simp(maxDischargeDepth:=6) only[qF,ah,ai,ab,aj,ae,ak,bA,aY,aK,Nat.reduceAdd,reduceCtorEq,Nat.reduceLT,Nat.reduceLeDiff,Nat.reduceEqDiff,Int.reduceToNat,Int.reduceLE,Int.reduceEq,bV,sU,ints]
theorem AI(op:Int)(ts:List Int)(a:T)(ha:aN a ts.length (ints ts))(hl:ts.length≤gi)(h1:1≤op)(h2:op≤22)(h6:op≠6)(aX:aW op ts.length=true):aa pE 215 [.i .i64 op,a] []=some (.i .i64 (dk op ts),[]):=by
 rw[aD MV (by simp[jQ])]
 have ln: ∀t rh,ts=t::rh→(op=7∨op=8∨op=9∨op=12∨op=13)→mT jQ.res jQ.eff (DC pE jQ.n jQ.code ⟨gn [.i .i64 op,a],.nil,[]⟩)=some (.i .i64 (if(t=1∨t=2)∧cI ts t=true then t else 0),[]):=by
  rintro t rh rfl ho
  have aU:=B7 (t::rh) t a ha hl
  have hm:=uC t
  have hfz:=ha.froz
  obtain⟨ex,rfl⟩:=ee ha
  have hz:0<rh.length+1:=Nat.succ_pos _
  by_cases hx:t=1∨t=2
  ·rw[decide_eq_true hx]at hm
   cases hk:cI (t::rh) t <;> rw[hk]at aU <;> rcases ho with rfl|rfl|rfl|rfl|rfl <;>
    simp(maxDischargeDepth:=6) only[qF,ah,ai,ab,aj,ae,ak,bA,aY,aK,Nat.reduceAdd,reduceCtorEq,Nat.reduceLT,Nat.reduceLeDiff,Nat.reduceEqDiff,Int.reduceToNat,Int.reduceLE,Int.reduceEq,jQ,hm,A1,aU,Ni,hx,hz]
  ·rw[decide_eq_false hx]at hm
   rcases ho with rfl|rfl|rfl|rfl|rfl <;> simp(maxDischargeDepth:=6) only[qF,ah,ai,ab,aj,ae,ak,bA,aY,aK,Nat.reduceAdd,reduceCtorEq,Nat.reduceLT,Nat.reduceLeDiff,Nat.reduceEqDiff,Int.reduceToNat,Int.reduceLE,Int.reduceEq,jQ,hm,A1,hx,hz]
 have sf: ∀b:Bool,aa pE 249 [.i .i64 op,a] []=some (.b b,[])→(op=15∨op=16∨op=17∨op=18∨op=19∨op=20∨op=21∨op=22)→mT jQ.res jQ.eff (DC pE jQ.n jQ.code ⟨gn [.i .i64 op,a],.nil,[]⟩)=some (.i .i64 (if b=true then 4 else 0),[]):=by
  intro b hb ho
  cases b <;> rcases ho with rfl|rfl|rfl|rfl|rfl|rfl|rfl|rfl <;> simp(maxDischargeDepth:=6) only[qF,ah,ai,ab,aj,ae,ak,aY,aK,Nat.reduceAdd,reduceCtorEq,Nat.reduceLT,Nat.reduceEqDiff,Int.reduceEq,jQ,hb,SP,ha.froz]
 rcases ed h1 h2 with rfl|rfl|rfl|rfl|rfl|rfl|rfl|rfl|rfl|rfl|rfl|rfl|rfl|rfl|rfl|rfl|rfl|rfl|rfl|rfl|rfl|rfl
 iterate 5 ·simp(maxDischargeDepth:=6) only[qF,ah,ai,ab,aj,ae,ak,aY,aK,Nat.reduceAdd,reduceCtorEq,Nat.reduceLT,Nat.reduceEqDiff,Int.reduceEq,jQ,dk]
 ·exact absurd rfl h6
 ·obtain⟨x,rfl⟩:=yM (by simpa[aW]using aX)
  rw[ln x [] rfl (by simp),←D6];rfl
 ·obtain⟨x,y,rfl⟩:=eA (by simpa[aW]using aX)
  rw[ln x [y] rfl (by simp),←D6];rfl
 ·obtain⟨x,y,rfl⟩:=eA (by simpa[aW]using aX)
  rw[ln x [y] rfl (by simp),←D6];rfl
 ·obtain⟨x,y,rfl⟩:=eA (by simpa[aW]using aX)
  obtain⟨ex,rfl⟩:=ee ha
  have hp:=sE 10 x y
  simp(maxDischargeDepth:=6) only[qF,ah,ai,ab,aj,ae,ak,bA,aY,aK,Nat.reduceAdd,reduceCtorEq,Nat.reduceLT,Nat.reduceLeDiff,Nat.reduceEqDiff,Int.reduceToNat,Int.reduceLE,Int.reduceEq,bV,aV,jQ,ints,hp,Nj,Nk];rfl
 ·obtain⟨x,y,rfl⟩:=eA (by simpa[aW]using aX)
  obtain⟨ex,rfl⟩:=ee ha
  have hp:=sE 11 x y
  simp(maxDischargeDepth:=6) only[qF,ah,ai,ab,aj,ae,ak,bA,aY,aK,Nat.reduceAdd,reduceCtorEq,Nat.reduceLT,Nat.reduceLeDiff,Nat.reduceEqDiff,Int.reduceToNat,Int.reduceLE,Int.reduceEq,bV,aV,jQ,ints,hp,Nj,Nk];rfl
 ·match ts,aX with
  |x::ts,_=>rw[ln x ts rfl (by simp),←D6];rfl
 ·match ts,aX with
  |x::ts,_=>rw[ln x ts rfl (by simp),←D6];rfl
 ·obtain⟨x,y,z,rfl⟩:=v8 (by simpa[aW]using aX)
  obtain⟨ex,rfl⟩:=ee ha
  have hr:dk 14 [x,y,z]=if x=4∧y=z then y else 0:=rfl
  rw[hr]
  by_cases hx:x=4
  ·by_cases hy:y=z <;> simp(maxDischargeDepth:=6) only[qF,ah,ai,ab,aj,ae,ak,bA,aY,aK,Nat.reduceAdd,reduceCtorEq,Nat.reduceLT,Nat.reduceLeDiff,Nat.reduceEqDiff,Int.reduceToNat,Int.reduceLE,Int.reduceEq,bV,aV,jQ,ints,hx,hy]
  ·simp(maxDischargeDepth:=6) only[qF,ah,ai,ab,aj,ae,ak,bA,aY,aK,Nat.reduceAdd,reduceCtorEq,Nat.reduceLT,Nat.reduceLeDiff,Nat.reduceEqDiff,Int.reduceToNat,Int.reduceLE,Int.reduceEq,bV,aV,jQ,ints,hx]
 ·exact sf _ (kf 15 3 ts a ha hl (by simp)) (by simp)
 ·obtain⟨x,y,rfl⟩:=eA (by simpa[aW]using aX)
  rw[sf _ (uD 16 x y a ha (by simp)) (by simp)]
  have hr:dk 16 [x,y]=if(x=1∨x=2)∧x=y then 4 else 0:=rfl
  rw[hr];simp only[decide_eq_true_eq]
 ·obtain⟨x,y,rfl⟩:=eA (by simpa[aW]using aX)
  rw[sf _ (uD 17 x y a ha (by simp)) (by simp)]
  have hr:dk 17 [x,y]=if(x=1∨x=2)∧x=y then 4 else 0:=rfl
  rw[hr];simp only[decide_eq_true_eq]
 ·obtain⟨x,y,rfl⟩:=eA (by simpa[aW]using aX)
  rw[sf _ (Ik x y a ha) (by simp)]
  have hr:dk 18 [x,y]=if x=y then 4 else 0:=rfl
  rw[hr];simp only[decide_eq_true_eq]
 ·exact sf _ (kf 19 4 ts a ha hl (by simp)) (by simp)
 ·exact sf _ (kf 20 4 ts a ha hl (by simp)) (by simp)
 ·exact sf _ (kf 21 4 ts a ha hl (by simp)) (by simp)
 ·exact sf _ (kf 22 4 ts a ha hl (by simp)) (by simp)
theorem AJ(op:Int)(ts:List Int)(a:T)(ha:aN a ts.length (ints ts))(hl:ts.length≤gi)(h1:1≤op)(h2:op≤22)(h6:op≠6)(aX:aW op ts.length=true):aa pE 157 [.i .i64 op,a] []=some (.i .i64 (dk op ts),[]):=by
 rw[aD ME (by simp[ic])]
 have a1:=qO ts 1 a ha hl
 have a2:=qO ts 2 a ha hl
 have a3:=qO ts 3 a ha hl
 have a4:=qO ts 4 a ha hl
 have hfz:=ha.froz
 have ln:(op=7∨op=8∨op=9∨op=12∨op=13)→mT ic.res ic.eff (DC pE ic.n ic.code ⟨gn [.i .i64 op,a],.nil,[]⟩)=some (.i .i64 (if cI ts 1 then 1 else if cI ts 2 then 2 else 0),[]):=by
  intro ho
  cases k1:cI ts 1 <;> rw[k1]at a1 <;> cases k2:cI ts 2 <;> rw[k2]at a2 <;> rcases ho with rfl|rfl|rfl|rfl|rfl <;>
    simp(maxDischargeDepth:=6) only[qF,ah,ai,ab,aj,ae,ak,aY,aK,Nat.reduceAdd,reduceCtorEq,Nat.reduceLT,Nat.reduceEqDiff,Int.reduceEq,ic,a1,a2,jS,hfz]
 rcases ed h1 h2 with rfl|rfl|rfl|rfl|rfl|rfl|rfl|rfl|rfl|rfl|rfl|rfl|rfl|rfl|rfl|rfl|rfl|rfl|rfl|rfl|rfl|rfl
 iterate 5 ·simp(maxDischargeDepth:=6) only[qF,ah,ai,ab,aj,ae,ak,aY,aK,Nat.reduceAdd,reduceCtorEq,Nat.reduceLT,Nat.reduceEqDiff,Int.reduceEq,ic,dk]
 ·exact absurd rfl h6
 ·exact ln (by simp)
 ·exact ln (by simp)
 ·exact ln (by simp)
 ·obtain⟨x,y,rfl⟩:=eA (by simpa[aW]using aX)
  obtain⟨ex,rfl⟩:=ee ha
  have hr:dk 10 [x,y]=eu 10 x y:=rfl
  rw[hr]
  simp only[cT,kb,Bool.and_true]at a1
  by_cases x1:x=1
  ·by_cases y1:y=1
   ·simp(maxDischargeDepth:=6) only[x1,y1,aj,ae,Nat.reduceAdd,ints]at a1
    simp(maxDischargeDepth:=6) only[qF,ah,ai,ab,aj,ae,ak,bA,aY,aK,Nat.reduceAdd,reduceCtorEq,Nat.reduceLT,Nat.reduceLeDiff,Nat.reduceEqDiff,Int.reduceToNat,Int.reduceLE,Int.reduceEq,ic,ints,a1,jS,x1,y1,eu]
   ·by_cases y2:y=2 <;> simp(maxDischargeDepth:=6) only[x1,y1,y2,aj,ae,ak,Nat.reduceAdd,Int.reduceEq,ints]at a1 <;> simp(maxDischargeDepth:=6) only[qF,ah,ai,ab,aj,ae,ak,bA,aY,aK,Nat.reduceAdd,reduceCtorEq,Nat.reduceLT,Nat.reduceLeDiff,Nat.reduceEqDiff,Int.reduceToNat,Int.reduceLE,Int.reduceEq,ic,ints,a1,jS,x1,y1,y2,eu]
  ·by_cases x2:x=2
   ·by_cases y1:y=1 <;> simp(maxDischargeDepth:=6) only[x2,y1,aj,ae,ak,Nat.reduceAdd,Int.reduceEq,ints]at a1 <;> simp(maxDischargeDepth:=6) only[qF,ah,ai,ab,aj,ae,ak,bA,aY,aK,Nat.reduceAdd,reduceCtorEq,Nat.reduceLT,Nat.reduceLeDiff,Nat.reduceEqDiff,Int.reduceToNat,Int.reduceLE,Int.reduceEq,ic,ints,a1,jS,x2,y1,eu]
   ·simp(maxDischargeDepth:=6) only[x1,ae,ak,Nat.reduceAdd,ints]at a1
    simp(maxDischargeDepth:=6) only[qF,ah,ai,ab,aj,ae,ak,bA,aY,aK,Nat.reduceAdd,reduceCtorEq,Nat.reduceLT,Nat.reduceLeDiff,Nat.reduceEqDiff,Int.reduceToNat,Int.reduceLE,Int.reduceEq,ic,ints,a1,jS,x1,x2,eu]
 ·obtain⟨x,y,rfl⟩:=eA (by simpa[aW]using aX)
  obtain⟨ex,rfl⟩:=ee ha
  have hr:dk 11 [x,y]=eu 11 x y:=rfl
  rw[hr]
  simp only[cT,kb,Bool.and_true]at a1 a2
  by_cases x1:x=1
  ·by_cases y1:y=1
   ·simp(maxDischargeDepth:=6) only[x1,y1,aj,ae,Nat.reduceAdd,ints]at a1
    simp(maxDischargeDepth:=6) only[qF,ah,ai,ab,aj,ae,ak,bA,aY,aK,Nat.reduceAdd,reduceCtorEq,Nat.reduceLT,Nat.reduceLeDiff,Nat.reduceEqDiff,Int.reduceToNat,Int.reduceLE,Int.reduceEq,ic,ints,a1,jS,x1,y1,eu]
   ·simp(maxDischargeDepth:=6) only[x1,y1,aj,ae,ak,Nat.reduceAdd,Int.reduceEq,ints]at a1 a2
    simp(maxDischargeDepth:=6) only[qF,ah,ai,ab,aj,ae,ak,bA,aY,aK,Nat.reduceAdd,reduceCtorEq,Nat.reduceLT,Nat.reduceLeDiff,Nat.reduceEqDiff,Int.reduceToNat,Int.reduceLE,Int.reduceEq,ic,ints,a1,a2,jS,x1,y1,eu]
  ·by_cases x2:x=2
   ·by_cases y1:y=1
    ·simp(maxDischargeDepth:=6) only[x2,y1,aj,ae,ak,Nat.reduceAdd,Int.reduceEq,ints]at a1 a2
     simp(maxDischargeDepth:=6) only[qF,ah,ai,ab,aj,ae,ak,bA,aY,aK,Nat.reduceAdd,reduceCtorEq,Nat.reduceLT,Nat.reduceLeDiff,Nat.reduceEqDiff,Int.reduceToNat,Int.reduceLE,Int.reduceEq,ic,ints,a1,a2,jS,x2,y1,eu]
    ·by_cases y2:y=2 <;> simp(maxDischargeDepth:=6) only[x2,y1,y2,aj,ae,ak,Nat.reduceAdd,Int.reduceEq,ints]at a1 a2 <;> simp(maxDischargeDepth:=6) only[qF,ah,ai,ab,aj,ae,ak,bA,aY,aK,Nat.reduceAdd,reduceCtorEq,Nat.reduceLT,Nat.reduceLeDiff,Nat.reduceEqDiff,Int.reduceToNat,Int.reduceLE,Int.reduceEq,ic,ints,a1,a2,jS,x2,y1,y2,eu]
   ·simp(maxDischargeDepth:=6) only[x1,x2,ae,ak,Nat.reduceAdd,ints]at a1 a2
    simp(maxDischargeDepth:=6) only[qF,ah,ai,ab,aj,ae,ak,bA,aY,aK,Nat.reduceAdd,reduceCtorEq,Nat.reduceLT,Nat.reduceLeDiff,Nat.reduceEqDiff,Int.reduceToNat,Int.reduceLE,Int.reduceEq,ic,ints,a1,a2,jS,x1,x2,eu]
 ·exact ln (by simp)
 ·exact ln (by simp)
 ·obtain⟨x,y,z,rfl⟩:=v8 (by simpa[aW]using aX)
  obtain⟨ex,rfl⟩:=ee ha
  have hr:dk 14 [x,y,z]=if x=4∧y=z then y else 0:=rfl
  rw[hr]
  by_cases hx:x=4
  ·by_cases hy:y=z <;> simp(maxDischargeDepth:=6) only[qF,ah,ai,ab,aj,ae,ak,bA,aY,aK,Nat.reduceAdd,reduceCtorEq,Nat.reduceLT,Nat.reduceLeDiff,Nat.reduceEqDiff,Int.reduceToNat,Int.reduceLE,Int.reduceEq,ic,ints,hx,hy]
  ·simp(maxDischargeDepth:=6) only[qF,ah,ai,ab,aj,ae,ak,bA,aY,aK,Nat.reduceAdd,reduceCtorEq,Nat.reduceLT,Nat.reduceLeDiff,Nat.reduceEqDiff,Int.reduceToNat,Int.reduceLE,Int.reduceEq,ic,ints,hx]
 ·have hr:dk 15 ts=if cI ts 3 then 4 else 0:=rfl
  rw[hr]
  cases k3:cI ts 3 <;> rw[k3]at a3 <;> simp(maxDischargeDepth:=6) only[qF,ah,ai,ab,aj,ae,ak,aY,aK,Nat.reduceAdd,reduceCtorEq,Nat.reduceLT,Nat.reduceEqDiff,Int.reduceEq,ic,a3,jS,hfz]
 iterate 2
  ·obtain⟨x,y,rfl⟩:=eA (by simpa[aW]using aX)
   have hr: ∀op,(op=16∨op=17)→dk op [x,y]=if cI [x,y] 1 then 4 else if cI [x,y] 2 then 4 else 0:=by
    intro op ho
    have:dk op [x,y]=if(x=1∨x=2)∧x=y then 4 else 0:=by rcases ho with rfl|rfl <;> rfl
    rw[this]
    simp only[cT,kb,Bool.and_true]
    by_cases x1:x=1
    ·subst x1;by_cases y1:y=1
     ·simp[y1]
     ·simp[y1,Ne.symm y1]
    ·by_cases x2:x=2
     ·subst x2;by_cases y1:y=2
      ·simp[y1]
      ·simp[y1,Ne.symm y1]
     ·simp[x1,x2]
   rw[hr _ (by simp)]
   cases k1:cI [x,y] 1 <;> rw[k1]at a1 <;> cases k2:cI [x,y] 2 <;> rw[k2]at a2 <;> simp(maxDischargeDepth:=6) only[qF,ah,ai,ab,aj,ae,ak,aY,aK,Nat.reduceAdd,reduceCtorEq,Nat.reduceLT,Nat.reduceEqDiff,Int.reduceEq,ic,a1,a2,jS,hfz]
 ·obtain⟨x,y,rfl⟩:=eA (by simpa[aW]using aX)
  obtain⟨ex,rfl⟩:=ee ha
  have hr:dk 18 [x,y]=if x=y then 4 else 0:=rfl
  rw[hr]
  by_cases hy:x=y <;> simp(maxDischargeDepth:=6) only[qF,ah,ai,ab,aj,ae,ak,bA,aY,aK,Nat.reduceAdd,reduceCtorEq,Nat.reduceLT,Nat.reduceLeDiff,Nat.reduceEqDiff,Int.reduceToNat,Int.reduceLE,Int.reduceEq,ic,ints,hy]
 iterate 4
  ·have hr: ∀op,(op=19∨op=20∨op=21∨op=22)→dk op ts=if cI ts 4 then 4 else 0:=by
    intro op ho;rcases ho with rfl|rfl|rfl|rfl <;> rfl
   rw[hr _ (by simp)]
   cases k4:cI ts 4 <;> rw[k4]at a4 <;> simp(maxDischargeDepth:=6) only[qF,ah,ai,ab,aj,ae,ak,aY,aK,Nat.reduceAdd,reduceCtorEq,Nat.reduceLT,Nat.reduceEqDiff,Int.reduceEq,ic,a4,jS,hfz]
end Go.Proofs.YtfenhjpkomldcaaGreat
namespace Go.Proofs.YtfenhjpkomldcaaGreat
open Go Go.Ev
def df:Cs→List T→Prop
 | [],cs=>cs= []
 |c::l,cs=> ∃ex r,cs=(T.s c.1::ex)++r∧bj c.2 ex∧df l r
theorem df.len: ∀{l:Cs} {cs:List T},df l cs→cs.length=l.length*5
 | [],cs,h=>by rw[df]at h;rw[h];rfl
 |c::l,cs,h=>by
  rw[df]at h
  obtain⟨ex,r,rfl,h1,h2⟩:=h
  rw[List.length_append,List.length_cons,h1.len,h2.len,List.length_cons];omega
theorem df.drop: ∀{l:Cs} {cs:List T} (k:Nat) (hk:k<l.length),df l cs→ ∃ex r,cs.drop (k*5)=(T.s l[k].1::ex)++r∧bj l[k].2 ex∧df (l.drop (k+1)) r
 | [],cs,k,hk,h=>by simp at hk
 |x::xs,cs,0,hk,h=>by
  rw[df]at h
  obtain⟨c,r,rfl,h1,h2⟩:=h
  exact⟨c,r,by simp,h1,by simpa using h2⟩
 |x::xs,cs,k+1,hk,h=>by
  rw[df]at h
  obtain⟨c,r,rfl,h1,h2⟩:=h
  obtain⟨c',r',e,h3,h4⟩:=df.drop k (by simpa using hk) h2
  refine⟨c',r', ?_,h3,by simpa using h4⟩
  have:(k+1)*5=(T.s x.1::c).length+k*5:=by rw[List.length_cons,h1.len];omega
  rw[this,List.drop_append,Nat.add_sub_cancel_left,List.drop_eq_nil_of_le (by omega),e];rfl
theorem df.take: ∀{l:Cs} {cs:List T} (k:Nat),df l cs→df (l.take k) (cs.take (k*5))
 |l,cs,0,h=>by simp[df]
 | [],cs,k+1,h=>by rw[df]at h;subst h;simp[df]
 |x::xs,cs,k+1,h=>by
  rw[df]at h
  obtain⟨c,r,rfl,h1,h2⟩:=h
  have:(k+1)*5=(T.s x.1::c).length+k*5:=by rw[List.length_cons,h1.len];omega
  rw[List.take_succ_cons,df]
  refine⟨c,r.take (k*5), ?_,h1,df.take k h2⟩
  rw[this,List.take_append,Nat.add_sub_cancel_left,List.take_of_length_le (by omega)]
theorem fZ{l:Cs}{a:T}{cc:List T}(h1:aN a l.length cc)(h2:df l cc)(k:Nat)(hk:k<l.length):
  ∃b cb r,(∀kk,tJ a (.i kk (k:Int)) 5=some (.vp (.s l[k].1:: .i .i64 l[k].2.op:: .i .i64 l[k].2.num:: .s l[k].2.name::b::r)))∧aN b l[k].2.args.length cb∧aL l[k].2.args cb∧bj l[k].2 [.i .i64 l[k].2.op,.i .i64 l[k].2.num,.s l[k].2.name,b]:=by
 obtain⟨c,r,e,h3,h4⟩:=df.drop k hk h2
 obtain⟨b,cb,rfl,h5,h6⟩:=h3.cells
 refine⟨b,cb,r,fun kk=> ?_,h5,h6,h3⟩
 rw[h1.ia (sz:=5) h2.len hk,e];rfl
theorem vJ: ∀{l:Cs} {s:List Nat} {i:Nat},cN l s=some i→i<l.length
 | [],s,i,h=>by simp[cN]at h
 |c::cs,s,i,h=>by
  rw[cN]at h
  split at h
  ·simp at h;subst h;simp
  ·cases hd:cN cs s with
   |none=>simp[hd]at h
   |some j=>
    simp[hd]at h
    have:=vJ hd
    subst h;simpa using this
theorem j5{l:Cs}{s:List Nat}: ∀(k:Nat),k≤l.length→(∀j (h:j<k) (hl:j<l.length),l[j].1≠s)→cN l s=(cN (l.drop k) s).map (· +k)
 |0,_,_=>by simp
 |k+1,hk,h=>by
  have:=j5 (l:=l) k (by omega) fun j hj hl=>h j (by omega) hl
  have dG:k<l.length:=by omega
  rw[this,List.drop_eq_getElem_cons dG,cN,if_neg (h k (by omega) dG)]
  cases cN (l.drop (k+1)) s with
  |none=>rfl
  |some i=>simp;omega
theorem mc(l:Cs)(s:List Nat): ∀n,cN (l.take n) s=match cN l s with|some i=>if i<n then some i else none|none=>none:=by
 induction l with
 |nil=>intro n;simp[cN]
 |cons c l ih=>
  intro n
  cases n with
  |zero=>
   simp only[List.take_zero,cN]
   cases h:(if c.1=s then some 0 else(cN l s).map (· +1)) <;> simp
  |succ n=>
   rw[List.take_succ_cons,cN,cN,ih n]
   by_cases h:c.1=s
   ·simp[h]
   ·rw[if_neg h,if_neg h]
    cases cN l s with
    |none=>rfl
    |some i=>simp only[Option.map_some];by_cases hi:i<n <;> simp[hi]
def DM(l:Cs)(s:List Nat):Int:=match cN l s with|none=> -1|some i=>(i:Int)
theorem iL{l:Cs}{s:List Nat}{i:Nat}(h:cN l s=some i):DM l s=(i:Int):=by unfold DM;rw[h]
theorem pn{l:Cs}{s:List Nat}(h:cN l s=none):DM l s= -1:=by unfold DM;rw[h]
theorem Vz(l:Cs)(s:List Nat)(a:T)(cc:List T)(ha:aN a l.length cc)(hc:df l cc)(hs:l.length≤gi)(o:Out)(ho:o=if cN l s=none then .ext 0 else .ret)(fr:Fr)(lh:aQ aA)(sh:List aA)(h0:an fr 0=a)(h1:an fr 1= .s s)(h5:an fr 5= .i .i64 0):
  DC pE 20 (.loop fI) ⟨fr,lh,sh⟩=some (o,⟨ev pE 20 fI fr lh sh,eP pE 20 fI fr lh sh,eJ pE 20 fI fr lh sh⟩)∧
  ((∀i,cN l s=some i→an (ev pE 20 fI fr lh sh) 4= .i .i64 (i:Int))∧eP pE 20 fI fr lh sh=lh∧eJ pE 20 fI fr lh sh=sh):=by
 refine a6 (P:=fun fr dj cq=>(∀i,cN l s=some i→an fr 4= .i .i64 (i:Int))∧dj=lh∧cq=sh) (bt (fun k st=> ∃fr:Fr,st=⟨fr,lh,sh⟩∧an fr 0=a∧an fr 1= .s s∧an fr 5= .i .i64 (k:Int)∧k≤l.length∧ ∀j (h:j<k) (hl:j<l.length),l[j].1≠s) _ l.length ?_ ?_ 0 _ (Nat.zero_le _) ⟨fr,rfl,h0,h1,h5,Nat.zero_le _,by simp⟩)
 ·rintro k _ hk ⟨fr,rfl,h0,h1,h5,qz,iE⟩
  have dN:(k:Int)<l.length:=by omega
  have hw:=cE (k:=k) (by omega)
  have hd:=j5 k qz iE
  rw[List.drop_eq_getElem_cons hk,cN]at hd
  obtain⟨b,cb,r,cQ,_,_,_⟩:=fZ ha hc k hk
  by_cases kg:l[k].1=s
  ·right
   rw[if_pos kg]at hd
   simp only[Option.map_some,Nat.zero_add]at hd
   simp(maxDischargeDepth:=6) only[ah,ai,ab,aj,ae,ak,reduceCtorEq,Nat.reduceLT,Nat.reduceEqDiff,fI,h0,h1,h5,ha.lenI,dN,cQ,kg]
   refine⟨_,_,(by simp:Out.ret≠ .nrm),rfl,by rw[ho,hd];rfl,fun i hi=> ?_,rfl,rfl⟩
   rw[hd]at hi
   cases hi
   simp(maxDischargeDepth:=6) only[ab]
  ·left
   simp(maxDischargeDepth:=6) only[ah,ai,ab,aj,ae,ak,reduceCtorEq,Nat.reduceLT,Nat.reduceEqDiff,fI,h0,h1,h5,ha.lenI,dN,cQ,kg,hw]
   refine⟨_,rfl,_,rfl, ?_, ?_, ?_,by omega, ?_⟩
   all_goals first|(simp(maxDischargeDepth:=6) only[ab,ae,reduceCtorEq,Nat.reduceEqDiff,h0,h1];done)|skip
   intro j hj hl
   by_cases e:j=k
   ·subst e;exact kg
   ·exact iE j (by omega) hl
 ·rintro _ ⟨fr,rfl,h0,h1,h5,qz,iE⟩
  have hd:=j5 l.length qz iE
  rw[List.drop_length,cN]at hd
  simp(maxDischargeDepth:=6) only[ah,ai,ab,ae,ak,reduceCtorEq,Nat.reduceLT,Nat.reduceEqDiff,fI,h0,h5,ha.lenI,Int.lt_irrefl]
  refine⟨_,_,(by simp:Out.ext 0≠ .nrm),rfl,by rw[ho,hd];rfl,fun i hi=> ?_,rfl,rfl⟩
  rw[hd]at hi;cases hi
theorem vL(l:Cs)(s:List Nat)(a:T)(cc:List T)(ha:aN a l.length cc)(hc:df l cc)(hs:l.length≤gi):aa pE 105 [a,.s s] []=some (.i .i64 (DM l s),[]):=by
 have hL:=fun fr lh sh=>Vz l s a cc ha hc hs _ rfl fr lh sh
 rw[aD L7 (by simp[Ch])]
 cases hd:cN l s with
 |none=>
  rw[pn hd]
  simp only[hd,if_true,reduceCtorEq,false_implies,implies_true,true_and]at hL
  simp(maxDischargeDepth:=6) only[qF,ah,ai,ab,aj,ae,Int.reduceNeg,reduceCtorEq,Nat.reduceLT,Nat.reduceEqDiff,Ch,hL]
 |some i=>
  rw[iL hd]
  simp only[hd,reduceCtorEq,if_false,Option.some.injEq,forall_eq']at hL
  simp(maxDischargeDepth:=6) only[qF,ah,ai,ab,aj,ae,Int.reduceNeg,reduceCtorEq,Nat.reduceLT,Nat.reduceEqDiff,Ch,hL]
end Go.Proofs.YtfenhjpkomldcaaGreat
namespace Go.Proofs.YtfenhjpkomldcaaGreat
open Go Go.Ev
def wa(ts:List Int):Except Int (List Int)→Except Int (List Int)
 | .error e=> .error e
 | .ok us=> .ok (ts++us)
def AK:Except Int (List Int)→Out
 | .error _=> .ret
 | .ok _=> .ext 0
theorem yN{cl:List Nat→Int×Int}{scope:Int}{xs:List Ex}{k:Nat}(hk:k<xs.length):fE cl scope (xs.drop k)=if(xs[k].ty cl scope).2≠0 then .error (xs[k].ty cl scope).2 else wa [(xs[k].ty cl scope).1] (fE cl scope (xs.drop (k+1))):=by
 rw[j8 hk,fE]
 split
 ·rfl
 ·cases fE cl scope (xs.drop (k+1)) <;> rfl
theorem uE(a b:List Int)(x:Except Int (List Int)):wa a (wa b x)=wa (a++b) x:=by cases x <;> simp[wa]
theorem mb{cl:List Nat→Int×Int}{scope:Int}: ∀{xs:List Ex} {ts:List Int},fE cl scope xs= .ok ts→ts.length=xs.length
 | [],ts,h=>by rw[fE]at h;cases h;rfl
 |x::xs,ts,h=>by
  rw[fE]at h
  split at h
  ·cases h
  ·cases hx:fE cl scope xs with
   |error e=>rw[hx]at h;cases h
   |ok us=>rw[hx]at h;cases h;simp[mb hx]
theorem gb{lh:aQ aA}{sh:List aA}{v:T}{k n:Nat}{cs:List T}(h:bG lh v k 1 n cs)(hn:n≤gi)(x:T)(ex:Bool):
  appW lh sh k 1 8 v (.sl [x] 1 ex)=some (Dv lh sh k 1 8 v (.sl [x] 1 ex),sN lh sh k 1 8 v (.sl [x] 1 ex))∧bG (sN lh sh k 1 8 v (.sl [x] 1 ex)) (Dv lh sh k 1 8 v (.sl [x] 1 ex)) k 1 (n+1) (cs++ [x])∧ ∀j,j≠k→aE (sN lh sh k 1 8 v (.sl [x] 1 ex)) j=aE lh j:=
 bG.appW h (m:=0) (by rw[zO];rfl) rfl (by unfold roomy;unfold gi at hn;omega)
section
variable(l:Cs)(lN:List (Int×Int))(lT kT eT:T)(cl:List T)(hl:aN lT l.length cl)(dq:df l cl)(hlen:l.length≤gi)(QM:lN.length=l.length)(hk:aN kT lN.length (ints (lN.map (·.1))))(he:aN eT lN.length (ints (lN.map (·.2))))
def VA(scope:Int)(y:Ex):Prop:= ∀cs:List T,bj y cs→y.nodes≤100000→y.wf=true→aa pE 103 [.agg [kT,eT],lT,.i .i64 scope,.agg cs] []=some (.tup [.i .i64 (y.ty (po l lN) scope).1,.i .i64 (y.ty (po l lN) scope).2],[])
include hl hk he
theorem ZM(scope:Int)(xs:List Ex)(ih: ∀y∈xs,VA l lN lT kT eT scope y)(a:T)(cc:List T)(ha:aN a xs.length cc)(hx:aL xs cc)(hn:aR xs≤100000)(fy:fG xs=true)(op num:Int)(s:List Nat)(r:Except Int (List Int))(hr:r=fE (po l lN) scope xs)(o:Out)(ho:o=AK r)(g g4:Nat)(fr:Fr)(lh:aQ aA)(sh:List aA)
  (h1:an fr 1=lT) (h2:an fr 2= .i .i64 scope) (h4:an fr 4= .ptr .L 4 g4 0) (h7:an fr 7= .ptr .L 7 g 0) (Rl:an fr 10= .nilsl) (HQ:an fr 11= .i .i64 0) (o4:aE lh 4=⟨g4,.cells [kT,eT] 0 true⟩) (o7:aE lh 7=⟨g,.cells [.i .i64 op,.i .i64 num,.s s,a] 0 true⟩):
  DC pE 80 (.loop dI) ⟨fr,lh,sh⟩=some (o,⟨ev pE 80 dI fr lh sh,eP pE 80 dI fr lh sh,eJ pE 80 dI fr lh sh⟩)∧
  ((∀e,r= .error e→an (ev pE 80 dI fr lh sh) 8= .i .i64 0∧an (ev pE 80 dI fr lh sh) 9= .i .i64 e)∧(∀ts,r= .ok ts→bG (eP pE 80 dI fr lh sh) (an (ev pE 80 dI fr lh sh) 10) 43 1 ts.length (ints ts))∧
    aE (eP pE 80 dI fr lh sh) 4=aE lh 4∧aE (eP pE 80 dI fr lh sh) 7=aE lh 7∧eJ pE 80 dI fr lh sh=sh):=by
 refine a6 (P:=fun g7 dj cq=>(∀e,r= .error e→an g7 8= .i .i64 0∧an g7 9= .i .i64 e)∧(∀ts,r= .ok ts→bG dj (an g7 10) 43 1 ts.length (ints ts))∧aE dj 4=aE lh 4∧aE dj 7=aE lh 7∧cq=sh)
  (bt (fun k st=> ∃(fr:Fr) (dS:aQ aA) (ts:List Int),st=⟨fr,dS,sh⟩∧an fr 1=lT∧an fr 2= .i .i64 scope∧an fr 4= .ptr .L 4 g4 0∧an fr 7= .ptr .L 7 g 0∧an fr 11= .i .i64 (k:Int)∧aE dS 4=aE lh 4∧aE dS 7=aE lh 7∧
    bG dS (an fr 10) 43 1 k (ints ts)∧ts.length=k∧r=wa ts (fE (po l lN) scope (xs.drop k))) _ xs.length ?_ ?_ 0 _ (Nat.zero_le _) ⟨fr,lh,[],rfl,h1,h2,h4,h7,HQ,rfl,rfl,by rw[Rl];exact bG.nil,rfl,by rw[hr,List.drop_zero];cases fE (po l lN) scope xs <;> rfl⟩)
 ·rintro k _ lr ⟨fr,dS,ts,rfl,h1,h2,h4,h7,HQ,Oc,LS,hO,gI,dR⟩
  rw[o4]at Oc
  rw[o7]at LS
  have dN:(k:Int)<xs.length:=by omega
  have nR:=bE xs
  have NP:=cB (List.getElem_mem lr)
  have hw:=cE (k:=k) (c5 (by omega))
  obtain⟨b,cb,rr,cQ,fu,oq,hb⟩:=dV ha hx k lr
  have aB:=ih xs[k] (List.getElem_mem lr) _ hb (by omega) (gL.1 fy _ (List.getElem_mem lr))
  rw[yN lr]at dR
  by_cases hf:(xs[k].ty (po l lN) scope).2=0
  ·left
   rw[if_neg (by simp[hf]),uE]at dR
   have oH:=gb hO (c5 (by omega)) (sh:=sh) (T.i .i64 (xs[k].ty (po l lN) scope).1) true
   generalize xs[k].ty (po l lN) scope=q at aB hf dR oH
   obtain⟨q1,q2⟩:=q
   simp only at aB hf dR oH
   subst hf
   generalize Rl:an fr 10=v10 at hO oH
   simp(maxDischargeDepth:=6) only[qF,ah,ai,ab,aj,ae,ak,dH,dQ,splice,aF,repl,Nat.reduceAdd,Nat.reduceLT,Nat.reduceLeDiff,Nat.reduceEqDiff,bV,aV,dI,h1,h2,h4,h7,Rl,HQ,Oc,LS,ha.lenI,dN,cQ,hw,aB,ET,EU,fu.froz1,hk.froz1,he.froz1,hl.froz,hO.notS,oH.1]
   refine⟨_,rfl,_,_,ts++ [q1],rfl, ?_, ?_, ?_, ?_, ?_, ?_, ?_, ?_,by simp[gI],dR⟩
   all_goals first|(simp(maxDischargeDepth:=6) only[ab,ae,Nat.reduceEqDiff,h1,h2,h4,h7];done)|skip
   ·rw[oH.2.2 4 (by decide),Oc,o4]
   ·rw[oH.2.2 7 (by decide),LS,o7]
   ·simp(maxDischargeDepth:=6) only[ab,ae,Nat.reduceEqDiff]
    rw[show ints (ts++ [q1])=ints ts++ [.i .i64 q1]by simp[ints]]
    exact oH.2.1
  ·right
   rw[if_pos (by simp[hf])]at dR
   generalize xs[k].ty (po l lN) scope=q at aB hf dR
   obtain⟨q1,q2⟩:=q
   simp only at aB hf dR
   simp(maxDischargeDepth:=6) only[qF,ah,ai,ab,aj,ae,ak,Nat.reduceAdd,Nat.reduceLT,Nat.reduceLeDiff,Nat.reduceEqDiff,bV,aV,dI,h1,h2,h4,h7,HQ,Oc,LS,ha.lenI,dN,cQ,aB,ET,EU,fu.froz1,hk.froz1,he.froz1,hl.froz,hf]
   refine⟨_,_,(by simp:Out.ret≠ .nrm),rfl,by rw[ho,dR];rfl,fun e he=> ?_,fun t ht=>(by rw[dR]at ht;cases ht),by rw[Oc,o4],by rw[LS,o7],rfl⟩
   rw[dR]at he
   cases he
   exact⟨by simp(maxDischargeDepth:=6) only[ab,ae,Nat.reduceEqDiff],by simp(maxDischargeDepth:=6) only[ab]⟩
 ·rintro _ ⟨fr,dS,ts,rfl,h1,h2,h4,h7,HQ,Oc,LS,hO,gI,dR⟩
  rw[o4]at Oc
  rw[o7]at LS
  rw[List.drop_length,fE,wa,List.append_nil]at dR
  simp(maxDischargeDepth:=6) only[ah,ai,ab,aj,ae,ak,Nat.reduceLT,Nat.reduceEqDiff,dI,h7,HQ,LS,ha.lenI,Int.lt_irrefl]
  refine⟨_,_,(by simp:Out.ext 0≠ .nrm),rfl,by rw[ho,dR];rfl,fun e he=>(by rw[dR]at he;cases he),fun t ht=> ?_,by rw[Oc,o4],by rw[LS,o7],rfl⟩
  rw[dR]at ht
  cases ht
  simp(maxDischargeDepth:=6) only[ab,ae,Nat.reduceEqDiff]
  rw[gI];exact hO
include dq hlen QM
theorem Il(scope:Int)(x:Ex):VA l lN lT kT eT scope x:=by
 induction x using Ex.ind with
 |h x ih=>
  intro cs hx hn fy
  obtain⟨a,cc,rfl,ha,g5⟩:=hx.cells
  rw[aD wK (by simp[sT]),Ex.ty_eq]
  have hnd:=x.nodes_eq
  rw[Ex.wf_eq,Bool.and_eq_true]at fy
  obtain⟨iE,jC⟩:=fy
  have hL:=fun fr lh sh=>ZM l lN lT kT eT cl hl hk he scope x.args (fun y hy=>ih y hy) a cc ha g5 (by omega) jC x.op x.num x.name _ rfl _ rfl 1 1 fr lh sh
  have gm:=sd scope x.name
  have IL:=vL l x.name lT cl hl dq hlen
  have sM:=bE x.args
  have qA:x.args.length≤gi:=c5 (by omega)
  simp only[fe,Bool.and_eq_true,decide_eq_true_eq]at iE
  obtain⟨Im,Io,aX,_,_⟩:=iE
  by_cases h6:x.op=6
  ·rw[if_pos h6]
   have nM:x.args= []:=by
    rw[h6]at aX
    simp[aW]at aX
    exact aX
   rw[nM]at hL
   simp only[fE,AK,reduceCtorEq,false_implies,implies_true,Except.ok.injEq,forall_eq',true_and]at hL
   unfold k6 at gm
   by_cases hz:dE scope x.name=0
   ·rw[if_neg (by simp[hz])]
    rw[if_pos hz,hz]at gm
    cases hi:cN l x.name with
    |none=>
     rw[pn hi]at IL
     have:po l lN x.name=(0,6):=by unfold po;rw[hi]
     rw[this]
     simp(maxDischargeDepth:=6) only[qF,ah,ai,ab,aj,ae,ak,Int.reduceNeg,Nat.reduceShiftRight,Nat.reduceMod,Nat.reduceAdd,reduceCtorEq,Nat.reduceLT,Nat.reduceEqDiff,Int.reduceLT,Int.reduceEq,sT,jP,h6,hL,gm,uN,IL,AU,hl.froz]
    |some i=>
     rw[iL hi]at IL
     have dG:=vJ hi
     have Hr: ¬(i:Int)<0:=by omega
     have e1:=fun kk=>gz (ts:=lN.map (·.1)) (by simpa using hk) (k:=i) (by simp;omega) kk
     have e2:=fun kk=>gz (ts:=lN.map (·.2)) (by simpa using he) (k:=i) (by simp;omega) kk
     have:po l lN x.name=lN[i]'(by omega):=by unfold po;rw[hi];simp[List.getD_eq_getElem?_getD,List.getElem?_eq_getElem (show i<lN.length by omega)]
     rw[this]
     simp only[List.getElem_map]at e1 e2
     simp(maxDischargeDepth:=6) only[qF,ah,ai,ab,aj,ae,ak,Nat.reduceShiftRight,Nat.reduceMod,aY,aK,Nat.reduceAdd,reduceCtorEq,Nat.reduceLT,Nat.reduceEqDiff,Int.reduceEq,sT,jP,h6,hL,gm,uN,IL,AU,hl.froz,Hr,e1,e2]
   ·rw[if_pos hz]
    rw[if_neg hz]at gm
    simp(maxDischargeDepth:=6) only[qF,ah,ai,ab,aj,ae,ak,Nat.reduceShiftRight,Nat.reduceMod,Nat.reduceAdd,reduceCtorEq,Nat.reduceLT,Nat.reduceEqDiff,sT,jP,h6,hL,gm,uN]
  ·rw[if_neg h6]
   cases hr:fE (po l lN) scope x.args with
   |error e=>
    simp only[hr,AK,Except.error.injEq,reduceCtorEq,false_implies,implies_true,forall_eq',true_and]at hL
    simp(maxDischargeDepth:=6) only[qF,ah,ai,ab,aj,ae,Nat.reduceAdd,reduceCtorEq,Nat.reduceLT,Nat.reduceEqDiff,sT,hL]
   |ok ts=>
    have sF:=mb hr
    simp only[hr,AK,Except.ok.injEq,reduceCtorEq,false_implies,implies_true,forall_eq',true_and]at hL
    have hO:=fun fr lh sh h1 h2 h4 h7 Rl HQ o4 o7=>bG.fzV (sh:=sh) (keep:=false) (hL fr lh sh h1 h2 h4 h7 Rl HQ o4 o7).2.1
    have my:=AJ x.op ts (jb ts.length (ints ts)) (gV (fun h0=>by rw[List.length_eq_zero_iff.1 h0];rfl)) (by rw[sF];exact qA) Im Io h6 (by rw[sF];exact aX)
    by_cases hz:dk x.op ts=0
    ·rw[hz]at my
     simp(maxDischargeDepth:=6) only[qF,ah,ai,ab,aj,ae,ak,Nat.reduceShiftRight,Nat.reduceMod,Nat.reduceAdd,reduceCtorEq,Nat.reduceLT,Nat.reduceEqDiff,sT,jP,h6,hL,hO,my,MF,hz]
    ·simp(maxDischargeDepth:=6) only[qF,ah,ai,ab,aj,ae,ak,Nat.reduceShiftRight,Nat.reduceMod,Nat.reduceAdd,reduceCtorEq,Nat.reduceLT,Nat.reduceEqDiff,sT,jP,h6,hL,hO,my,MF,hz]
end
end Go.Proofs.YtfenhjpkomldcaaGreat
