/- The type of a node by the types of its arguments: the program's and the reference's. Types as the reference finds them. Types as the reference finds them. Conditions: the theorems' own. -/
import Derived.Test.YtfenhjpkomldcaaGreatM3
import Derived.KernelRfl
set_option maxRecDepth 100000
set_option linter.unusedSimpArgs false
set_option linter.unusedVariables false
set_option maxHeartbeats 16000000
namespace Go.Proofs.YtfenhjpkomldcaaGreat
open Go Go.Ev
theorem sl_of{a:T}{t:Int}{ts:List Int}(ha:IsSl a (t::ts).length (ints (t::ts))): ∃ex,a= .sl (.i .i64 t::ints ts) (ts.length+1) ex:=by
 rcases ha with⟨_,h,_⟩|⟨ex,h⟩
 ·simp at h
 ·exact⟨ex,h⟩
theorem len1{ts:List Int}(h:ts.length=1): ∃a,ts= [a]:=by
 match ts,h with
 | [a],_=>exact⟨a,rfl⟩
theorem len2{ts:List Int}(h:ts.length=2): ∃a b,ts= [a,b]:=by
 match ts,h with
 | [a,b],_=>exact⟨a,b,rfl⟩
theorem len3{ts:List Int}(h:ts.length=3): ∃a b c,ts= [a,b,c]:=by
 match ts,h with
 | [a,b,c],_=>exact⟨a,b,c,rfl⟩
theorem allK_cons(t:Int)(ts:List Int)(k:Int):allK (t::ts) k=(decide (t=k)&&allK ts k):=rfl
theorem allK_nil(k:Int):allK [] k=true:=rfl
theorem sumK(t:Int)(ts:List Int):(if allK (t::ts) 1 then(1:Int)else if allK (t::ts) 2 then 2 else 0)=if(t=1∨t=2)∧allK (t::ts) t=true then t else 0:=by
 rw[allK_cons,allK_cons,allK_cons,decide_eq_true (p:=t=t) rfl,Bool.true_and]
 by_cases h1:t=1
 ·subst h1;simp
 ·by_cases h2:t=2
  ·subst h2;simp
  ·simp[h1,h2]
theorem pcomp_all(op k:Int)(ts:List Int)(a:T)(ha:IsSl a ts.length (ints ts))(hl:ts.length≤Lim)(h:op=15∧k=3∨(op=19∨op=20∨op=21∨op=22)∧k=4):DCall pE 249 [.i .i64 op,a] []=some (.b (allK ts k),[]):=by
 have h1:=pall_ev ts k a ha hl
 rw[p_fun fn249 (by simp[c249])]
 rcases h with⟨rfl,rfl⟩|⟨rfl|rfl|rfl|rfl,rfl⟩ <;> simp(maxDischargeDepth:=6) only[qF,qGO0,qGO1,qGO2,qGO3,qGO4,qGO5,backD,calmOp,Nat.reduceAdd,reduceCtorEq,Nat.reduceLT,Nat.reduceEqDiff,Int.reduceEq,c249,h1,dc247,ha.froz]
theorem pcomp_two(op x y:Int)(a:T)(ha:IsSl a 2 (ints [x,y]))(h:op=16∨op=17):DCall pE 249 [.i .i64 op,a] []=some (.b (decide ((x=1∨x=2)∧x=y)),[]):=by
 obtain⟨ex,rfl⟩:=sl_of (ts:= [y]) ha
 have hm:=amount_ev x
 rw[p_fun fn249 (by simp[c249])]
 by_cases hx:x=1∨x=2
 ·rw[decide_eq_true hx]at hm
  rcases h with rfl|rfl <;> simp(maxDischargeDepth:=6) only[qF,qGO0,qGO1,qGO2,qGO3,qGO4,qGO5,iaV_sl,backD,calmOp,Nat.reduceAdd,reduceCtorEq,Nat.reduceLT,Nat.reduceLeDiff,Nat.reduceEqDiff,Int.reduceToNat,Int.reduceLE,Int.reduceEq,qDR0,getL,c249,hm,dc246,dd246,ints,hx]
 ·rw[decide_eq_false hx]at hm
  rcases h with rfl|rfl <;> simp(maxDischargeDepth:=6) only[qF,qGO0,qGO1,qGO2,qGO3,qGO4,qGO5,iaV_sl,backD,calmOp,Nat.reduceAdd,reduceCtorEq,Nat.reduceLT,Nat.reduceLeDiff,Nat.reduceEqDiff,Int.reduceToNat,Int.reduceLE,Int.reduceEq,qDR0,c249,hm,dc246,dd246,ints,hx]
theorem pcomp_eq(x y:Int)(a:T)(ha:IsSl a 2 (ints [x,y])):DCall pE 249 [.i .i64 18,a] []=some (.b (decide (x=y)),[]):=by
 obtain⟨ex,rfl⟩:=sl_of (ts:= [y]) ha
 rw[p_fun fn249 (by simp[c249])]
 simp(maxDischargeDepth:=6) only[qF,qGO0,qGO1,qGO2,qGO3,qGO4,qGO5,iaV_sl,backD,calmOp,Nat.reduceAdd,reduceCtorEq,Nat.reduceLT,Nat.reduceLeDiff,Nat.reduceEqDiff,Int.reduceToNat,Int.reduceLE,Int.reduceEq,qDR0,c249,ints]
theorem presult_ev(op:Int)(ts:List Int)(a:T)(ha:IsSl a ts.length (ints ts))(hl:ts.length≤Lim)(h1:1≤op)(h2:op≤22)(h6:op≠6)(har:arOk op ts.length=true):DCall pE 215 [.i .i64 op,a] []=some (.i .i64 (resK op ts),[]):=by
 rw[p_fun fn215 (by simp[c215])]
 have hsum: ∀t ts',ts=t::ts'→(op=7∨op=8∨op=9∨op=12∨op=13)→endR c215.res c215.eff (DC pE c215.n c215.code ⟨frOf [.i .i64 op,a],.nil,[]⟩)=some (.i .i64 (if(t=1∨t=2)∧allK ts t=true then t else 0),[]):=by
  rintro t ts' rfl ho
  have hall:=pall_ev (t::ts') t a ha hl
  have hm:=amount_ev t
  have hfz:=ha.froz
  obtain⟨ex,rfl⟩:=sl_of ha
  have hz:0<ts'.length+1:=Nat.succ_pos _
  by_cases hx:t=1∨t=2
  ·rw[decide_eq_true hx]at hm
   cases hk:allK (t::ts') t <;> rw[hk]at hall <;> rcases ho with rfl|rfl|rfl|rfl|rfl <;>
    simp(maxDischargeDepth:=6) only[qF,qGO0,qGO1,qGO2,qGO3,qGO4,qGO5,iaV_sl,backD,calmOp,Nat.reduceAdd,reduceCtorEq,Nat.reduceLT,Nat.reduceLeDiff,Nat.reduceEqDiff,Int.reduceToNat,Int.reduceLE,Int.reduceEq,c215,hm,dc246,hall,dc247,hx,hz]
  ·rw[decide_eq_false hx]at hm
   rcases ho with rfl|rfl|rfl|rfl|rfl <;> simp(maxDischargeDepth:=6) only[qF,qGO0,qGO1,qGO2,qGO3,qGO4,qGO5,iaV_sl,backD,calmOp,Nat.reduceAdd,reduceCtorEq,Nat.reduceLT,Nat.reduceLeDiff,Nat.reduceEqDiff,Int.reduceToNat,Int.reduceLE,Int.reduceEq,c215,hm,dc246,hx,hz]
 have hcmp: ∀b:Bool,DCall pE 249 [.i .i64 op,a] []=some (.b b,[])→(op=15∨op=16∨op=17∨op=18∨op=19∨op=20∨op=21∨op=22)→endR c215.res c215.eff (DC pE c215.n c215.code ⟨frOf [.i .i64 op,a],.nil,[]⟩)=some (.i .i64 (if b=true then 4 else 0),[]):=by
  intro b hb ho
  cases b <;> rcases ho with rfl|rfl|rfl|rfl|rfl|rfl|rfl|rfl <;> simp(maxDischargeDepth:=6) only[qF,qGO0,qGO1,qGO2,qGO3,qGO4,qGO5,backD,calmOp,Nat.reduceAdd,reduceCtorEq,Nat.reduceLT,Nat.reduceEqDiff,Int.reduceEq,c215,hb,dc249,ha.froz]
 rcases op_cases h1 h2 with rfl|rfl|rfl|rfl|rfl|rfl|rfl|rfl|rfl|rfl|rfl|rfl|rfl|rfl|rfl|rfl|rfl|rfl|rfl|rfl|rfl|rfl
 iterate 5 ·simp(maxDischargeDepth:=6) only[qF,qGO0,qGO1,qGO2,qGO3,qGO4,qGO5,backD,calmOp,Nat.reduceAdd,reduceCtorEq,Nat.reduceLT,Nat.reduceEqDiff,Int.reduceEq,c215,resK]
 ·exact absurd rfl h6
 ·obtain⟨x,rfl⟩:=len1 (by simpa[arOk]using har)
  rw[hsum x [] rfl (by simp),←sumK];rfl
 ·obtain⟨x,y,rfl⟩:=len2 (by simpa[arOk]using har)
  rw[hsum x [y] rfl (by simp),←sumK];rfl
 ·obtain⟨x,y,rfl⟩:=len2 (by simpa[arOk]using har)
  rw[hsum x [y] rfl (by simp),←sumK];rfl
 ·obtain⟨x,y,rfl⟩:=len2 (by simpa[arOk]using har)
  obtain⟨ex,rfl⟩:=sl_of ha
  have hp:=product_ev 10 x y
  simp(maxDischargeDepth:=6) only[qF,qGO0,qGO1,qGO2,qGO3,qGO4,qGO5,iaV_sl,backD,calmOp,Nat.reduceAdd,reduceCtorEq,Nat.reduceLT,Nat.reduceLeDiff,Nat.reduceEqDiff,Int.reduceToNat,Int.reduceLE,Int.reduceEq,qDR0,getL,c215,ints,hp,dc248,dd248];rfl
 ·obtain⟨x,y,rfl⟩:=len2 (by simpa[arOk]using har)
  obtain⟨ex,rfl⟩:=sl_of ha
  have hp:=product_ev 11 x y
  simp(maxDischargeDepth:=6) only[qF,qGO0,qGO1,qGO2,qGO3,qGO4,qGO5,iaV_sl,backD,calmOp,Nat.reduceAdd,reduceCtorEq,Nat.reduceLT,Nat.reduceLeDiff,Nat.reduceEqDiff,Int.reduceToNat,Int.reduceLE,Int.reduceEq,qDR0,getL,c215,ints,hp,dc248,dd248];rfl
 ·match ts,har with
  |x::ts,_=>rw[hsum x ts rfl (by simp),←sumK];rfl
 ·match ts,har with
  |x::ts,_=>rw[hsum x ts rfl (by simp),←sumK];rfl
 ·obtain⟨x,y,z,rfl⟩:=len3 (by simpa[arOk]using har)
  obtain⟨ex,rfl⟩:=sl_of ha
  have hr:resK 14 [x,y,z]=if x=4∧y=z then y else 0:=rfl
  rw[hr]
  by_cases hx:x=4
  ·by_cases hy:y=z <;> simp(maxDischargeDepth:=6) only[qF,qGO0,qGO1,qGO2,qGO3,qGO4,qGO5,iaV_sl,backD,calmOp,Nat.reduceAdd,reduceCtorEq,Nat.reduceLT,Nat.reduceLeDiff,Nat.reduceEqDiff,Int.reduceToNat,Int.reduceLE,Int.reduceEq,qDR0,getL,c215,ints,hx,hy]
  ·simp(maxDischargeDepth:=6) only[qF,qGO0,qGO1,qGO2,qGO3,qGO4,qGO5,iaV_sl,backD,calmOp,Nat.reduceAdd,reduceCtorEq,Nat.reduceLT,Nat.reduceLeDiff,Nat.reduceEqDiff,Int.reduceToNat,Int.reduceLE,Int.reduceEq,qDR0,getL,c215,ints,hx]
 ·exact hcmp _ (pcomp_all 15 3 ts a ha hl (by simp)) (by simp)
 ·obtain⟨x,y,rfl⟩:=len2 (by simpa[arOk]using har)
  rw[hcmp _ (pcomp_two 16 x y a ha (by simp)) (by simp)]
  have hr:resK 16 [x,y]=if(x=1∨x=2)∧x=y then 4 else 0:=rfl
  rw[hr];simp only[decide_eq_true_eq]
 ·obtain⟨x,y,rfl⟩:=len2 (by simpa[arOk]using har)
  rw[hcmp _ (pcomp_two 17 x y a ha (by simp)) (by simp)]
  have hr:resK 17 [x,y]=if(x=1∨x=2)∧x=y then 4 else 0:=rfl
  rw[hr];simp only[decide_eq_true_eq]
 ·obtain⟨x,y,rfl⟩:=len2 (by simpa[arOk]using har)
  rw[hcmp _ (pcomp_eq x y a ha) (by simp)]
  have hr:resK 18 [x,y]=if x=y then 4 else 0:=rfl
  rw[hr];simp only[decide_eq_true_eq]
 ·exact hcmp _ (pcomp_all 19 4 ts a ha hl (by simp)) (by simp)
 ·exact hcmp _ (pcomp_all 20 4 ts a ha hl (by simp)) (by simp)
 ·exact hcmp _ (pcomp_all 21 4 ts a ha hl (by simp)) (by simp)
 ·exact hcmp _ (pcomp_all 22 4 ts a ha hl (by simp)) (by simp)
end Go.Proofs.YtfenhjpkomldcaaGreat
namespace Go.Proofs.YtfenhjpkomldcaaGreat
open Go Go.Ev
def IsCl:Cs→List T→Prop
 | [],cs=>cs= []
 |c::l,cs=> ∃ex r,cs=(T.s c.1::ex)++r∧IsEx c.2 ex∧IsCl l r
theorem IsCl.len: ∀{l:Cs} {cs:List T},IsCl l cs→cs.length=l.length*5
 | [],cs,h=>by rw[IsCl]at h;rw[h];rfl
 |c::l,cs,h=>by
  rw[IsCl]at h
  obtain⟨ex,r,rfl,h1,h2⟩:=h
  rw[List.length_append,List.length_cons,h1.len,h2.len,List.length_cons];omega
theorem IsCl.drop: ∀{l:Cs} {cs:List T} (k:Nat) (hk:k<l.length),IsCl l cs→ ∃ex r,cs.drop (k*5)=(T.s l[k].1::ex)++r∧IsEx l[k].2 ex∧IsCl (l.drop (k+1)) r
 | [],cs,k,hk,h=>by simp at hk
 |x::xs,cs,0,hk,h=>by
  rw[IsCl]at h
  obtain⟨c,r,rfl,h1,h2⟩:=h
  exact⟨c,r,by simp,h1,by simpa using h2⟩
 |x::xs,cs,k+1,hk,h=>by
  rw[IsCl]at h
  obtain⟨c,r,rfl,h1,h2⟩:=h
  obtain⟨c',r',e,h3,h4⟩:=IsCl.drop k (by simpa using hk) h2
  refine⟨c',r', ?_,h3,by simpa using h4⟩
  have:(k+1)*5=(T.s x.1::c).length+k*5:=by rw[List.length_cons,h1.len];omega
  rw[this,List.drop_append,Nat.add_sub_cancel_left,List.drop_eq_nil_of_le (by omega),e];rfl
theorem const_at{l:Cs}{a:T}{cc:List T}(h1:IsSl a l.length cc)(h2:IsCl l cc)(k:Nat)(hk:k<l.length):
  ∃b cb r,(∀kk,iaV a (.i kk (k:Int)) 5=some (.vp (.s l[k].1:: .i .i64 l[k].2.op:: .i .i64 l[k].2.num:: .s l[k].2.name::b::r)))∧IsSl b l[k].2.args.length cb∧IsExs l[k].2.args cb∧IsEx l[k].2 [.i .i64 l[k].2.op,.i .i64 l[k].2.num,.s l[k].2.name,b]:=by
 obtain⟨c,r,e,h3,h4⟩:=IsCl.drop k hk h2
 obtain⟨b,cb,rfl,h5,h6⟩:=h3.cells
 refine⟨b,cb,r,fun kk=> ?_,h5,h6,h3⟩
 rw[h1.ia (sz:=5) h2.len hk,e];rfl
theorem idxC_lt: ∀{l:Cs} {s:List Nat} {i:Nat},idxC l s=some i→i<l.length
 | [],s,i,h=>by simp[idxC]at h
 |c::cs,s,i,h=>by
  rw[idxC]at h
  split at h
  ·simp at h;subst h;simp
  ·cases hd:idxC cs s with
   |none=>simp[hd]at h
   |some j=>
    simp[hd]at h
    have:=idxC_lt hd
    subst h;simpa using this
theorem idxC_drop{l:Cs}{s:List Nat}: ∀(k:Nat),k≤l.length→(∀j (h:j<k) (hl:j<l.length),l[j].1≠s)→idxC l s=(idxC (l.drop k) s).map (· +k)
 |0,_,_=>by simp
 |k+1,hk,h=>by
  have:=idxC_drop (l:=l) k (by omega) fun j hj hl=>h j (by omega) hl
  have hlt:k<l.length:=by omega
  rw[this,List.drop_eq_getElem_cons hlt,idxC,if_neg (h k (by omega) hlt)]
  cases idxC (l.drop (k+1)) s with
  |none=>rfl
  |some i=>simp;omega
theorem idxC_take(l:Cs)(s:List Nat): ∀n,idxC (l.take n) s=match idxC l s with|some i=>if i<n then some i else none|none=>none:=by
 induction l with
 |nil=>intro n;simp[idxC]
 |cons c l ih=>
  intro n
  cases n with
  |zero=>
   simp only[List.take_zero,idxC]
   cases h:(if c.1=s then some 0 else(idxC l s).map (· +1)) <;> simp
  |succ n=>
   rw[List.take_succ_cons,idxC,idxC,ih n]
   by_cases h:c.1=s
   ·simp[h]
   ·rw[if_neg h,if_neg h]
    cases idxC l s with
    |none=>rfl
    |some i=>simp only[Option.map_some];by_cases hi:i<n <;> simp[hi]
def idxV(l:Cs)(s:List Nat):Int:=match idxC l s with|none=> -1|some i=>(i:Int)
theorem idxV_some{l:Cs}{s:List Nat}{i:Nat}(h:idxC l s=some i):idxV l s=(i:Int):=by unfold idxV;rw[h]
theorem idxV_none{l:Cs}{s:List Nat}(h:idxC l s=none):idxV l s= -1:=by unfold idxV;rw[h]
end Go.Proofs.YtfenhjpkomldcaaGreat
namespace Go.Proofs.YtfenhjpkomldcaaGreat
open Go Go.Ev
def preT(ts:List Int):Except Int (List Int)→Except Int (List Int)
 | .error e=> .error e
 | .ok us=> .ok (ts++us)
def outE:Except Int (List Int)→Out
 | .error _=> .ret
 | .ok _=> .ext 0
theorem tyL_drop{cl:List Nat→Int×Int}{scope:Int}{xs:List Ex}{k:Nat}(hk:k<xs.length):tyL cl scope (xs.drop k)=if(xs[k].ty cl scope).2≠0 then .error (xs[k].ty cl scope).2 else preT [(xs[k].ty cl scope).1] (tyL cl scope (xs.drop (k+1))):=by
 rw[drop_args hk,tyL]
 split
 ·rfl
 ·cases tyL cl scope (xs.drop (k+1)) <;> rfl
theorem preT_preT(a b:List Int)(x:Except Int (List Int)):preT a (preT b x)=preT (a++b) x:=by cases x <;> simp[preT]
theorem tyL_len{cl:List Nat→Int×Int}{scope:Int}: ∀{xs:List Ex} {ts:List Int},tyL cl scope xs= .ok ts→ts.length=xs.length
 | [],ts,h=>by rw[tyL]at h;cases h;rfl
 |x::xs,ts,h=>by
  rw[tyL]at h
  split at h
  ·cases h
  ·cases hx:tyL cl scope xs with
   |error e=>rw[hx]at h;cases h
   |ok us=>rw[hx]at h;cases h;simp[tyL_len hx]
section
variable(l:Cs)(tab:List (Int×Int))(lT kT eT:T)(cl:List T)(hl:IsSl lT l.length cl)(hcl:IsCl l cl)(hlen:l.length≤Lim)(htab:tab.length=l.length)(hk:IsSl kT tab.length (ints (tab.map (·.1))))(he:IsSl eT tab.length (ints (tab.map (·.2))))
include hl hk he
include hcl hlen htab
end
end Go.Proofs.YtfenhjpkomldcaaGreat
