/- Literals. Simplified forms keep their types: plain. Values of typed operators stay in their types: plain. Conditions: the theorems' own. -/
import Derived.Test.YtfenhjpkomldcaaGreatM7
import Derived.KernelRfl
set_option maxRecDepth 100000
set_option linter.unusedSimpArgs false
set_option linter.unusedVariables false
set_option maxHeartbeats 16000000
namespace Go.Proofs.YtfenhjpkomldcaaGreat
open Go Go.Ev
theorem leaf_is(op num:Int)(a:T)(ha:IsSl a 0 []):IsEx (leafX op num) [.i .i64 op,.i .i64 num,.s [],a]:=IsEx.of (x:=leafX op num) ha IsExs.nil
theorem nil_is:IsSl .nilsl 0 []:=Or.inl ⟨rfl,rfl,rfl⟩
theorem neg_is(op n:Int):IsEx (.mk 7 0 [] [leafX op n]) [.i .i64 7,.i .i64 0,.s [],.sl [.i .i64 op,.i .i64 n,.s [],.nilsl] 1 true]:=
 IsEx.of (x:= .mk 7 0 [] [leafX op n]) (Or.inr ⟨true,rfl⟩) (IsExs.one (leaf_is op n .nilsl nil_is))
theorem zero_all(f:Nat)(x:Ex)(a:T):(f=153∨False)→DCall pE f [.agg [.i .i64 x.op,.i .i64 x.num,.s x.name,a]] []=some (.b (zeroX x),[]):=by
 unfold zeroX
 rintro(rfl|h)
 ·rw[p_fun fn153 (by simp[c153])]
  by_cases h1:x.op=1
  ·simp(maxDischargeDepth:=6) only[qF,qGO0,qGO1,qGO2,qGO3,qGO4,qGO5,Nat.reduceLT,Nat.reduceEqDiff,Int.reduceEq,c153,h1,true_or]
  ·by_cases h2:x.op=2
   ·simp(maxDischargeDepth:=6) only[qF,qGO0,qGO1,qGO2,qGO3,qGO4,qGO5,Nat.reduceLT,Nat.reduceEqDiff,Int.reduceEq,c153,h2,or_true]
   ·simp(maxDischargeDepth:=6) only[qF,qGO0,qGO1,qGO2,qGO3,qGO4,qGO5,Nat.reduceLT,Nat.reduceEqDiff,c153,h1,h2,or_self]
 ·contradiction
theorem one_all(f:Nat)(x:Ex)(a:T):(f=154∨False)→DCall pE f [.agg [.i .i64 x.op,.i .i64 x.num,.s x.name,a]] []=some (.b (oneX x),[]):=by
 unfold oneX
 rintro(rfl|h)
 ·rw[p_fun fn154 (by simp[c154])]
  by_cases h1:x.op=1 <;> simp(maxDischargeDepth:=6) only[qF,qGO0,qGO1,qGO2,qGO3,qGO4,qGO5,Nat.reduceLT,Nat.reduceEqDiff,c154,h1]
 ·contradiction
def arg0(x:Ex):Ex:=x.args.headD (leafX 0 0)
theorem isLit_eq(x:Ex)(h7:x.op=7→0<x.args.length):isLit x=(decide (x.op=1∨x.op=2∨x.op=3∨x.op=4∨x.op=5)||(decide (x.op=7)&&decide ((arg0 x).op=1∨(arg0 x).op=2))):=by
 obtain⟨op,num,name,args⟩:=x
 cases args with
 |nil=>by_cases h:op=7
       ·exact absurd (h7 h) (by simp[Ex.args])
       ·simp only[isLit,Ex.op,h,decide_false,Bool.false_and];congr
 |cons y ys=>rfl
theorem litV_eq(x:Ex)(h7:x.op=7→0<x.args.length):litV x=if x.op=4 then 1 else if x.op=5 then 0 else if x.op=7 then-(arg0 x).num else x.num:=by
 obtain⟨op,num,name,args⟩:=x
 cases args with
 |nil=>by_cases h:op=7
       ·exact absurd (h7 h) (by simp[Ex.args])
       ·simp[litV,Ex.op,Ex.num,h]
 |cons y ys=>rfl
theorem arg0_at{x:Ex}{a:T}{cc:List T}(ha:IsSl a x.args.length cc)(hx:IsExs x.args cc)(h:0<x.args.length): ∃b r,∀kk,iaV a (.i kk 0) 4=some (.vp (.i .i64 (arg0 x).op:: .i .i64 (arg0 x).num:: .s (arg0 x).name::b::r)):=by
 obtain⟨b,cb,r,hia,_⟩:=arg_at ha hx 0 h
 have e:arg0 x=x.args[0]:=by
  unfold arg0
  generalize x.args=l at h
  cases l with
  |nil=>simp at h
  |cons y ys=>rfl
 rw[e]
 exact⟨b,r,hia⟩
theorem notLit_ev(x:Ex)(cs:List T)(hx:IsEx x cs)(h7:x.op=7→0<x.args.length):DCall pE 147 [.agg cs] []=some (.b (!isLit x),[]):=by
 obtain⟨a,cc,rfl,ha,hxs⟩:=hx.cells
 rw[p_fun fn147 (by simp[c147]),isLit_eq x h7]
 by_cases h1:x.op=1
 ·simp(maxDischargeDepth:=6) only[qF,qGO0,qGO1,qGO2,qGO3,qGO4,qGO5,Nat.reduceLT,Nat.reduceEqDiff,Int.reduceEq,c147,h1,true_or,Bool.true_or]
 by_cases h2:x.op=2
 ·simp(maxDischargeDepth:=6) only[qF,qGO0,qGO1,qGO2,qGO3,qGO4,qGO5,Nat.reduceLT,Nat.reduceEqDiff,Int.reduceEq,c147,h2,true_or,or_true,Bool.true_or]
 by_cases h3:x.op=3
 ·simp(maxDischargeDepth:=6) only[qF,qGO0,qGO1,qGO2,qGO3,qGO4,qGO5,Nat.reduceLT,Nat.reduceEqDiff,Int.reduceEq,c147,h3,true_or,or_true,Bool.true_or]
 by_cases h4:x.op=4
 ·simp(maxDischargeDepth:=6) only[qF,qGO0,qGO1,qGO2,qGO3,qGO4,qGO5,Nat.reduceLT,Nat.reduceEqDiff,Int.reduceEq,c147,h4,true_or,or_true,Bool.true_or]
 by_cases h5:x.op=5
 ·simp(maxDischargeDepth:=6) only[qF,qGO0,qGO1,qGO2,qGO3,qGO4,qGO5,Nat.reduceLT,Nat.reduceEqDiff,Int.reduceEq,c147,h5,or_true,Bool.true_or]
 by_cases h:x.op=7
 ·obtain⟨b,r,hia⟩:=arg0_at ha hxs (h7 h)
  by_cases y1:(arg0 x).op=1
  ·simp(maxDischargeDepth:=6) only[qF,qGO0,qGO1,qGO2,qGO3,qGO4,qGO5,Nat.reduceLT,Nat.reduceEqDiff,Int.reduceEq,c147,h,hia,y1,true_or,or_self,Bool.false_or]
  ·by_cases y2:(arg0 x).op=2 <;> simp(maxDischargeDepth:=6) only[qF,qGO0,qGO1,qGO2,qGO3,qGO4,qGO5,Nat.reduceLT,Nat.reduceEqDiff,Int.reduceEq,c147,h,hia,y1,y2,or_true,or_self,Bool.false_or]
 ·simp(maxDischargeDepth:=6) only[qF,qGO0,qGO1,qGO2,qGO3,qGO4,qGO5,Nat.reduceLT,Nat.reduceEqDiff,c147,h1,h2,h3,h4,h5,h,or_self,Bool.or_self]
mutual
def Ex.kX:Ex→Int
 | .mk op _ _ args=>if op=1 then 1 else if op=2 then 2 else if op=3 then 3 else if op=7∨op=8∨op=9∨op=12∨op=13 then a0 (kXL args)else if op=14 then a1 (kXL args)
   else if op=10 then max (a0 (kXL args)) (a1 (kXL args))else if op=11 then(if a1 (kXL args)=2 then 1 else a0 (kXL args))else 4
def kXL:List Ex→List Int
 | []=> []
 |x::xs=>x.kX::kXL xs
end
theorem Ex.kX_eq(x:Ex):x.kX=if x.op=1 then 1 else if x.op=2 then 2 else if x.op=3 then 3 else if x.op=7∨x.op=8∨x.op=9∨x.op=12∨x.op=13 then a0 (kXL x.args)else if x.op=14 then a1 (kXL x.args)
  else if x.op=10 then max (a0 (kXL x.args)) (a1 (kXL x.args))else if x.op=11 then(if a1 (kXL x.args)=2 then 1 else a0 (kXL x.args))else 4:=by obtain⟨_,_,_,_⟩:=x;rw[Ex.kX];rfl
theorem kXL_map: ∀xs,kXL xs=xs.map Ex.kX
 | []=>rfl
 |x::xs=>by rw[kXL,kXL_map xs];rfl
def koP(y:Ex):Prop:= ∀cs:List T,IsEx y cs→y.wf=true→DCall pE 149 [.agg cs] []=some (.i .i64 y.kX,[])
theorem koArg{xs:List Ex}(ih: ∀y∈xs,koP y){a:T}{cc:List T}(ha:IsSl a xs.length cc)(hx:IsExs xs cc)(hwf:wfL xs=true)(k:Nat)(hk:k<xs.length)(j:Int)(hj:j=(k:Int)):
  ∃b r,froz1 b=true∧(∀kk,iaV a (.i kk j) 4=some (.vp (.i .i64 xs[k].op:: .i .i64 xs[k].num:: .s xs[k].name::b::r)))∧DCall pE 149 [.agg [.i .i64 xs[k].op,.i .i64 xs[k].num,.s xs[k].name,b]] []=some (.i .i64 xs[k].kX,[]):=by
 obtain⟨b,cb,r,hia,h1,h2,h3⟩:=arg_at ha hx k hk
 subst hj
 exact⟨b,r,h1.froz1,hia,ih xs[k] (List.getElem_mem hk) _ h3 (wfL_mem.1 hwf _ (List.getElem_mem hk))⟩
theorem ko_ev(x:Ex):koP x:=by
 induction x using Ex.ind with
 |h x ih=>
  intro cs hx hwf
  obtain⟨a,cc,rfl,ha,hxs⟩:=hx.cells
  rw[p_fun fn149 (by simp[c149]),Ex.kX_eq]
  rw[Ex.wf_eq,Bool.and_eq_true]at hwf
  obtain⟨hno,hwl⟩:=hwf
  simp only[nodeOk,Bool.and_eq_true,decide_eq_true_eq]at hno
  obtain⟨hop1,hop2,har,_,_⟩:=hno
  have hargs:=fun k hk j hj=>koArg (fun y hy=>ih y hy) ha hxs hwl k hk j hj
  have e0: ∀h:0<x.args.length,a0 (kXL x.args)=x.args[0].kX:=fun h=>by rw[kXL_map];unfold a0;simp[List.getD_eq_getElem?_getD,List.getElem?_eq_getElem h]
  have e1: ∀h:1<x.args.length,a1 (kXL x.args)=x.args[1].kX:=fun h=>by rw[kXL_map];unfold a1;simp[List.getD_eq_getElem?_getD,List.getElem?_eq_getElem h]
  rcases op_cases hop1 hop2 with h|h|h|h|h|h|h|h|h|h|h|h|h|h|h|h|h|h|h|h|h|h <;> rw[h]at har ⊢ <;> simp only[arOk,Int.reduceLE,Int.reduceEq,or_true,or_false,or_self,if_true,if_false,decide_eq_true_eq]at har ⊢
  iterate 6 ·simp(maxDischargeDepth:=6) only[qF,qGO0,qGO1,qGO2,qGO3,qGO4,qGO5,Nat.reduceLT,Nat.reduceEqDiff,Int.reduceEq,c149]
  iterate 3
   ·obtain⟨b,r,hf,hia,hc⟩:=hargs 0 (by omega) 0 rfl
    rw[e0 (by omega)]
    simp(maxDischargeDepth:=6) only[qF,qGO0,qGO1,qGO2,qGO3,qGO4,qGO5,Nat.reduceLT,Nat.reduceLeDiff,Nat.reduceEqDiff,Int.reduceEq,c149,hia,hc,dc149,hf]
  ·obtain⟨b,r,hf,hia,hc⟩:=hargs 0 (by omega) 0 rfl
   obtain⟨b',r',hf',hia',hc'⟩:=hargs 1 (by omega) 1 rfl
   rw[e0 (by omega),e1 (by omega)]
   generalize x.args[0].kX=p at*
   generalize x.args[1].kX=q at*
   rw[show max p q=(if q>p then q else p)by split <;> omega]
   simp(maxDischargeDepth:=6) only[qF,qGO0,qGO1,qGO2,qGO3,qGO4,qGO5,mmV,minmax,Nat.reduceLT,Nat.reduceLeDiff,Nat.reduceEqDiff,Int.reduceEq,qDR0,getL,c149,hia,hc,hia',hc',dc149,dd149,hf,hf']
  ·obtain⟨b,r,hf,hia,hc⟩:=hargs 0 (by omega) 0 rfl
   obtain⟨b',r',hf',hia',hc'⟩:=hargs 1 (by omega) 1 rfl
   rw[e0 (by omega),e1 (by omega)]
   by_cases hq:x.args[1].kX=2
   ·rw[hq]at hc'
    simp(maxDischargeDepth:=6) only[qF,qGO0,qGO1,qGO2,qGO3,qGO4,qGO5,Nat.reduceLT,Nat.reduceLeDiff,Nat.reduceEqDiff,Int.reduceEq,c149,hia,hc,hia',hc',dc149,hf,hf',hq]
   ·simp(maxDischargeDepth:=6) only[qF,qGO0,qGO1,qGO2,qGO3,qGO4,qGO5,Nat.reduceLT,Nat.reduceLeDiff,Nat.reduceEqDiff,Int.reduceEq,c149,hia,hc,hia',hc',dc149,hf,hf',hq]
  iterate 2
   ·obtain⟨b,r,hf,hia,hc⟩:=hargs 0 (by omega) 0 rfl
    rw[e0 (by omega)]
    simp(maxDischargeDepth:=6) only[qF,qGO0,qGO1,qGO2,qGO3,qGO4,qGO5,Nat.reduceLT,Nat.reduceLeDiff,Nat.reduceEqDiff,Int.reduceEq,c149,hia,hc,dc149,hf]
  ·obtain⟨b,r,hf,hia,hc⟩:=hargs 1 (by omega) 1 rfl
   rw[e1 (by omega)]
   simp(maxDischargeDepth:=6) only[qF,qGO0,qGO1,qGO2,qGO3,qGO4,qGO5,Nat.reduceLT,Nat.reduceLeDiff,Nat.reduceEqDiff,Int.reduceEq,c149,hia,hc,dc149,hf]
  all_goals simp(maxDischargeDepth:=6) only[qF,qGO0,qGO1,qGO2,qGO3,qGO4,qGO5,Nat.reduceLT,Nat.reduceEqDiff,Int.reduceEq,c149]
end Go.Proofs.YtfenhjpkomldcaaGreat
namespace Go.Proofs.YtfenhjpkomldcaaGreat
open Go Go.Ev
def inK(k n:Int):Prop:=((k=1∨k=2)∧bd n)∨(k=3∧0≤n∧n≤1439)∨(k=4∧bit n)
theorem inK_bd{k n:Int}(h:inK k n):bd n:=by
 rcases h with⟨_,h⟩|⟨_,h1,h2⟩|⟨_,h⟩
 ·exact h
 ·unfold bd;omega
 ·exact bit_bd h
theorem inK_bit{n:Int}(h:inK 4 n):bit n:=by
 rcases h with⟨h|h,_⟩|⟨h,_⟩|⟨_,h⟩
 ·omega
 ·omega
 ·omega
 ·exact h
theorem inK_of{k n:Int}(h:k=1∨k=2)(hb:bd n):inK k n:= .inl ⟨h,hb⟩
def nc:List Nat→Int×Int:=fun _=>(0,6)
def FK(scope k:Int)(y:Ex):Prop:=y.wf=true∧y.ty nc scope=(k,0)
theorem FK.node{scope k:Int}{y:Ex}(h:FK scope k y):1≤y.op∧y.op≤22∧arOk y.op y.args.length=true∧(0≤y.num∧y.num≤mostN y.op)∧(if y.op=6 then attrNm y.name=true else y.name= [])∧wfL y.args=true:=by
 have:=h.1
 rw[Ex.wf_eq,Bool.and_eq_true]at this
 obtain⟨hno,hwl⟩:=this
 simp only[nodeOk,Bool.and_eq_true,decide_eq_true_eq]at hno
 obtain⟨h1,h2,h3,h4,h5⟩:=hno
 refine⟨h1,h2,h3,h4, ?_,hwl⟩
 split at h5 <;> rename_i e
 ·rw[if_pos e];exact h5
 ·rw[if_neg e];simpa using h5
def FKs(scope:Int):List Int→List Ex→Prop
 | [],[]=>True
 |t::ts,y::ys=>FK scope t y∧FKs scope ts ys
 |_,_=>False
theorem FKs.len{scope:Int}: ∀{ts:List Int} {ys:List Ex},FKs scope ts ys→ts.length=ys.length
 | [],[],_=>rfl
 |t::ts,y::ys,h=>by rw[List.length_cons,List.length_cons,FKs.len h.2]
theorem FKs.wf{scope:Int}: ∀{ts:List Int} {ys:List Ex},FKs scope ts ys→wfL ys=true
 | [],[],_=>rfl
 |t::ts,y::ys,h=>by rw[wfL,h.1.1,FKs.wf h.2];rfl
theorem FKs.ty{scope:Int}: ∀{ts:List Int} {ys:List Ex},FKs scope ts ys→tyL nc scope ys= .ok ts
 | [],[],_=>by rw[tyL]
 |t::ts,y::ys,h=>by
  rw[tyL,h.1.2,FKs.ty h.2];rfl
theorem FK.mk{scope k:Int}{op:Int}{ys:List Ex}{ts:List Int}(h1:1≤op)(h2:op≤22)(h6:op≠6)(har:arOk op ys.length=true)(hys:FKs scope ts ys)(hr:resK op ts=k)(hk:k≠0):FK scope k (.mk op 0 [] ys):=by
 constructor
 ·rw[Ex.wf_eq,Bool.and_eq_true]
  refine⟨?_,hys.wf⟩
  have hm:0≤mostN op:=by unfold mostN;split <;> (try split) <;> decide
  simp only[nodeOk,Bool.and_eq_true,decide_eq_true_eq]
  refine⟨h1,h2,har,⟨Int.le_refl _,hm⟩, ?_⟩
  show(if op=6 then attrNm []else decide (([]:List Nat)= []))=true
  rw[if_neg h6];rfl
 ·rw[Ex.ty_eq]
  show(if op=6 then _ else match tyL nc scope ys with| .error e=>(0,e)| .ok ts=>if resK op ts=0 then(0,9)else(resK op ts,0))=(k,0)
  rw[if_neg h6,hys.ty]
  show(if resK op ts=0 then((0:Int),(9:Int))else(resK op ts,0))=(k,0)
  rw[hr,if_neg hk]
theorem FK.leaf{scope k op num:Int}(h:(op=1∧k=1∧0≤num∧num≤1099511627776)∨(op=2∧k=2∧0≤num∧num≤1099511627776)∨(op=3∧k=3∧0≤num∧num≤1439)∨(op=4∧k=4∧num=0)∨(op=5∧k=4∧num=0)):FK scope k (leafX op num):=by
 have hw:(leafX op num).wf=nodeOk op num [] 0:=by rw[Ex.wf_eq];simp[leafX,Ex.op,Ex.num,Ex.name,Ex.args,wfL]
 have ht:op≠6→(leafX op num).ty nc scope=if resK op []=0 then(0,9)else(resK op [],0):=fun h6=>by
  rw[Ex.ty_eq];simp only[leafX,Ex.op,Ex.args,if_neg h6,tyL];rfl
 constructor
 ·rw[hw]
  simp only[nodeOk,Bool.and_eq_true,decide_eq_true_eq]
  rcases h with⟨rfl,rfl,h1,h2⟩|⟨rfl,rfl,h1,h2⟩|⟨rfl,rfl,h1,h2⟩|⟨rfl,rfl,rfl⟩|⟨rfl,rfl,rfl⟩
  ·exact⟨by decide,by decide,rfl,⟨h1,h2⟩,rfl⟩
  ·exact⟨by decide,by decide,rfl,⟨h1,h2⟩,rfl⟩
  ·exact⟨by decide,by decide,rfl,⟨h1,h2⟩,rfl⟩
  ·exact⟨by decide,by decide,rfl,⟨by decide,by decide⟩,rfl⟩
  ·exact⟨by decide,by decide,rfl,⟨by decide,by decide⟩,rfl⟩
 ·rcases h with⟨rfl,rfl,h1,h2⟩|⟨rfl,rfl,h1,h2⟩|⟨rfl,rfl,h1,h2⟩|⟨rfl,rfl,rfl⟩|⟨rfl,rfl,rfl⟩ <;> rw[ht (by decide)] <;> rfl
theorem litX_ok{scope k n:Int}(h:inK k n):FK scope k (litX k n)∧isLit (litX k n)=true∧litV (litX k n)=n:=by
 unfold litX
 rcases h with⟨hk,hb⟩|⟨rfl,h1,h2⟩|⟨rfl,hb⟩
 ·have h4:k≠4:=by omega
  have h3:k≠3:=by omega
  rw[if_neg h4,if_neg h3]
  unfold bd at hb
  by_cases h0:n<0
  ·rw[if_pos h0]
   rcases hk with rfl|rfl
   ·refine⟨FK.mk (ts:= [1]) (by decide) (by decide) (by decide) rfl ⟨FK.leaf (.inl ⟨rfl,rfl,by omega,by omega⟩),trivial⟩ rfl (by decide),rfl, ?_⟩
    show- -n=n;omega
   ·refine⟨FK.mk (ts:= [2]) (by decide) (by decide) (by decide) rfl ⟨FK.leaf (.inr (.inl ⟨rfl,rfl,by omega,by omega⟩)),trivial⟩ rfl (by decide),rfl, ?_⟩
    show- -n=n;omega
  ·rw[if_neg h0]
   rcases hk with rfl|rfl
   ·exact⟨FK.leaf (.inl ⟨rfl,rfl,by omega,by omega⟩),rfl,rfl⟩
   ·exact⟨FK.leaf (.inr (.inl ⟨rfl,rfl,by omega,by omega⟩)),rfl,rfl⟩
 ·rw[if_neg (by decide),if_pos rfl]
  exact⟨FK.leaf (.inr (.inr (.inl ⟨rfl,rfl,h1,h2⟩))),rfl,rfl⟩
 ·rw[if_pos rfl]
  rcases hb with rfl|rfl
  ·exact⟨FK.leaf (.inr (.inr (.inr (.inr ⟨rfl,rfl,rfl⟩)))),rfl,rfl⟩
  ·exact⟨FK.leaf (.inr (.inr (.inr (.inl ⟨rfl,rfl,rfl⟩)))),rfl,rfl⟩
theorem tyL_err{cl:List Nat→Int×Int}{scope:Int}: ∀{xs:List Ex} {e:Int},tyL cl scope xs= .error e→e≠0
 | [],e,h=>by rw[tyL]at h;cases h
 |x::xs,e,h=>by
  rw[tyL]at h
  split at h
  ·rename_i h0;cases h;exact h0
  ·cases hx:tyL cl scope xs with
   |error e'=>rw[hx]at h;cases h;exact tyL_err hx
   |ok us=>rw[hx]at h;cases h
theorem FK.arg{scope k:Int}{y:Ex}(h:FK scope k y)(h6:y.op≠6): ∃ts,FKs scope ts y.args∧resK y.op ts=k∧k≠0:=by
 obtain⟨h1,h2,har,hnum,hname,hwl⟩:=h.node
 have ht:=h.2
 rw[Ex.ty_eq,if_neg h6]at ht
 cases hr:tyL nc scope y.args with
 |error e=>
  rw[hr]at ht
  have hh:((0:Int),e)=(k,0):=ht
  injection hh with _ h0
  exact absurd h0 (tyL_err hr)
 |ok ts=>
  rw[hr]at ht
  have hh:(if resK y.op ts=0 then((0:Int),(9:Int))else(resK y.op ts,0))=(k,0):=ht
  split at hh
  ·cases hh
  ·rename_i hne
   have e1:resK y.op ts=k:=by injection hh
   refine⟨ts, ?_,e1,by rw[←e1];exact hne⟩
   clear ht hh e1 hne har hnum hname h1 h2 h
   generalize y.args=ys at hr hwl
   induction ys generalizing ts with
   |nil=>rw[tyL]at hr;cases hr;trivial
   |cons z zs ih=>
    rw[wfL,Bool.and_eq_true]at hwl
    rw[tyL]at hr
    split at hr
    ·cases hr
    ·rename_i h0
     cases hx:tyL nc scope zs with
     |error e=>rw[hx]at hr;cases hr
     |ok us=>
      rw[hx]at hr;cases hr
      refine⟨⟨hwl.1, ?_⟩,ih us hx hwl.2⟩
      have e2:(z.ty nc scope).2=0:=by simpa using h0
      rw[←e2]
theorem FK.lit{scope k:Int}{y:Ex}(h:FK scope k y)(hl:isLit y=true):inK k (litV y)∧y.kX=k∧(y.op=7→0<y.args.length∧bd (arg0 y).num):=by
 obtain⟨h1,h2,har,hnum,hname,hwl⟩:=h.node
 have h7:y.op=7→0<y.args.length:=fun e=>by rw[e]at har;simp[arOk]at har;omega
 rw[isLit_eq y h7,Bool.or_eq_true,Bool.and_eq_true,decide_eq_true_eq,decide_eq_true_eq,decide_eq_true_eq]at hl
 rw[litV_eq y h7]
 have h6:y.op≠6:=by omega
 obtain⟨ts,hts,hr,hk⟩:=h.arg h6
 rcases hl with hl|⟨hl7,hz⟩
 ·have hlen:y.args.length=0:=by
   rcases hl with e|e|e|e|e <;> rw[e]at har <;> simpa[arOk]using har
  have hts0:ts= []:=by have:=hts.len;rw[hlen]at this;exact List.length_eq_zero_iff.1 this
  subst hts0
  rw[Ex.kX_eq]
  rcases hl with e|e|e|e|e <;> rw[e]at hr hnum ⊢
  ·have hk1:k=1:=hr.symm
   subst hk1
   exact⟨inK_of (.inl rfl) ⟨by have:=hnum.1;omega,hnum.2⟩,rfl,fun c=>absurd c (by decide)⟩
  ·have hk1:k=2:=hr.symm
   subst hk1
   exact⟨inK_of (.inr rfl) ⟨by have:=hnum.1;omega,hnum.2⟩,rfl,fun c=>absurd c (by decide)⟩
  ·have hk1:k=3:=hr.symm
   subst hk1
   exact⟨.inr (.inl ⟨rfl,hnum.1,hnum.2⟩),rfl,fun c=>absurd c (by decide)⟩
  ·have hk1:k=4:=hr.symm
   subst hk1
   exact⟨.inr (.inr ⟨rfl,.inr rfl⟩),rfl,fun c=>absurd c (by decide)⟩
  ·have hk1:k=4:=hr.symm
   subst hk1
   exact⟨.inr (.inr ⟨rfl,.inl rfl⟩),rfl,fun c=>absurd c (by decide)⟩
 ·have hlen:y.args.length=1:=by rw[hl7]at har;simpa[arOk]using har
  obtain⟨z,hzz⟩: ∃z,y.args= [z]:=by
   match hy:y.args,hlen with
   | [z],_=>exact⟨z,rfl⟩
  have hz0:arg0 y=z:=by unfold arg0;rw[hzz];rfl
  rw[hz0]at hz ⊢
  rw[hzz]at hts
  match ts,hts with
  | [t],hts=>
    have hz1:=hts.1
    obtain⟨_,_,zar,znum,_,_⟩:=hz1.node
    have z6:z.op≠6:=by omega
    obtain⟨us,hus,zr,_⟩:=hz1.arg z6
    have hzn:z.args.length=0:=by rcases hz with e|e <;> rw[e]at zar <;> simpa[arOk]using zar
    have hus0:us= []:=by have:=hus.len;rw[hzn]at this;exact List.length_eq_zero_iff.1 this
    subst hus0
    have hb:bd z.num:=by
     rcases hz with e|e <;> rw[e]at znum <;> exact⟨by have:=znum.1;omega,znum.2⟩
    have htk:t=z.op:=by rcases hz with e|e <;> rw[e]at zr ⊢ <;> exact zr.symm
    have hkk:k=t:=by
     rw[hl7]at hr
     rcases hz with e|e <;> rw[htk,e]at hr <;> rw[htk,e,←hr] <;> rfl
    rw[hl7,if_neg (by decide),if_neg (by decide),if_pos rfl]
    refine⟨inK_of (by omega) (bd_neg hb), ?_,fun _=>⟨by omega,hb⟩⟩
    rw[Ex.kX_eq,hl7,hzz]
    have hzk:z.kX=t:=by
     rw[Ex.kX_eq]
     rcases hz with e|e <;> rw[htk,e] <;> rfl
    show z.kX=k
    rw[hzk,hkk]
end Go.Proofs.YtfenhjpkomldcaaGreat
namespace Go.Proofs.YtfenhjpkomldcaaGreat
open Go Go.Ev
def inKs:List Int→List Int→Prop
 | [],[]=>True
 |t::ts,v::vs=>inK t v∧inKs ts vs
 |_,_=>False
theorem inKs.len: ∀{ts vs:List Int},inKs ts vs→ts.length=vs.length
 | [],[],_=>rfl
 |t::ts,v::vs,h=>by rw[List.length_cons,List.length_cons,inKs.len h.2]
theorem inKs.bd: ∀{ts vs:List Int},inKs ts vs→ ∀v∈vs,bd v
 | [],[],_=>by simp
 |t::ts,v::vs,h=>by
  intro w hw
  rcases List.mem_cons.1 hw with rfl|hw
  ·exact inK_bd h.1
  ·exact inKs.bd h.2 w hw
theorem inKs.all{k:Int}: ∀{ts vs:List Int},inKs ts vs→allK ts k=true→ ∀v∈vs,inK k v
 | [],[],_,_=>by simp
 |t::ts,v::vs,h,ha=>by
  rw[allK_cons,Bool.and_eq_true,decide_eq_true_eq]at ha
  intro w hw
  rcases List.mem_cons.1 hw with rfl|hw
  ·rw[←ha.1];exact h.1
  ·exact inKs.all h.2 ha.2 w hw
theorem exL_bd(op:Int)(h:op=12∨op=13): ∀(vs:List Int) (m:Int),bd m→(∀v∈vs,bd v)→bd (exL op m vs)
 | [],m,hm,_=>by rw[exL_nil];exact hm
 |v::vs,m,hm,hv=>by
  rw[exL_cons _ _ _ _ h]
  refine exL_bd op h vs _ ?_ (fun w hw=>hv w (by simp[hw]))
  have:=hv v (by simp)
  split <;> (unfold Go.Proofs.YtfenhjpkomldcaaGreat.bd at *; omega)
theorem k12{ts:List Int}{k:Int}(h:(if allK ts 1=true then(1:Int)else if allK ts 2=true then 2 else 0)=k)(hk:k≠0):k=1∨k=2:=by
 split at h
 ·exact .inl h.symm
 ·split at h
  ·exact .inr h.symm
  ·exact absurd h.symm hk
theorem prodK_in{op a b k:Int}(h:prodK op a b=k)(hk:k≠0):k=1∨k=2:=by
 unfold prodK at h
 split at h
 ·omega
 ·split at h
  ·omega
  ·split at h
   ·omega
   ·split at h <;> omega
theorem ap_ok{op k:Int}{ts vs:List Int}(hin:inKs ts vs)(h7:7≤op)(h22:op≤22)(har:arOk op ts.length=true)(hr:resK op ts=k)(hk:k≠0):vOk op vs∧inK k (apS op vs):=by
 have hbd:=hin.bd
 have hlen:=hin.len
 have flag: ∀b:Bool,inK 4 (flagS b):=fun b=> .inr (.inr ⟨rfl,flagS_bit b⟩)
 rcases op_cases (show 1≤op by omega) h22 with rfl|rfl|rfl|rfl|rfl|rfl|rfl|rfl|rfl|rfl|rfl|rfl|rfl|rfl|rfl|rfl|rfl|rfl|rfl|rfl|rfl|rfl
 iterate 6 ·omega
 ·have hkk:=k12 hr hk
  obtain⟨v,rfl⟩:=len1 (ts:=vs) (by rw[←hlen];simpa[arOk]using har)
  exact⟨⟨hbd,fun h=>absurd h (by decide),fun h=>absurd h (by decide)⟩,inK_of hkk (bd_neg (hbd v (by simp)))⟩
 ·have hkk:=k12 hr hk
  obtain⟨v,w,rfl⟩:=len2 (ts:=vs) (by rw[←hlen];simpa[arOk]using har)
  exact⟨⟨hbd,fun h=>absurd h (by decide),fun h=>absurd h (by decide)⟩,inK_of hkk (clampS_bd _)⟩
 ·have hkk:=k12 hr hk
  obtain⟨v,w,rfl⟩:=len2 (ts:=vs) (by rw[←hlen];simpa[arOk]using har)
  exact⟨⟨hbd,fun h=>absurd h (by decide),fun h=>absurd h (by decide)⟩,inK_of hkk (clampS_bd _)⟩
 ·have hkk:=prodK_in (op:=10) hr hk
  obtain⟨v,w,rfl⟩:=len2 (ts:=vs) (by rw[←hlen];simpa[arOk]using har)
  exact⟨⟨hbd,fun h=>absurd h (by decide),fun h=>absurd h (by decide)⟩,inK_of hkk (clampS_bd _)⟩
 ·have hkk:=prodK_in (op:=11) hr hk
  obtain⟨v,w,rfl⟩:=len2 (ts:=vs) (by rw[←hlen];simpa[arOk]using har)
  exact⟨⟨hbd,fun h=>absurd h (by decide),fun h=>absurd h (by decide)⟩,inK_of hkk (divS_bd _ _)⟩
 iterate 2
  ·have hkk:=k12 hr hk
   match vs,hbd,hlen with
   | [],_,hlen=>rw[hlen]at har;simp[arOk]at har
   |v::vs,hbd,_=>
    refine⟨⟨hbd,fun h=>absurd h (by decide),fun h=>absurd h (by decide)⟩,inK_of hkk ?_⟩
    first
     |exact exL_bd 12 (.inl rfl) vs v (hbd v (by simp)) (fun w hw=>hbd w (by simp[hw]))
     |exact exL_bd 13 (.inr rfl) vs v (hbd v (by simp)) (fun w hw=>hbd w (by simp[hw]))
 ·obtain⟨a,b,c,rfl⟩:=len3 (ts:=ts) (by simpa[arOk]using har)
  obtain⟨x,y,z,rfl⟩:=len3 (ts:=vs) (by rw[←hlen];rfl)
  obtain⟨h1,h2,h3,_⟩:=hin
  have hrr:(if a=4∧b=c then b else 0)=k:=hr
  split at hrr
  ·rename_i hab
   obtain⟨rfl,rfl⟩:=hab
   subst hrr
   have hbit:=inK_bit h1
   refine⟨⟨hbd,fun h=>absurd h (by decide),fun _=>hbit⟩, ?_⟩
   show inK b (if x=0 then z else y)
   split
   ·exact h3
   ·exact h2
  ·exact absurd hrr.symm hk
 ·have hrr:(if allK ts 3=true then(4:Int)else 0)=k:=hr
  split at hrr
  ·subst hrr
   exact⟨⟨hbd,fun h=>absurd h (by decide),fun h=>absurd h (by decide)⟩,flag _⟩
  ·exact absurd hrr.symm hk
 iterate 2
  ·have hrr:(if(a0 ts=1∨a0 ts=2)∧a0 ts=a1 ts then(4:Int)else 0)=k:=hr
   split at hrr
   ·subst hrr
    exact⟨⟨hbd,fun h=>absurd h (by decide),fun h=>absurd h (by decide)⟩,flag _⟩
   ·exact absurd hrr.symm hk
 ·have hrr:(if a0 ts=a1 ts then(4:Int)else 0)=k:=hr
  split at hrr
  ·subst hrr
   exact⟨⟨hbd,fun h=>absurd h (by decide),fun h=>absurd h (by decide)⟩,flag _⟩
  ·exact absurd hrr.symm hk
 ·have hrr:(if allK ts 4=true then(4:Int)else 0)=k:=hr
  split at hrr
  ·rename_i hall
   subst hrr
   have hb:=fun v hv=>inK_bit (hin.all hall v hv)
   obtain⟨v,rfl⟩:=len1 (ts:=vs) (by rw[←hlen];simpa[arOk]using har)
   have hv:=hb v (by simp)
   refine⟨⟨hbd,fun _=>hb,fun h=>absurd h (by decide)⟩,.inr (.inr ⟨rfl, ?_⟩)⟩
   show bit (1-v)
   unfold bit at *; omega
  ·exact absurd hrr.symm hk
 iterate 3
  ·have hrr:(if allK ts 4=true then(4:Int)else 0)=k:=hr
   split at hrr
   ·rename_i hall
    subst hrr
    have hb:=fun v hv=>inK_bit (hin.all hall v hv)
    obtain⟨v,w,rfl⟩:=len2 (ts:=vs) (by rw[←hlen];simpa[arOk]using har)
    have hv:=hb v (by simp)
    have hw:=hb w (by simp)
    refine⟨⟨hbd,fun _=>hb,fun h=>absurd h (by decide)⟩,.inr (.inr ⟨rfl, ?_⟩)⟩
    first
     |(show bit (min v w);unfold bit at *; omega)
     |(show bit (max v w);unfold bit at *; omega)
     |(show bit (max (1-v) w);unfold bit at *; omega)
   ·exact absurd hrr.symm hk
theorem kX_node{op k:Int}{ts:List Int}{ys:List Ex}(hks:kXL ys=ts)(h7:7≤op)(h22:op≤22)(har:arOk op ts.length=true)(hr:resK op ts=k)(hk:k≠0):(Ex.mk op 0 [] ys).kX=k:=by
 rw[Ex.kX_eq]
 show(if op=1 then(1:Int)else if op=2 then 2 else if op=3 then 3 else if op=7∨op=8∨op=9∨op=12∨op=13 then a0 (kXL ys)else if op=14 then a1 (kXL ys)
  else if op=10 then max (a0 (kXL ys)) (a1 (kXL ys))else if op=11 then(if a1 (kXL ys)=2 then 1 else a0 (kXL ys))else 4)=k
 rw[hks]
 have hsum: ∀t us,ts=t::us→(if allK ts 1=true then(1:Int)else if allK ts 2=true then 2 else 0)=k→t=k:=by
  rintro t us rfl h
  rw[sumK]at h
  split at h
  ·exact h
  ·exact absurd h.symm hk
 have hc: ∀t us,ts=t::us→a0 ts=t:=by rintro t us rfl;rfl
 rcases op_cases (show 1≤op by omega) h22 with rfl|rfl|rfl|rfl|rfl|rfl|rfl|rfl|rfl|rfl|rfl|rfl|rfl|rfl|rfl|rfl|rfl|rfl|rfl|rfl|rfl|rfl
 iterate 6 ·omega
 ·obtain⟨a,rfl⟩:=len1 (ts:=ts) (by simpa[arOk]using har)
  exact hsum a [] rfl hr
 ·obtain⟨a,b,rfl⟩:=len2 (ts:=ts) (by simpa[arOk]using har)
  exact hsum a [b] rfl hr
 ·obtain⟨a,b,rfl⟩:=len2 (ts:=ts) (by simpa[arOk]using har)
  exact hsum a [b] rfl hr
 ·obtain⟨a,b,rfl⟩:=len2 (ts:=ts) (by simpa[arOk]using har)
  have hrr:prodK 10 a b=k:=hr
  unfold prodK at hrr
  show max a b=k
  split at hrr
  ·omega
  ·split at hrr
   ·omega
   ·split at hrr
    ·omega
    ·split at hrr <;> omega
 ·obtain⟨a,b,rfl⟩:=len2 (ts:=ts) (by simpa[arOk]using har)
  have hrr:prodK 11 a b=k:=hr
  unfold prodK at hrr
  show(if b=2 then(1:Int)else a)=k
  split at hrr
  ·rw[if_neg (by omega)];omega
  ·split at hrr
   ·rw[if_neg (by omega)];omega
   ·split at hrr
    ·omega
    ·split at hrr
     ·rw[if_pos (by omega)];omega
     ·omega
 iterate 2
  ·match ts,har,hr,hsum with
   | [],har,_,_=>simp[arOk]at har
   |t::us,_,hr,hsum=>exact hsum t us rfl hr
 ·obtain⟨a,b,c,rfl⟩:=len3 (ts:=ts) (by simpa[arOk]using har)
  have hrr:(if a=4∧b=c then b else 0)=k:=hr
  split at hrr
  ·exact hrr
  ·exact absurd hrr.symm hk
 all_goals
  (have h4:k=4∨k=0:=by
    simp only[resK,Int.reduceEq,or_self,if_false,if_true,or_true,or_false]at hr
    split at hr <;> omega)
  (rcases h4 with rfl|rfl
   ·rfl
   ·exact absurd rfl hk)
end Go.Proofs.YtfenhjpkomldcaaGreat
