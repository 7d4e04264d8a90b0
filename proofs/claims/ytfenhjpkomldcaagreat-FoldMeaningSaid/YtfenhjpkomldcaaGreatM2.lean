/- The language of expressions: form, types, values, simplified forms; plain definitions. The size of an expression, as the program and the reference count it. The form of an expression: both checks. The form of an expression: both checks. Conditions: the theorems' own. -/
import Derived.Test.YtfenhjpkomldcaaGreatM1
import Derived.KernelRfl
set_option maxRecDepth 100000
set_option linter.unusedSimpArgs false
set_option linter.unusedVariables false
set_option maxHeartbeats 16000000
namespace Go.Proofs.YtfenhjpkomldcaaGreat
open Go Go.Ev
def dotI:List Nat→Option Nat
 | []=>none
 |c::cs=>if c=46 then some 0 else(dotI cs).map (· +1)
def attrNm(s:List Nat):Bool:=match dotI s with
 |none=>dnameS s
 |some i=>nameS (s.take i)&&nameS (s.drop (i+1))
def arOk(op:Int)(n:Nat):Bool:=
 if op≤6 then decide (n=0)else if op=7∨op=19 then decide (n=1)else if op=12∨op=13 then decide (2≤n)
 else if op=14∨op=15 then decide (n=3)else decide (n=2)
def mostN(op:Int):Int:=if op=1∨op=2 then 1099511627776 else if op=3 then 1439 else 0
def nodeOk(op num:Int)(name:List Nat)(n:Nat):Bool:=
 decide (1≤op)&&(decide (op≤22)&&(arOk op n&&(decide (0≤num∧num≤mostN op)&&(if op=6 then attrNm name else decide (name= [])))))
mutual
def Ex.wf:Ex→Bool
 | .mk op num name args=>nodeOk op num name args.length&&wfL args
def wfL:List Ex→Bool
 | []=>true
 |x::xs=>x.wf&&wfL xs
end
theorem Ex.wf_eq(x:Ex):x.wf=(nodeOk x.op x.num x.name x.args.length&&wfL x.args):=by obtain⟨_,_,_,_⟩:=x;rw[Ex.wf];rfl
theorem wfL_mem: ∀{xs:List Ex},wfL xs=true↔ ∀x∈xs,x.wf=true
 | []=>by simp[wfL]
 |x::xs=>by rw[wfL,Bool.and_eq_true,wfL_mem (xs:=xs)];simp
def big(x:Ex):Prop:=200<x.nodes∨16<x.depth
instance (x:Ex):Decidable (big x):=by unfold big;infer_instance
def validE(x:Ex):Int:=if big x then 10 else if x.wf then 0 else 1
def allK(ts:List Int)(k:Int):Bool:=ts.all fun t=>decide (t=k)
def prodK(op a b:Int):Int:=
 if a=1∧b=1 then 1 else if a=2∧b=1 then 2 else if op=10∧a=1∧b=2 then 2 else if op=11∧a=2∧b=2 then 1 else 0
def a0(ts:List Int):Int:=ts.getD 0 0
def a1(ts:List Int):Int:=ts.getD 1 0
def a2(ts:List Int):Int:=ts.getD 2 0
def resK(op:Int)(ts:List Int):Int:=
 if op=1 then 1 else if op=2 then 2 else if op=3 then 3 else if op=4 then 4 else if op=5 then 4
 else if op=7∨op=8∨op=9∨op=12∨op=13 then(if allK ts 1 then 1 else if allK ts 2 then 2 else 0)
 else if op=10∨op=11 then prodK op (a0 ts) (a1 ts)
 else if op=14 then(if a0 ts=4∧a1 ts=a2 ts then a1 ts else 0)
 else if op=15 then(if allK ts 3 then 4 else 0)
 else if op=16∨op=17 then(if(a0 ts=1∨a0 ts=2)∧a0 ts=a1 ts then 4 else 0)
 else if op=18 then(if a0 ts=a1 ts then 4 else 0)
 else(if allK ts 4 then 4 else 0)
mutual
def Ex.ty(cl:List Nat→Int×Int)(scope:Int):Ex→Int×Int
 | .mk op _ name args=>
   if op=6 then(if attrK scope name≠0 then(attrK scope name,0)else cl name)
   else match tyL cl scope args with
    | .error e=>(0,e)
    | .ok ts=>if resK op ts=0 then(0,9)else(resK op ts,0)
def tyL(cl:List Nat→Int×Int)(scope:Int):List Ex→Except Int (List Int)
 | []=> .ok []
 |x::xs=>if(x.ty cl scope).2≠0 then .error (x.ty cl scope).2 else match tyL cl scope xs with
  | .error e=> .error e
  | .ok ts=> .ok ((x.ty cl scope).1::ts)
end
theorem Ex.ty_eq(cl:List Nat→Int×Int)(scope:Int)(x:Ex):x.ty cl scope=
  if x.op=6 then(if attrK scope x.name≠0 then(attrK scope x.name,0)else cl x.name)
  else match tyL cl scope x.args with
   | .error e=>(0,e)
   | .ok ts=>if resK x.op ts=0 then(0,9)else(resK x.op ts,0):=by obtain⟨_,_,_,_⟩:=x;rw[Ex.ty];rfl
abbrev Cs:=List (List Nat×Ex)
def idxC:Cs→List Nat→Option Nat
 | [],_=>none
 |c::cs,s=>if c.1=s then some 0 else(idxC cs s).map (· +1)
def clk(l:Cs)(tab:List (Int×Int))(s:List Nat):Int×Int:=match idxC l s with
 |none=>(0,6)
 |some i=>tab.getD i (0,6)
def entC(l:Cs)(tab:List (Int×Int))(x:Ex):Int×Int:=if validE x≠0 then(0,validE x)else x.ty (clk l tab) 0
def tabC(l:Cs):Nat→List (Int×Int)
 |0=> []
 |n+1=>tabC l n++ [entC (l.take n) (tabC l n) (l.getD n ([],.mk 0 0 [] [])).2]
def typeS(l:Cs)(scope:Int)(x:Ex):Int×Int:=if validE x≠0 then(0,validE x)else x.ty (clk l (tabC l l.length)) scope
def isLit(x:Ex):Bool:=match x with
 | .mk op _ _ args=>decide (op=1∨op=2∨op=3∨op=4∨op=5)||(decide (op=7)&&(match args with|y::_=>decide (y.op=1∨y.op=2)| []=>false))
def litV(x:Ex):Int:=match x with
 | .mk op num _ args=>if op=4 then 1 else if op=5 then 0 else if op=7 then(match args with|y::_=> -y.num| []=>0)else num
def leafX(op num:Int):Ex:= .mk op num [] []
def litX(k n:Int):Ex:=
 if k=4 then(if n=0 then leafX 5 0 else leafX 4 0)else if k=3 then leafX 3 n
 else if n<0 then .mk 7 0 [] [leafX (if k=2 then 2 else 1) (-n)]else leafX (if k=2 then 2 else 1) n
def clampS(n:Int):Int:=max (-1099511627776) (min 1099511627776 n)
def divS(a b:Int):Int:=if b=0 then 0 else clampS (Int.fdiv a b)
def bandS(c f t:Int):Bool:=if f≤t then decide (f≤c∧c<t)else decide (f≤c∨c<t)
def flagS(b:Bool):Int:=if b then 1 else 0
def minL:Int→List Int→Int
 |m,[]=>m
 |m,v::vs=>minL (min m v) vs
def maxL:Int→List Int→Int
 |m,[]=>m
 |m,v::vs=>maxL (max m v) vs
def apS(op:Int)(vs:List Int):Int:=
 if op=7 then-a0 vs else if op=8 then clampS (a0 vs+a1 vs)else if op=9 then clampS (a0 vs-a1 vs)else if op=10 then clampS (a0 vs*a1 vs)
 else if op=11 then divS (a0 vs) (a1 vs)else if op=12 then minL (a0 vs) vs.tail else if op=13 then maxL (a0 vs) vs.tail
 else if op=14 then(if a0 vs=0 then a2 vs else a1 vs)else if op=15 then flagS (bandS (a0 vs) (a1 vs) (a2 vs))
 else if op=16 then flagS (decide (a0 vs<a1 vs))else if op=17 then flagS (decide (a0 vs≤a1 vs))else if op=18 then flagS (decide (a0 vs=a1 vs))
 else if op=19 then 1-a0 vs else if op=20 then min (a0 vs) (a1 vs)else if op=21 then max (a0 vs) (a1 vs)else max (1-a0 vs) (a1 vs)
def zeroX(x:Ex):Bool:=decide (x.op=1∨x.op=2)&&decide (x.num=0)
def oneX(x:Ex):Bool:=decide (x.op=1)&&decide (x.num=1)
def redX(op:Int)(ys:List Ex):Ex:=
 match ys with
 | [a]=>if op=19∧a.op=19 then a.args.headD (leafX 0 0)else .mk op 0 [] ys
 | [a,b]=>
   if op=20 then(if a.op=5∨b.op=5 then leafX 5 0 else if a.op=4 then b else if b.op=4 then a else .mk op 0 [] ys)
   else if op=21 then(if a.op=4∨b.op=4 then leafX 4 0 else if a.op=5 then b else if b.op=5 then a else .mk op 0 [] ys)
   else if op=22 then(if a.op=5∨b.op=4 then leafX 4 0 else if a.op=4 then b else if b.op=5 then(if a.op=19 then a.args.headD (leafX 0 0)else .mk 19 0 [] [a])else .mk op 0 [] ys)
   else if op=8 then(if zeroX b then a else if zeroX a then b else .mk op 0 [] ys)
   else if op=9 then(if zeroX b then a else .mk op 0 [] ys)
   else if op=10 then(if oneX b then a else if oneX a then b else .mk op 0 [] ys)
   else if op=11 then(if oneX b then a else .mk op 0 [] ys)
   else .mk op 0 [] ys
 | [a,b,c]=>if op=14 then(if a.op=4 then b else if a.op=5 then c else .mk op 0 [] ys)else .mk op 0 [] ys
 |_=> .mk op 0 [] ys
mutual
def Ex.fold(cl:List Nat→Int×Int)(cx:List Nat→Ex)(scope:Int):Ex→Ex
 | .mk op num name args=>
   if op=6 then(if attrK scope name≠0 then .mk op num name args else cx name)
   else if args.isEmpty then .mk op num name args
   else if(foldL cl cx scope args).all isLit then litX ((Ex.mk op num name args).ty cl scope).1 (apS op ((foldL cl cx scope args).map litV))
   else redX op (foldL cl cx scope args)
def foldL(cl:List Nat→Int×Int)(cx:List Nat→Ex)(scope:Int):List Ex→List Ex
 | []=> []
 |x::xs=>x.fold cl cx scope::foldL cl cx scope xs
end
end Go.Proofs.YtfenhjpkomldcaaGreat
namespace Go.Proofs.YtfenhjpkomldcaaGreat
open Go Go.Ev
theorem wr_succS{k:Nat}(h:k≤1000000):wr .i64 ((k:Int)+1)=((k+1:Nat):Int):=wr_succ (Nat.lt_of_le_of_lt h (by decide))
def Lim:Nat:=1000000
theorem lim_of{k:Nat}(h:k≤100000):k≤Lim:=Nat.le_trans h (by decide)
theorem wr_succL{k:Nat}(h:k≤Lim):wr .i64 ((k:Int)+1)=((k+1:Nat):Int):=wr_succS h
def LimS:Nat:=1125899906842624
theorem limS_of{k:Nat}(h:k≤100000):k≤LimS:=Nat.le_trans h (by decide)
theorem wr_succT{k:Nat}(h:k≤LimS):wr .i64 ((k:Int)+1)=((k+1:Nat):Int):=wr_succ (Nat.lt_of_le_of_lt h (by decide))
def cntS(n:Nat):List Ent:= [⟨1,.cells [.i .i64 (n:Int)] 0 true⟩]
def fitsOk(n level:Nat)(x:Ex):Prop:=n+x.nodes≤200∧level+x.depth≤17
def fitsOkL(n level:Nat)(xs:List Ex):Prop:=n+nodesL xs≤200∧level+depthL xs≤17
instance (n level:Nat) (x:Ex):Decidable (fitsOk n level x):=by unfold fitsOk;infer_instance
instance (n level:Nat) (x:List Ex):Decidable (fitsOkL n level x):=by unfold fitsOkL;infer_instance
theorem drop_args{xs:List Ex}{k:Nat}(hk:k<xs.length):xs.drop k=xs[k]::xs.drop (k+1):=List.drop_eq_getElem_cons hk
def fitsI(level n:Nat)(a:T)(xs:List Ex)(k:Nat)(st:St):Prop:=
 ∃fr lh m,st=⟨fr,lh,cntS m⟩∧getF fr 1= .i .i64 (level:Int)∧getF fr 2= .ptr .S 0 1 0∧getF fr 23=a∧getF fr 24= .i .i64 (xs.length:Int)∧getF fr 25= .i .i64 (k:Int)∧
  k≤m∧m≤200∧(fitsOkL m (level+1) (xs.drop k)↔fitsOkL n (level+1) xs)∧(fitsOkL n (level+1) xs→m+nodesL (xs.drop k)=n+nodesL xs)
def fitsP(y:Ex):Prop:= ∀(level n:Nat) (cs:List T),IsEx y cs→n≤200→level≤17→ ∃n':Nat,DCall pE 101 [.agg cs,.i .i64 (level:Int),.ptr .S 0 1 0] (cntS n)=some (.b (decide (fitsOk n level y)),cntS n')∧(fitsOk n level y→n'=n+y.nodes)
theorem fits1(xs:List Ex)(ih: ∀y∈xs,fitsP y)(a:T)(cc:List T)(ha:IsSl a xs.length cc)(hx:IsExs xs cc)(level n:Nat)(hl:level≤16)(hn:n≤200)(o:Out)(ho:o=if fitsOkL n (level+1) xs then .ext 0 else .ret)(fr:Fr)(lh:Tri Ent)(sh:List Ent)(hsh:sh=cntS n)
  (h1:getF fr 1= .i .i64 (level:Int)) (h2:getF fr 2= .ptr .S 0 1 0) (h23:getF fr 23=a) (h24:getF fr 24= .i .i64 (xs.length:Int)) (h25:getF fr 25= .i .i64 0):
  DC pE 36 (.loop c101_L1) ⟨fr,lh,sh⟩=some (o,⟨frL pE 36 c101_L1 fr lh sh,lhL pE 36 c101_L1 fr lh sh,shL pE 36 c101_L1 fr lh sh⟩)∧
  ((fitsOkL n (level+1) xs→shL pE 36 c101_L1 fr lh sh=cntS (n+nodesL xs))∧(¬fitsOkL n (level+1) xs→getF (frL pE 36 c101_L1 fr lh sh) 6= .b false∧ ∃m,shL pE 36 c101_L1 fr lh sh=cntS m)):=by
 refine loop_rule (P:=fun fr lh sh=>(fitsOkL n (level+1) xs→sh=cntS (n+nodesL xs))∧(¬fitsOkL n (level+1) xs→getF fr 6= .b false∧ ∃m,sh=cntS m)) (loop_inv (fitsI level n a xs) _ xs.length ?_ ?_ 0 _ (Nat.zero_le _) ⟨fr,lh,n,by rw[hsh],h1,h2,h23,h24,h25,Nat.zero_le _,hn,Iff.rfl,fun _=>rfl⟩)
 ·rintro k _ hk ⟨fr,lh,m,rfl,h1,h2,h23,h24,h25,hkm,hm,he,hs⟩
  have hk':(k:Int)<xs.length:=by omega
  have hy1:=xs[k].nodes_eq
  have hw:=wr_succS (k:=k) (by omega)
  have hw2:=wr_succS (k:=level) (by omega)
  obtain⟨b,cb,r,hia,hb1,hb2,hb⟩:=arg_at ha hx k hk
  obtain⟨m',hcall,hm'⟩:=ih xs[k] (List.getElem_mem hk) (level+1) m _ hb hm (by omega)
  rw[drop_args hk]at he hs
  simp only[fitsOkL,nodesL,depthL]at he hs
  by_cases hf:fitsOk m (level+1) xs[k]
  ·left
   rw[decide_eq_true hf]at hcall
   simp only[qF,qGO0,qGO1,qGO2,qGO3,qGO4,qGO5,splice,Nat.reduceAdd,Nat.reduceLT,Nat.reduceLeDiff,Nat.reduceEqDiff,qKP0,c101_L1,h1,h2,h23,h24,h25,hk',hia,hw,hw2,hcall,dc101,hb1.kept1]
   refine⟨_,rfl,_,_,m',rfl, ?_, ?_, ?_, ?_, ?_, ?_, ?_, ?_, ?_⟩
   all_goals first|(simp only[qGO2,qGO4,Nat.reduceEqDiff,h1,h2,h23,h24];done)|skip
   all_goals (rw[hm' hf];unfold fitsOk at hf;first|omega|(simp only[fitsOkL];omega)|(intro hc;have:=hs (by simpa only[fitsOkL]using hc);omega))
  ·right
   rw[decide_eq_false hf]at hcall
   simp only[qF,qGO0,qGO1,qGO2,qGO3,qGO4,qGO5,splice,Nat.reduceAdd,Nat.reduceLT,Nat.reduceLeDiff,Nat.reduceEqDiff,qKP0,c101_L1,h1,h2,h23,h24,h25,hk',hia,hw2,hcall,dc101,hb1.kept1]
   have hno: ¬fitsOkL n (level+1) xs:=by unfold fitsOk at hf;unfold fitsOkL;omega
   refine⟨_,_,(by simp:Out.ret≠ .nrm),rfl, ?_,fun hc=>absurd hc hno,fun _=>⟨by simp only[qGO2],m',rfl⟩⟩
   rw[ho,if_neg hno]
 ·rintro _ ⟨fr,lh,m,rfl,h1,h2,h23,h24,h25,hkm,hm,he,hs⟩
  rw[List.drop_length]at he hs
  have hyes:fitsOkL n (level+1) xs:=he.1 (by unfold fitsOkL;rw[nodesL,depthL];omega)
  simp only[qGO0,qGO1,qGO2,qGO4,qGO5,Nat.reduceLT,c101_L1,h24,h25,Int.lt_irrefl]
  refine⟨_,_,(by simp:Out.ext 0≠ .nrm),rfl,by rw[ho,if_pos hyes],fun _=> ?_,fun hc=>absurd hyes hc⟩
  have:=hs hyes
  rw[nodesL,Nat.add_zero]at this
  rw[this]
theorem fits_ev(x:Ex):fitsP x:=by
 induction x using Ex.ind with
 |h x ih=>
  intro level n cs hx hn hl
  obtain⟨a,cc,rfl,ha,hxs⟩:=hx.cells
  rw[p_fun fn101 (by simp[c101])]
  have hw:=wr_succS (k:=n) (by omega)
  have hnd:=x.nodes_eq
  have hdp:=x.depth_eq
  unfold cntS
  by_cases h1:(200:Int)<((n+1:Nat):Int)
  ·have hf: ¬fitsOk n level x:=by unfold fitsOk;omega
   rw[decide_eq_false hf]
   simp only[qF,qGO0,qGO1,qGO2,qGO3,qGO4,qGO5,splice,Nat.reduceAdd,reduceCtorEq,Nat.reduceLT,Nat.reduceEqDiff,qSH0,c101,hw,h1]
   exact⟨n+1,rfl,fun h=>absurd h hf⟩
  ·by_cases h2:(16:Int)<(level:Int)
   ·have hf: ¬fitsOk n level x:=by unfold fitsOk;omega
    rw[decide_eq_false hf]
    simp only[qF,qGO0,qGO1,qGO2,qGO3,qGO4,qGO5,splice,Nat.reduceAdd,reduceCtorEq,Nat.reduceLT,Nat.reduceEqDiff,qSH0,c101,hw,h1,h2]
    exact⟨n+1,rfl,fun h=>absurd h hf⟩
   ·have hiff:fitsOk n level x↔fitsOkL (n+1) (level+1) x.args:=by unfold fitsOk fitsOkL;omega
    have hL:=fun fr lh sh hsh=>fits1 x.args ih a cc ha hxs level (n+1) (by omega) (by omega) _ rfl fr lh sh hsh
    unfold cntS at hL
    by_cases hf:fitsOkL (n+1) (level+1) x.args
    ·rw[decide_eq_true (hiff.2 hf)]
     simp only[hf,if_true,forall_const,not_true_eq_false,false_implies,and_true]at hL
     simp only[qF,qGO0,qGO1,qGO2,qGO3,qGO4,qGO5,splice,Nat.reduceAdd,reduceCtorEq,Nat.reduceLT,Nat.reduceEqDiff,qSH0,c101,hw,h1,h2,ha.lenI,hL]
     exact⟨n+1+nodesL x.args,rfl,fun _=>by omega⟩
    ·rw[decide_eq_false (fun h=>hf (hiff.1 h))]
     simp only[hf,if_false,forall_const,not_false_eq_true,false_implies,true_and]at hL
     have hL2:=fun fr lh sh hsh h1 h2 h3 h4 h5=>(hL fr lh sh hsh h1 h2 h3 h4 h5).2.2
     have hL1:=fun fr lh sh hsh h1 h2 h3 h4 h5=>And.intro (hL fr lh sh hsh h1 h2 h3 h4 h5).1 (hL fr lh sh hsh h1 h2 h3 h4 h5).2.1
     simp only[qF,qGO0,qGO1,qGO2,qGO3,qGO4,qGO5,splice,Nat.reduceAdd,reduceCtorEq,Nat.reduceLT,Nat.reduceEqDiff,qSH0,c101,hw,h1,h2,ha.lenI,hL1]
     generalize hX:shL _ _ _ _ _ _=X
     obtain⟨m,hm⟩: ∃m:Nat,X= [⟨1,.cells [.i .i64 (m:Int)] 0 true⟩]:=by
      rw[←hX]
      refine hL2 _ _ _ rfl ?_ ?_ ?_ ?_ ?_ <;> simp only[qGO2,qGO4,reduceCtorEq,Nat.reduceEqDiff]
     rw[hm]
     exact⟨m,rfl,fun h=>absurd (hiff.1 h) hf⟩
end Go.Proofs.YtfenhjpkomldcaaGreat
namespace Go.Proofs.YtfenhjpkomldcaaGreat
open Go Go.Ev
mutual
def Ex.sz:Ex→Nat→Nat×Nat
 | .mk _ _ _ args,level=>if 16<level then(1,1)else szL args level (1,1)
def szL:List Ex→Nat→Nat×Nat→Nat×Nat
 | [],_,p=>p
 |x::xs,level,p=>if p.1≤200 then szL xs level (p.1+(x.sz (level+1)).1,max p.2 ((x.sz (level+1)).2+1))else p
end
end Go.Proofs.YtfenhjpkomldcaaGreat
namespace Go.Proofs.YtfenhjpkomldcaaGreat
open Go Go.Ev
theorem op_cases{op:Int}(h1:1≤op)(h2:op≤22):op=1∨op=2∨op=3∨op=4∨op=5∨op=6∨op=7∨op=8∨op=9∨op=10∨op=11∨op=12∨op=13∨op=14∨op=15∨op=16∨op=17∨op=18∨op=19∨op=20∨op=21∨op=22:=by omega
theorem argsFit_ev(op:Int)(n:Nat)(h1:1≤op)(h2:op≤22):DCall pE 155 [.i .i64 op,.i .i64 (n:Int)] []=some (.b (arOk op n),[]):=by
 have e0:decide ((n:Int)=0)=decide (n=0):=by rw[decide_eq_decide];omega
 have e1:decide ((n:Int)=1)=decide (n=1):=by rw[decide_eq_decide];omega
 have e2:decide ((n:Int)=2)=decide (n=2):=by rw[decide_eq_decide];omega
 have e3:decide ((n:Int)=3)=decide (n=3):=by rw[decide_eq_decide];omega
 have e4:decide ((2:Int)≤n)=decide (2≤n):=by rw[decide_eq_decide];omega
 rw[p_fun fn155 (by simp[c155])]
 rcases op_cases h1 h2 with rfl|rfl|rfl|rfl|rfl|rfl|rfl|rfl|rfl|rfl|rfl|rfl|rfl|rfl|rfl|rfl|rfl|rfl|rfl|rfl|rfl|rfl <;>
  simp only[qF,qGO0,qGO1,qGO2,qGO3,qGO4,qGO5,reduceCtorEq,Nat.reduceLT,Nat.reduceEqDiff,Int.reduceLE,Int.reduceEq,c155,arOk,e0,e1,e2,e3,e4,or_true,or_false,or_self]
theorem dotI_lt: ∀{s:List Nat} {i:Nat},dotI s=some i→i<s.length
 | [],i,h=>by simp[dotI]at h
 |c::cs,i,h=>by
  rw[dotI]at h
  split at h
  ·simp at h;subst h;simp
  ·cases hd:dotI cs with
   |none=>simp[hd]at h
   |some j=>
    simp[hd]at h
    have:=dotI_lt hd
    subst h;simpa using this
def dotV(s:List Nat):Int:=match dotI s with|none=> -1|some i=>(i:Int)
theorem slSV_from{fr:Fr}{bs:List Nat}{x:Opd}{k:IntKind}{j:Nat}(h:rd fr x= .i k (j:Int))(hj:j≤bs.length):slSV fr (.s bs) (some x) none=some (.s (bs.drop j)):=by
 unfold slSV optVal
 have ht:List.take (bs.length-j) (bs.drop j)=bs.drop j:=List.take_of_length_le (by simp)
 simp[h,asNat_i,hj,ht]
theorem slSV_to{fr:Fr}{bs:List Nat}{x:Opd}{k:IntKind}{j:Nat}(h:rd fr x= .i k (j:Int))(hj:j≤bs.length):slSV fr (.s bs) none (some x)=some (.s (bs.take j)):=by
 unfold slSV optVal
 simp[h,asNat_i,hj]
theorem attrNm_some{s:List Nat}{i:Nat}(h:dotI s=some i):attrNm s=(nameS (s.take i)&&nameS (s.drop (i+1))):=by unfold attrNm;rw[h]
theorem attrNm_none{s:List Nat}(h:dotI s=none):attrNm s=dnameS s:=by unfold attrNm;rw[h]
end Go.Proofs.YtfenhjpkomldcaaGreat
