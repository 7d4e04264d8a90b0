/- The language of expressions: form, types, values, simplified forms; plain definitions. The size of an expression, as the program and the reference count it. The form of an expression: both checks. The form of an expression: both checks. Conditions: the theorems' own. -/
import Derived.Test.YtfenhjpkomldcaaGreatM1
import Derived.KernelRfl
set_option maxRecDepth 100000
set_option linter.unusedSimpArgs false
set_option linter.unusedVariables false
set_option maxHeartbeats 16000000
namespace Go.Proofs.YtfenhjpkomldcaaGreat
open Go Go.Ev
def iX:List Nat→Option Nat
 | []=>none
 |c::cs=>if c=46 then some 0 else(iX cs).map (· +1)
def iY(s:List Nat):Bool:=match iX s with
 |none=>eF s
 |some i=>gm (s.take i)&&gm (s.drop (i+1))
def bm(op:Int)(n:Nat):Bool:=
 if op≤6 then decide (n=0)else if op=7∨op=19 then decide (n=1)else if op=12∨op=13 then decide (2≤n)
 else if op=14∨op=15 then decide (n=3)else decide (n=2)
def iA(op:Int):Int:=if op=1∨op=2 then 1099511627776 else if op=3 then 1439 else 0
def fX(op num:Int)(name:List Nat)(n:Nat):Bool:=
 decide (1≤op)&&(decide (op≤22)&&(bm op n&&(decide (0≤num∧num≤iA op)&&(if op=6 then iY name else decide (name= [])))))
mutual
def Ex.wf:Ex→Bool
 | .mk op num name args=>fX op num name args.length&&gT args
def gT:List Ex→Bool
 | []=>true
 |x::xs=>x.wf&&gT xs
end
theorem Ex.wf_eq(x:Ex):x.wf=(fX x.op x.num x.name x.args.length&&gT x.args):=by obtain⟨_,_,_,_⟩:=x;rw[Ex.wf];rfl
theorem jg: ∀{xs:List Ex},gT xs=true↔ ∀x∈xs,x.wf=true
 | []=>by simp[gT]
 |x::xs=>by rw[gT,Bool.and_eq_true,jg (xs:=xs)];simp
def vD(x:Ex):Prop:=200<x.nodes∨16<x.depth
instance (x:Ex):Decidable (vD x):=by unfold vD;infer_instance
def aW(x:Ex):Int:=if vD x then 10 else if x.wf then 0 else 1
def cY(ts:List Int)(k:Int):Bool:=ts.all fun t=>decide (t=k)
def fm(op a b:Int):Int:=
 if a=1∧b=1 then 1 else if a=2∧b=1 then 2 else if op=10∧a=1∧b=2 then 2 else if op=11∧a=2∧b=2 then 1 else 0
def a0(ts:List Int):Int:=ts.getD 0 0
def a1(ts:List Int):Int:=ts.getD 1 0
def a2(ts:List Int):Int:=ts.getD 2 0
def dJ(op:Int)(ts:List Int):Int:=
 if op=1 then 1 else if op=2 then 2 else if op=3 then 3 else if op=4 then 4 else if op=5 then 4
 else if op=7∨op=8∨op=9∨op=12∨op=13 then(if cY ts 1 then 1 else if cY ts 2 then 2 else 0)
 else if op=10∨op=11 then fm op (a0 ts) (a1 ts)
 else if op=14 then(if a0 ts=4∧a1 ts=a2 ts then a1 ts else 0)
 else if op=15 then(if cY ts 3 then 4 else 0)
 else if op=16∨op=17 then(if(a0 ts=1∨a0 ts=2)∧a0 ts=a1 ts then 4 else 0)
 else if op=18 then(if a0 ts=a1 ts then 4 else 0)
 else(if cY ts 4 then 4 else 0)
mutual
def Ex.ty(cl:List Nat→Int×Int)(scope:Int):Ex→Int×Int
 | .mk op _ name args=>
   if op=6 then(if dI scope name≠0 then(dI scope name,0)else cl name)
   else match gS cl scope args with
    | .error e=>(0,e)
    | .ok ts=>if dJ op ts=0 then(0,9)else(dJ op ts,0)
def gS(cl:List Nat→Int×Int)(scope:Int):List Ex→Except Int (List Int)
 | []=> .ok []
 |x::xs=>if(x.ty cl scope).2≠0 then .error (x.ty cl scope).2 else match gS cl scope xs with
  | .error e=> .error e
  | .ok ts=> .ok ((x.ty cl scope).1::ts)
end
theorem Ex.ty_eq(cl:List Nat→Int×Int)(scope:Int)(x:Ex):x.ty cl scope=
  if x.op=6 then(if dI scope x.name≠0 then(dI scope x.name,0)else cl x.name)
  else match gS cl scope x.args with
   | .error e=>(0,e)
   | .ok ts=>if dJ x.op ts=0 then(0,9)else(dJ x.op ts,0):=by obtain⟨_,_,_,_⟩:=x;rw[Ex.ty];rfl
abbrev Cs:=List (List Nat×Ex)
def de:Cs→List Nat→Option Nat
 | [],_=>none
 |c::cs,s=>if c.1=s then some 0 else(de cs s).map (· +1)
def rZ(l:Cs)(oh:List (Int×Int))(s:List Nat):Int×Int:=match de l s with
 |none=>(0,6)
 |some i=>oh.getD i (0,6)
def nI(l:Cs)(oh:List (Int×Int))(x:Ex):Int×Int:=if aW x≠0 then(0,aW x)else x.ty (rZ l oh) 0
def dv(l:Cs):Nat→List (Int×Int)
 |0=> []
 |n+1=>dv l n++ [nI (l.take n) (dv l n) (l.getD n ([],.mk 0 0 [] [])).2]
def cV(l:Cs)(scope:Int)(x:Ex):Int×Int:=if aW x≠0 then(0,aW x)else x.ty (rZ l (dv l l.length)) scope
def isLit(x:Ex):Bool:=match x with
 | .mk op _ _ args=>decide (op=1∨op=2∨op=3∨op=4∨op=5)||(decide (op=7)&&(match args with|y::_=>decide (y.op=1∨y.op=2)| []=>false))
def kZ(x:Ex):Int:=match x with
 | .mk op num _ args=>if op=4 then 1 else if op=5 then 0 else if op=7 then(match args with|y::_=> -y.num| []=>0)else num
def bN(op num:Int):Ex:= .mk op num [] []
def fo(k n:Int):Ex:=
 if k=4 then(if n=0 then bN 5 0 else bN 4 0)else if k=3 then bN 3 n
 else if n<0 then .mk 7 0 [] [bN (if k=2 then 2 else 1) (-n)]else bN (if k=2 then 2 else 1) n
def aV(n:Int):Int:=max (-1099511627776) (min 1099511627776 n)
def Dz(a b:Int):Int:=if b=0 then 0 else aV (Int.fdiv a b)
def tb(c f t:Int):Bool:=if f≤t then decide (f≤c∧c<t)else decide (f≤c∨c<t)
def ov(b:Bool):Int:=if b then 1 else 0
def Un:Int→List Int→Int
 |m,[]=>m
 |m,v::vs=>Un (min m v) vs
def Uo:Int→List Int→Int
 |m,[]=>m
 |m,v::vs=>Uo (max m v) vs
def ry(op:Int)(vs:List Int):Int:=
 if op=7 then-a0 vs else if op=8 then aV (a0 vs+a1 vs)else if op=9 then aV (a0 vs-a1 vs)else if op=10 then aV (a0 vs*a1 vs)
 else if op=11 then Dz (a0 vs) (a1 vs)else if op=12 then Un (a0 vs) vs.tail else if op=13 then Uo (a0 vs) vs.tail
 else if op=14 then(if a0 vs=0 then a2 vs else a1 vs)else if op=15 then ov (tb (a0 vs) (a1 vs) (a2 vs))
 else if op=16 then ov (decide (a0 vs<a1 vs))else if op=17 then ov (decide (a0 vs≤a1 vs))else if op=18 then ov (decide (a0 vs=a1 vs))
 else if op=19 then 1-a0 vs else if op=20 then min (a0 vs) (a1 vs)else if op=21 then max (a0 vs) (a1 vs)else max (1-a0 vs) (a1 vs)
def gn(x:Ex):Bool:=decide (x.op=1∨x.op=2)&&decide (x.num=0)
def og(x:Ex):Bool:=decide (x.op=1)&&decide (x.num=1)
def pg(op:Int)(ys:List Ex):Ex:=
 match ys with
 | [a]=>if op=19∧a.op=19 then a.args.headD (bN 0 0)else .mk op 0 [] ys
 | [a,b]=>
   if op=20 then(if a.op=5∨b.op=5 then bN 5 0 else if a.op=4 then b else if b.op=4 then a else .mk op 0 [] ys)
   else if op=21 then(if a.op=4∨b.op=4 then bN 4 0 else if a.op=5 then b else if b.op=5 then a else .mk op 0 [] ys)
   else if op=22 then(if a.op=5∨b.op=4 then bN 4 0 else if a.op=4 then b else if b.op=5 then(if a.op=19 then a.args.headD (bN 0 0)else .mk 19 0 [] [a])else .mk op 0 [] ys)
   else if op=8 then(if gn b then a else if gn a then b else .mk op 0 [] ys)
   else if op=9 then(if gn b then a else .mk op 0 [] ys)
   else if op=10 then(if og b then a else if og a then b else .mk op 0 [] ys)
   else if op=11 then(if og b then a else .mk op 0 [] ys)
   else .mk op 0 [] ys
 | [a,b,c]=>if op=14 then(if a.op=4 then b else if a.op=5 then c else .mk op 0 [] ys)else .mk op 0 [] ys
 |_=> .mk op 0 [] ys
mutual
def Ex.fold(cl:List Nat→Int×Int)(cx:List Nat→Ex)(scope:Int):Ex→Ex
 | .mk op num name args=>
   if op=6 then(if dI scope name≠0 then .mk op num name args else cx name)
   else if args.isEmpty then .mk op num name args
   else if(dM cl cx scope args).all isLit then fo ((Ex.mk op num name args).ty cl scope).1 (ry op ((dM cl cx scope args).map kZ))
   else pg op (dM cl cx scope args)
def dM(cl:List Nat→Int×Int)(cx:List Nat→Ex)(scope:Int):List Ex→List Ex
 | []=> []
 |x::xs=>x.fold cl cx scope::dM cl cx scope xs
end
end Go.Proofs.YtfenhjpkomldcaaGreat
namespace Go.Proofs.YtfenhjpkomldcaaGreat
open Go Go.Ev
theorem kU{k:Nat}(h:k≤1000000):wr .i64 ((k:Int)+1)=((k+1:Nat):Int):=qS (Nat.lt_of_le_of_lt h (by decide))
theorem Pl{a b:Nat}(ha:a≤1000000)(hb:b≤1000000):wr .i64 ((a:Int)+b)=((a+b:Nat):Int):=by
 rw[nX (by omega)];omega
def eG:Nat:=1000000
theorem cm{k:Nat}(h:k≤100000):k≤eG:=Nat.le_trans h (by decide)
theorem aJ{k:Nat}(h:k≤eG):wr .i64 ((k:Int)+1)=((k+1:Nat):Int):=kU h
def j3:Nat:=1125899906842624
theorem jw{k:Nat}(h:k≤j3):wr .i64 ((k:Int)+1)=((k+1:Nat):Int):=qS (Nat.lt_of_le_of_lt h (by decide))
def vJ(n:Nat):List aB:= [⟨1,.cells [.i .i64 (n:Int)] 0 true⟩]
def cW(n level:Nat)(x:Ex):Prop:=n+x.nodes≤200∧level+x.depth≤17
def bF(n level:Nat)(xs:List Ex):Prop:=n+a6 xs≤200∧level+fC xs≤17
instance (n level:Nat) (x:Ex):Decidable (cW n level x):=by unfold cW;infer_instance
instance (n level:Nat) (x:List Ex):Decidable (bF n level x):=by unfold bF;infer_instance
theorem mD{xs:List Ex}{k:Nat}(hk:k<xs.length):xs.drop k=xs[k]::xs.drop (k+1):=List.drop_eq_getElem_cons hk
def YX(level n:Nat)(a:T)(xs:List Ex)(k:Nat)(st:St):Prop:=
 ∃fr lh m,st=⟨fr,lh,vJ m⟩∧ak fr 1= .i .i64 (level:Int)∧ak fr 2= .ptr .S 0 1 0∧ak fr 23=a∧ak fr 24= .i .i64 (xs.length:Int)∧ak fr 25= .i .i64 (k:Int)∧
  k≤m∧m≤200∧(bF m (level+1) (xs.drop k)↔bF n (level+1) xs)∧(bF n (level+1) xs→m+a6 (xs.drop k)=n+a6 xs)
def RJ(y:Ex):Prop:= ∀(level n:Nat) (cs:List T),bE y cs→n≤200→level≤17→ ∃n':Nat,ai pE 101 [.agg cs,.i .i64 (level:Int),.ptr .S 0 1 0] (vJ n)=some (.b (decide (cW n level y)),vJ n')∧(cW n level y→n'=n+y.nodes)
theorem YY(xs:List Ex)(ih: ∀y∈xs,RJ y)(a:T)(cc:List T)(ha:aR a xs.length cc)(hx:aK xs cc)(level n:Nat)(hl:level≤16)(hn:n≤200)(o:Out)(ho:o=if bF n (level+1) xs then .ext 0 else .ret)(fr:Fr)(lh:aQ aB)(sh:List aB)(fi:sh=vJ n)
  (h1:ak fr 1= .i .i64 (level:Int)) (h2:ak fr 2= .ptr .S 0 1 0) (Vh:ak fr 23=a) (Uq:ak fr 24= .i .i64 (xs.length:Int)) (Vi:ak fr 25= .i .i64 0):
  DC pE 36 (.loop gW) ⟨fr,lh,sh⟩=some (o,⟨cz pE 36 gW fr lh sh,bK pE 36 gW fr lh sh,cw pE 36 gW fr lh sh⟩)∧
  ((bF n (level+1) xs→cw pE 36 gW fr lh sh=vJ (n+a6 xs))∧(¬bF n (level+1) xs→ak (cz pE 36 gW fr lh sh) 6= .b false∧ ∃m,cw pE 36 gW fr lh sh=vJ m)):=by
 refine aD (P:=fun fr lh sh=>(bF n (level+1) xs→sh=vJ (n+a6 xs))∧(¬bF n (level+1) xs→ak fr 6= .b false∧ ∃m,sh=vJ m)) (aI (YX level n a xs) _ xs.length ?_ ?_ 0 _ (Nat.zero_le _) ⟨fr,lh,n,by rw[fi],h1,h2,Vh,Uq,Vi,Nat.zero_le _,hn,Iff.rfl,fun _=>rfl⟩)
 ·rintro k _ hk ⟨fr,lh,m,rfl,h1,h2,Vh,Uq,Vi,hkm,hm,he,hs⟩
  have bt:(k:Int)<xs.length:=by omega
  have SM:=xs[k].nodes_eq
  have hw:=kU (k:=k) (by omega)
  have tw:=kU (k:=level) (by omega)
  obtain⟨b,cb,r,bh,cH,nA,hb⟩:=dm ha hx k hk
  obtain⟨m',az,Mo⟩:=ih xs[k] (List.getElem_mem hk) (level+1) m _ hb hm (by omega)
  rw[mD hk]at he hs
  simp only[bF,a6,fC]at he hs
  by_cases hf:cW m (level+1) xs[k]
  ·left
   rw[decide_eq_true hf]at az
   simp only[qF,ae,ah,aa,aj,ab,an,splice,Nat.reduceAdd,Nat.reduceLT,Nat.reduceLeDiff,Nat.reduceEqDiff,fW,gW,h1,h2,Vh,Uq,Vi,bt,bh,hw,tw,az,DR,cH.kept1]
   refine⟨_,rfl,_,_,m',rfl, ?_, ?_, ?_, ?_, ?_, ?_, ?_, ?_, ?_⟩
   all_goals first|(simp only[aa,ab,Nat.reduceEqDiff,h1,h2,Vh,Uq];done)|skip
   all_goals (rw[Mo hf];unfold cW at hf;first|omega|(simp only[bF];omega)|(intro hc;have:=hs (by simpa only[bF]using hc);omega))
  ·right
   rw[decide_eq_false hf]at az
   simp only[qF,ae,ah,aa,aj,ab,an,splice,Nat.reduceAdd,Nat.reduceLT,Nat.reduceLeDiff,Nat.reduceEqDiff,fW,gW,h1,h2,Vh,Uq,Vi,bt,bh,tw,az,DR,cH.kept1]
   have fh: ¬bF n (level+1) xs:=by unfold cW at hf;unfold bF;omega
   refine⟨_,_,(by simp:Out.ret≠ .nrm),rfl, ?_,fun hc=>absurd hc fh,fun _=>⟨by simp only[aa],m',rfl⟩⟩
   rw[ho,if_neg fh]
 ·rintro _ ⟨fr,lh,m,rfl,h1,h2,Vh,Uq,Vi,hkm,hm,he,hs⟩
  rw[List.drop_length]at he hs
  have Ur:bF n (level+1) xs:=he.1 (by unfold bF;rw[a6,fC];omega)
  simp only[ae,ah,aa,ab,an,Nat.reduceLT,gW,Uq,Vi,Int.lt_irrefl]
  refine⟨_,_,(by simp:Out.ext 0≠ .nrm),rfl,by rw[ho,if_pos Ur],fun _=> ?_,fun hc=>absurd Ur hc⟩
  have:=hs Ur
  rw[a6,Nat.add_zero]at this
  rw[this]
theorem Pm(x:Ex):RJ x:=by
 induction x using Ex.ind with
 |h x ih=>
  intro level n cs hx hn hl
  obtain⟨a,cc,rfl,ha,mH⟩:=hx.cells
  rw[aG PI (by simp[zW])]
  have hw:=kU (k:=n) (by omega)
  have nO:=x.nodes_eq
  have hdp:=x.depth_eq
  unfold vJ
  by_cases h1:(200:Int)<((n+1:Nat):Int)
  ·have hf: ¬cW n level x:=by unfold cW;omega
   rw[decide_eq_false hf]
   simp only[qF,ae,ah,aa,aj,ab,an,splice,Nat.reduceAdd,reduceCtorEq,Nat.reduceLT,Nat.reduceEqDiff,yM,zW,hw,h1]
   exact⟨n+1,rfl,fun h=>absurd h hf⟩
  ·by_cases h2:(16:Int)<(level:Int)
   ·have hf: ¬cW n level x:=by unfold cW;omega
    rw[decide_eq_false hf]
    simp only[qF,ae,ah,aa,aj,ab,an,splice,Nat.reduceAdd,reduceCtorEq,Nat.reduceLT,Nat.reduceEqDiff,yM,zW,hw,h1,h2]
    exact⟨n+1,rfl,fun h=>absurd h hf⟩
   ·have ow:cW n level x↔bF (n+1) (level+1) x.args:=by unfold cW bF;omega
    have hL:=fun fr lh sh fi=>YY x.args ih a cc ha mH level (n+1) (by omega) (by omega) _ rfl fr lh sh fi
    unfold vJ at hL
    by_cases hf:bF (n+1) (level+1) x.args
    ·rw[decide_eq_true (ow.2 hf)]
     simp only[hf,if_true,forall_const,not_true_eq_false,false_implies,and_true]at hL
     simp only[qF,ae,ah,aa,aj,ab,an,splice,Nat.reduceAdd,reduceCtorEq,Nat.reduceLT,Nat.reduceEqDiff,yM,zW,hw,h1,h2,ha.lenI,hL]
     exact⟨n+1+a6 x.args,rfl,fun _=>by omega⟩
    ·rw[decide_eq_false (fun h=>hf (ow.1 h))]
     simp only[hf,if_false,forall_const,not_false_eq_true,false_implies,true_and]at hL
     have hL2:=fun fr lh sh fi h1 h2 h3 h4 h5=>(hL fr lh sh fi h1 h2 h3 h4 h5).2.2
     have OT:=fun fr lh sh fi h1 h2 h3 h4 h5=>And.intro (hL fr lh sh fi h1 h2 h3 h4 h5).1 (hL fr lh sh fi h1 h2 h3 h4 h5).2.1
     simp only[qF,ae,ah,aa,aj,ab,an,splice,Nat.reduceAdd,reduceCtorEq,Nat.reduceLT,Nat.reduceEqDiff,yM,zW,hw,h1,h2,ha.lenI,OT]
     generalize hX:cw _ _ _ _ _ _=X
     obtain⟨m,hm⟩: ∃m:Nat,X= [⟨1,.cells [.i .i64 (m:Int)] 0 true⟩]:=by
      rw[←hX]
      refine hL2 _ _ _ rfl ?_ ?_ ?_ ?_ ?_ <;> simp only[aa,ab,reduceCtorEq,Nat.reduceEqDiff]
     rw[hm]
     exact⟨m,rfl,fun h=>absurd (ow.1 h) hf⟩
end Go.Proofs.YtfenhjpkomldcaaGreat
namespace Go.Proofs.YtfenhjpkomldcaaGreat
open Go Go.Ev
mutual
def Ex.sz:Ex→Nat→Nat×Nat
 | .mk _ _ _ args,level=>if 16<level then(1,1)else tR args level (1,1)
def tR:List Ex→Nat→Nat×Nat→Nat×Nat
 | [],_,p=>p
 |x::xs,level,p=>if p.1≤200 then tR xs level (p.1+(x.sz (level+1)).1,max p.2 ((x.sz (level+1)).2+1))else p
end
theorem Ex.sz_eq(x:Ex)(level:Nat):x.sz level=if 16<level then(1,1)else tR x.args level (1,1):=by obtain⟨_,_,_,_⟩:=x;rw[Ex.sz];rfl
theorem Us{xs:List Ex}{level:Nat}(ih: ∀y∈xs,(y.sz (level+1)).1≤1+200*(17-(level+1))∧(y.sz (level+1)).2≤18-(level+1))(hl:level≤16): ∀p:Nat×Nat,p.1≤1+200*(17-level)→p.2≤18-level→(tR xs level p).1≤1+200*(17-level)∧(tR xs level p).2≤18-level:=by
 induction xs with
 |nil=>intro p h1 h2;rw[tR];exact⟨h1,h2⟩
 |cons y ys Tb=>
  intro p h1 h2
  rw[tR]
  have h3:=ih y (by simp)
  split
  ·refine Tb (fun z hz=>ih z (by simp[hz])) _ ?_ ?_ <;> simp only <;> omega
  ·exact⟨h1,h2⟩
theorem YZ(x:Ex): ∀level,level≤17→(x.sz level).1≤1+200*(17-level)∧(x.sz level).2≤18-level:=by
 induction x using Ex.ind with
 |h x ih=>
  intro level hl
  rw[Ex.sz_eq]
  split
  ·simp only;omega
  ·exact Us (fun y hy=>ih y hy (level+1) (by omega)) (by omega) _ (by simp only;omega) (by simp only;omega)
theorem Lp(x:Ex){level:Nat}(h:level≤17):(x.sz level).1≤4000∧(x.sz level).2≤18:=by
 have:=YZ x level h
 generalize x.sz level=q at*
 have h1:17-level≤17:=by omega
 generalize 17-level=r at*
 constructor <;> omega
theorem vK: ∀(xs:List Ex) (level:Nat) (p:Nat×Nat),p.1≤(tR xs level p).1∧p.2≤(tR xs level p).2
 | [],level,p=>by rw[tR];simp
 |x::xs,level,p=>by
  rw[tR]
  split
  ·have:=vK xs level (p.1+(x.sz (level+1)).1,max p.2 ((x.sz (level+1)).2+1))
   simp only at this;omega
  ·simp
def Y0(x:Ex):Prop:= ∀level,level≤17→if cW 0 level x then x.sz level=(x.nodes,x.depth)else 200<(x.sz level).1∨17<level+(x.sz level).2
theorem Ut{xs:List Ex}{level:Nat}(ih: ∀y∈xs,Y0 y)(hl:level≤16): ∀p:Nat×Nat,1≤p.2→p.1≤200→
  if bF p.1 (level+1) xs then tR xs level p=(p.1+a6 xs,max p.2 (fC xs+1))else 200<(tR xs level p).1∨17<level+(tR xs level p).2:=by
 induction xs with
 |nil=>
  intro p h1 h2
  have:bF p.1 (level+1) []:=by unfold bF;rw[a6,fC];omega
  rw[if_pos this,tR,a6,fC,Nat.max_eq_left (by omega)];rfl
 |cons y ys Tb=>
  intro p h1 h2
  have hy:=ih y (by simp) (level+1) (by omega)
  have pB:=Tb fun z hz=>ih z (by simp[hz])
  have nO:1≤y.nodes:=by rw[y.nodes_eq];omega
  have Lq:=vK ys level (p.1+(y.sz (level+1)).1,max p.2 ((y.sz (level+1)).2+1))
  rw[tR,if_pos h2]
  by_cases hf:cW 0 (level+1) y
  ·rw[if_pos hf]at hy
   rw[hy]at Lq ⊢
   simp only at Lq ⊢
   by_cases h3:p.1+y.nodes≤200
   ·have:=pB (p.1+y.nodes,max p.2 (y.depth+1)) (by simp only;omega) h3
    simp only at this
    by_cases h4:bF (p.1+y.nodes) (level+1) ys
    ·rw[if_pos h4]at this
     have h5:bF p.1 (level+1) (y::ys):=by unfold bF at h4 ⊢; unfold cW at hf;rw[a6,fC];omega
     rw[if_pos h5,this,a6,fC]
     refine Prod.ext ?_ ?_ <;> simp only <;> omega
    ·rw[if_neg h4]at this
     have h5: ¬bF p.1 (level+1) (y::ys):=by unfold bF at h4 ⊢; unfold cW at hf;rw[a6,fC];omega
     rw[if_neg h5];exact this
   ·have h5: ¬bF p.1 (level+1) (y::ys):=by unfold bF;rw[a6,fC];omega
    rw[if_neg h5];omega
  ·rw[if_neg hf]at hy
   have h5: ¬bF p.1 (level+1) (y::ys):=by unfold bF;unfold cW at hf;rw[a6,fC];omega
   rw[if_neg h5]
   simp only at Lq;omega
theorem Y1(x:Ex):Y0 x:=by
 induction x using Ex.ind with
 |h x ih=>
  intro level hl
  have nO:=x.nodes_eq
  have hdp:=x.depth_eq
  rw[Ex.sz_eq]
  by_cases h:16<level
  ·have h5: ¬cW 0 level x:=by unfold cW;omega
   rw[if_neg h5,if_pos h];simp only;omega
  ·rw[if_neg h]
   have:=Ut ih (level:=level) (by omega) (1,1) (by simp) (by simp)
   simp only at this
   by_cases h4:bF 1 (level+1) x.args
   ·rw[if_pos h4]at this
    have h5:cW 0 level x:=by unfold bF at h4;unfold cW;omega
    rw[if_pos h5,this]
    refine Prod.ext ?_ ?_ <;> simp only <;> omega
   ·rw[if_neg h4]at this
    have h5: ¬cW 0 level x:=by unfold bF at h4;unfold cW;omega
    rw[if_neg h5];exact this
theorem Uu(x:Ex):(200<(x.sz 1).1∨16<(x.sz 1).2)↔vD x:=by
 have:=Y1 x 1 (by omega)
 by_cases h:cW 0 1 x
 ·rw[if_pos h]at this
  rw[this];unfold vD;simp only
 ·rw[if_neg h]at this
  unfold vD;unfold cW at h;omega
def szP(y:Ex):Prop:= ∀(level:Nat) (cs:List T),bE y cs→level≤17→ai pE 166 [.agg cs,.i .i64 (level:Int)] []=some (.tup [.i .i64 ((y.sz level).1:Int),.i .i64 ((y.sz level).2:Int)],[])
theorem Y2(xs:List Ex)(ih: ∀y∈xs,szP y)(a:T)(cc:List T)(ha:aR a xs.length cc)(hx:aK xs cc)(level:Nat)(hl:level≤16)(op num:Int)(s:List Nat)(g:Nat)(fr:Fr)(lh:aQ aB)(sh:List aB)
  (h1:ak fr 1= .i .i64 (level:Int)) (h2:ak fr 2= .ptr .L 2 g 0) (h6:ak fr 6= .i .i64 1) (h7:ak fr 7= .i .i64 1) (h8:ak fr 8= .i .i64 0) (o2:aq lh 2=⟨g,.cells [.i .i64 op,.i .i64 num,.s s,a] 0 true⟩):
  DC pE 44 (.loop fI) ⟨fr,lh,sh⟩=some (.ext 0,⟨cz pE 44 fI fr lh sh,bK pE 44 fI fr lh sh,cw pE 44 fI fr lh sh⟩)∧
  (ak (cz pE 44 fI fr lh sh) 6= .i .i64 ((tR xs level (1,1)).1:Int)∧ak (cz pE 44 fI fr lh sh) 7= .i .i64 ((tR xs level (1,1)).2:Int)∧bK pE 44 fI fr lh sh=lh∧cw pE 44 fI fr lh sh=sh):=by
 refine aD (P:=fun fr bp br=>ak fr 6= .i .i64 ((tR xs level (1,1)).1:Int)∧ak fr 7= .i .i64 ((tR xs level (1,1)).2:Int)∧bp=lh∧br=sh) (aI (fun k st=> ∃(fr:Fr) (p:Nat×Nat),st=⟨fr,lh,sh⟩∧ak fr 1= .i .i64 (level:Int)∧ak fr 2= .ptr .L 2 g 0∧ak fr 6= .i .i64 (p.1:Int)∧ak fr 7= .i .i64 (p.2:Int)∧ak fr 8= .i .i64 (k:Int)∧
   tR (xs.drop k) level p=tR xs level (1,1)∧k≤p.1∧p.2≤19∧p.1≤4300) _ xs.length ?_ ?_ 0 _ (Nat.zero_le _) ⟨fr,(1,1),rfl,h1,h2,h6,h7,h8,rfl,by simp,by simp,by simp⟩)
 ·rintro k _ hk ⟨fr,p,rfl,h1,h2,h6,h7,h8,he,hp,hp2,hp1⟩
  have bt:(k:Int)<xs.length:=by omega
  obtain⟨b,cb,r,bh,cH,nA,hb⟩:=dm ha hx k hk
  have az:=ih xs[k] (List.getElem_mem hk) (level+1) _ hb (by omega)
  have jP:=Lp xs[k] (level:=level+1) (by omega)
  have I0:1≤(xs[k].sz (level+1)).1:=by
   rw[Ex.sz_eq];split
   ·simp
   ·exact(vK xs[k].args (level+1) (1,1)).1
  rw[mD hk,tR]at he
  generalize xs[k].sz (level+1)=q at az jP I0 he
  obtain⟨kF,nz⟩:=jP
  by_cases hf:p.1≤200
  ·left
   have Pn:(p.1:Int)≤200:=by omega
   have hw:=kU (k:=k) (Nat.le_trans hp (Nat.le_trans hf (by decide)))
   have tw:=kU (k:=level) (Nat.le_trans hl (by decide))
   have hw3:=kU (k:=q.2) (Nat.le_trans nz (by decide))
   have hw4:=Pl (a:=p.1) (b:=q.1) (Nat.le_trans hf (by decide)) (Nat.le_trans kF (by decide))
   rw[if_pos hf]at he
   by_cases SK:(p.2:Int)<((q.2+1:Nat):Int)
   ·have ahZ:(p.2:Int)<((q.2+1:Nat):Int):=SK
    simp only[qF,ae,ah,aa,aj,ab,pL,bM,Nat.reduceLT,Nat.reduceLeDiff,Nat.reduceEqDiff,fI,h1,h2,h6,h7,h8,o2,bt,ha.lenI,Pn,bh,hw,tw,hw3,hw4,az,IL,cH.froz1,SK]
    refine⟨_,rfl,_,(p.1+q.1,q.2+1),rfl, ?_, ?_, ?_, ?_, ?_, ?_, ?_, ?_, ?_⟩
    all_goals first|(simp only[aa,ab,Nat.reduceLeDiff,Nat.reduceEqDiff,h1,h2];done)|skip
    ·rw[Nat.max_eq_right (by omega)]at he;exact he
    all_goals (simp only;omega)
   ·simp only[qF,ae,ah,aa,aj,ab,pL,bM,Nat.reduceLT,Nat.reduceLeDiff,Nat.reduceEqDiff,fI,h1,h2,h6,h7,h8,o2,bt,ha.lenI,Pn,bh,hw,tw,hw3,hw4,az,IL,cH.froz1,SK]
    refine⟨_,rfl,_,(p.1+q.1,p.2),rfl, ?_, ?_, ?_, ?_, ?_, ?_, ?_, ?_, ?_⟩
    all_goals first|(simp only[aa,ab,Nat.reduceEqDiff,h1,h2];done)|skip
    ·rw[Nat.max_eq_left (by omega)]at he;exact he
    all_goals (simp only;omega)
  ·right
   have Pn: ¬(p.1:Int)≤200:=by omega
   rw[if_neg hf]at he
   simp only[ae,ah,aa,aj,ab,an,Nat.reduceLT,Nat.reduceEqDiff,fI,h2,h6,h8,o2,bt,ha.lenI,Pn]
   exact⟨_,_,(by simp:Out.ext 0≠ .nrm),rfl,rfl,by simp only[aa,ab,Nat.reduceEqDiff,h6,←he],by simp only[aa,ab,Nat.reduceEqDiff,h7,←he],rfl,rfl⟩
 ·rintro _ ⟨fr,p,rfl,h1,h2,h6,h7,h8,he,hp,hp2,hp1⟩
  rw[List.drop_length,tR]at he
  simp only[ae,ah,aa,aj,ab,an,Nat.reduceLT,Nat.reduceEqDiff,fI,h2,h8,o2,ha.lenI,Int.lt_irrefl]
  exact⟨_,_,(by simp:Out.ext 0≠ .nrm),rfl,rfl,by simp only[aa,ab,Nat.reduceEqDiff,h6,←he],by simp only[aa,ab,Nat.reduceEqDiff,h7,←he],rfl,rfl⟩
end Go.Proofs.YtfenhjpkomldcaaGreat
namespace Go.Proofs.YtfenhjpkomldcaaGreat
open Go Go.Ev
theorem Po(x:Ex):szP x:=by
 induction x using Ex.ind with
 |h x ih=>
  intro level cs hx hl
  obtain⟨a,cc,rfl,ha,mH⟩:=hx.cells
  rw[aG Qp (by simp[Fu]),Ex.sz_eq]
  by_cases h2:(16:Int)<(level:Int)
  ·have h3:16<level:=by omega
   simp only[qF,ae,ah,aa,aj,ab,reduceCtorEq,Nat.reduceLT,Nat.reduceEqDiff,Fu,h2,h3]
  ·have h3: ¬16<level:=by omega
   have hL:=fun g fr lh sh=>Y2 x.args ih a cc ha mH level (by omega) x.op x.num x.name g fr lh sh
   simp only[qF,ae,ah,aa,aj,ab,an,reduceCtorEq,Nat.reduceLT,Nat.reduceEqDiff,Fu,h2,h3,hL 1]
theorem Pp(x:Ex)(cs:List T)(hx:bE x cs):ai pE 111 [.agg cs] []=some (.tup [.i .i64 ((x.sz 1).1:Int),.i .i64 ((x.sz 1).2:Int)],[]):=by
 have h:=Po x 1 cs hx (by omega)
 obtain⟨a,cc,rfl,ha,mH⟩:=hx.cells
 rw[aG PQ (by simp[HO])]
 simp only[qF,ae,ah,aa,aj,ab,an,Nat.reduceAdd,Nat.reduceLT,Nat.reduceEqDiff,HO,IL,ha.froz1]at h ⊢
 simp only[qF,ae,ah,aa,aj,ab,Nat.reduceLT,Nat.reduceEqDiff,h]
theorem eP{op:Int}(h1:1≤op)(h2:op≤22):op=1∨op=2∨op=3∨op=4∨op=5∨op=6∨op=7∨op=8∨op=9∨op=10∨op=11∨op=12∨op=13∨op=14∨op=15∨op=16∨op=17∨op=18∨op=19∨op=20∨op=21∨op=22:=by omega
theorem DA(op:Int)(n:Nat)(h1:1≤op)(h2:op≤22):ai pE 155 [.i .i64 op,.i .i64 (n:Int)] []=some (.b (bm op n),[]):=by
 have e0:decide ((n:Int)=0)=decide (n=0):=by rw[decide_eq_decide];omega
 have e1:decide ((n:Int)=1)=decide (n=1):=by rw[decide_eq_decide];omega
 have e2:decide ((n:Int)=2)=decide (n=2):=by rw[decide_eq_decide];omega
 have e3:decide ((n:Int)=3)=decide (n=3):=by rw[decide_eq_decide];omega
 have e4:decide ((2:Int)≤n)=decide (2≤n):=by rw[decide_eq_decide];omega
 rw[aG Qi (by simp[HZ])]
 rcases eP h1 h2 with rfl|rfl|rfl|rfl|rfl|rfl|rfl|rfl|rfl|rfl|rfl|rfl|rfl|rfl|rfl|rfl|rfl|rfl|rfl|rfl|rfl|rfl <;>
  simp only[qF,ae,ah,aa,aj,ab,an,reduceCtorEq,Nat.reduceLT,Nat.reduceEqDiff,Int.reduceLE,Int.reduceEq,HZ,bm,e0,e1,e2,e3,e4,or_true,or_false,or_self]
def Hj(op:Int):Int:=if op≤6 then 0 else if op=7∨op=19 then 1 else if op=12∨op=13 then 2 else if op=14∨op=15 then 3 else 2
def DB(op:Int):Int:=if op≤6 then 0 else if op=7∨op=19 then 1 else if op=12∨op=13 then 200 else if op=14∨op=15 then 3 else 2
theorem Lr(op:Int)(h1:1≤op)(h2:op≤22):ai pE 167 [.i .i64 op] []=some (.tup [.i .i64 (Hj op),.i .i64 (DB op)],[]):=by
 rw[aG Qq (by simp[H6])]
 rcases eP h1 h2 with rfl|rfl|rfl|rfl|rfl|rfl|rfl|rfl|rfl|rfl|rfl|rfl|rfl|rfl|rfl|rfl|rfl|rfl|rfl|rfl|rfl|rfl <;>
  simp only[qF,ae,ah,aa,aj,ab,an,reduceCtorEq,Nat.reduceLT,Nat.reduceEqDiff,Int.reduceLE,Int.reduceEq,H6,Hj,DB,or_true,or_false,or_self]
theorem Uv(op:Int)(n:Nat)(h1:1≤op)(h2:op≤22)(hn:n≤200):bm op n=true↔ ¬(n:Int)<Hj op∧ ¬DB op<(n:Int):=by
 rcases eP h1 h2 with rfl|rfl|rfl|rfl|rfl|rfl|rfl|rfl|rfl|rfl|rfl|rfl|rfl|rfl|rfl|rfl|rfl|rfl|rfl|rfl|rfl|rfl <;>
  simp only[bm,Hj,DB,Int.reduceLE,Int.reduceEq,or_true,or_false,or_self,if_true,if_false,decide_eq_true_eq] <;> omega
theorem zg: ∀{s:List Nat} {i:Nat},iX s=some i→i<s.length
 | [],i,h=>by simp[iX]at h
 |c::cs,i,h=>by
  rw[iX]at h
  split at h
  ·simp at h;subst h;simp
  ·cases hd:iX cs with
   |none=>simp[hd]at h
   |some j=>
    simp[hd]at h
    have:=zg hd
    subst h;simpa using this
theorem sk{s:List Nat}: ∀(k:Nat),k≤s.length→(∀j (h:j<k) (hl:j<s.length),s[j]≠46)→iX s=(iX (s.drop k)).map (· +k)
 |0,_,_=>by simp
 |k+1,hk,h=>by
  have:=sk (s:=s) k (by omega) fun j hj hl=>h j (by omega) hl
  have eo:k<s.length:=by omega
  rw[this,List.drop_eq_getElem_cons eo,iX,if_neg (h k (by omega) eo)]
  cases iX (s.drop (k+1))with
  |none=>rfl
  |some i=>simp;omega
theorem Uw(s:List Nat)(hs:s.length≤j3)(o:Out)(ho:o=if iX s=none then .ext 0 else .ret)(fr:Fr)(lh:aQ aB)(sh:List aB)(h0:ak fr 0= .s s)(h1:ak fr 1= .i .u8 46)(h5:ak fr 5= .i .i64 0):
  DC pE 18 (.loop hJ) ⟨fr,lh,sh⟩=some (o,⟨cz pE 18 hJ fr lh sh,bK pE 18 hJ fr lh sh,cw pE 18 hJ fr lh sh⟩)∧
  ((∀i,iX s=some i→ak (cz pE 18 hJ fr lh sh) 4= .i .i64 (i:Int))∧bK pE 18 hJ fr lh sh=lh∧cw pE 18 hJ fr lh sh=sh):=by
 refine aD (P:=fun fr bp br=>(∀i,iX s=some i→ak fr 4= .i .i64 (i:Int))∧bp=lh∧br=sh) (aI (fun k st=> ∃fr:Fr,st=⟨fr,lh,sh⟩∧ak fr 0= .s s∧ak fr 1= .i .u8 46∧ak fr 5= .i .i64 (k:Int)∧k≤s.length∧ ∀j (h:j<k) (hl:j<s.length),s[j]≠46) _ s.length ?_ ?_ 0 _ (Nat.zero_le _) ⟨fr,rfl,h0,h1,h5,Nat.zero_le _,by simp⟩)
 ·rintro k _ hk ⟨fr,rfl,h0,h1,h5,lU,fh⟩
  have bt:(k:Int)<s.length:=by omega
  have hw:=jw (k:=k) (by omega)
  have hd:=sk k lU fh
  rw[List.drop_eq_getElem_cons hk,iX]at hd
  by_cases hc:s[k]=46
  ·right
   have GJ:(s[k]:Int)=46:=by omega
   rw[if_pos hc]at hd
   simp only[Option.map_some,Nat.zero_add]at hd
   simp only[ae,ah,aa,aj,ab,reduceCtorEq,Nat.reduceLT,Nat.reduceEqDiff,hJ,h0,h1,h5,bt,nY hk,GJ]
   refine⟨_,_,(by simp:Out.ret≠ .nrm),rfl,by rw[ho,hd];rfl,fun i hi=> ?_,rfl,rfl⟩
   rw[hd]at hi
   cases hi
   simp only[aa]
  ·left
   have GJ: ¬(s[k]:Int)=46:=by omega
   simp only[ae,ah,aa,aj,ab,an,reduceCtorEq,Nat.reduceLT,Nat.reduceEqDiff,hJ,h0,h1,h5,bt,nY hk,GJ,hw]
   refine⟨_,rfl,_,rfl, ?_, ?_, ?_,by omega, ?_⟩
   all_goals first|(simp only[aa,ab,reduceCtorEq,Nat.reduceEqDiff,h0,h1];done)|skip
   intro j hj hl
   by_cases e:j=k
   ·subst e;exact hc
   ·exact fh j (by omega) hl
 ·rintro _ ⟨fr,rfl,h0,h1,h5,lU,fh⟩
  have hd:=sk s.length lU fh
  rw[List.drop_length,iX]at hd
  simp only[ae,ah,aa,ab,an,reduceCtorEq,Nat.reduceLT,Nat.reduceEqDiff,hJ,h0,h5,Int.lt_irrefl]
  refine⟨_,_,(by simp:Out.ext 0≠ .nrm),rfl,by rw[ho,hd];rfl,fun i hi=> ?_,rfl,rfl⟩
  rw[hd]at hi;cases hi
def wF(s:List Nat):Int:=match iX s with|none=> -1|some i=>(i:Int)
theorem Ls(s:List Nat)(hs:s.length≤j3):ai pE 223 [.s s,.i .u8 46] []=some (.i .i64 (wF s),[]):=by
 have hL:=fun fr lh sh=>Uw s hs _ rfl fr lh sh
 rw[aG QR (by simp[FC])]
 unfold wF
 cases hd:iX s with
 |none=>
  simp only[hd,if_true,reduceCtorEq,false_implies,implies_true,true_and]at hL
  simp only[qF,ae,ah,aa,aj,ab,Int.reduceNeg,reduceCtorEq,Nat.reduceLT,Nat.reduceEqDiff,FC,hL]
 |some i=>
  simp only[hd,reduceCtorEq,if_false,Option.some.injEq,forall_eq']at hL
  simp only[qF,ae,ah,aa,aj,ab,Int.reduceNeg,reduceCtorEq,Nat.reduceLT,Nat.reduceEqDiff,FC,hL]
theorem xM{fr:Fr}{bs:List Nat}{x:bq}{k:IntKind}{j:Nat}(h:rd fr x= .i k (j:Int))(hj:j≤bs.length):mZ fr (.s bs) (some x) none=some (.s (bs.drop j)):=by
 unfold mZ bH
 have ht:List.take (bs.length-j) (bs.drop j)=bs.drop j:=List.take_of_length_le (by simp)
 simp[h,yE,hj,ht]
theorem E5{fr:Fr}{bs:List Nat}{x:bq}{k:IntKind}{j:Nat}(h:rd fr x= .i k (j:Int))(hj:j≤bs.length):mZ fr (.s bs) none (some x)=some (.s (bs.take j)):=by
 unfold mZ bH
 simp[h,yE,hj]
theorem tc{s:List Nat}{i:Nat}(h:iX s=some i):iY s=(gm (s.take i)&&gm (s.drop (i+1))):=by unfold iY;rw[h]
theorem td{s:List Nat}(h:iX s=none):iY s=eF s:=by unfold iY;rw[h]
theorem DD(s:List Nat)(hs:s.length≤j3):ai pE 168 [.s s] []=some (.b (iY s),[]):=by
 have hf:=Ls s hs
 unfold wF at hf
 rw[aG Qr (by simp[Fv])]
 cases hd:iX s with
 |none=>
  simp only[hd]at hf
  rw[td hd]
  simp(maxDischargeDepth:=6) only[qF,ae,ah,aa,aj,ab,Int.reduceNeg,reduceCtorEq,Nat.reduceLT,Int.reduceLT,Fv,hf,QS,mq,gf]
 |some i=>
  simp only[hd]at hf
  rw[tc hd]
  have hi:=zg hd
  have h0: ¬(i:Int)<0:=by omega
  have hw:=jw (k:=i) (by omega)
  have hle:i≤s.length:=by omega
  have wj:i+1≤s.length:=by omega
  generalize i+1=j at hw wj ⊢
  have wV:=fun fr x (h:rd fr x= .i .i64 (j:Int))=>xM h wj
  have B1:=fun fr x (h:rd fr x= .i .i64 (i:Int))=>E5 h hle
  cases hn:gm (s.take i) <;> simp(maxDischargeDepth:=6) only[qF,ae,ah,aa,aj,ab,an,reduceCtorEq,Nat.reduceLT,Nat.reduceEqDiff,Fv,hf,QS,Bb,QB,h0,hw,wV,B1,hn]
end Go.Proofs.YtfenhjpkomldcaaGreat
