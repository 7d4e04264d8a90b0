/- The language of expressions: form, types, values, simplified forms; plain definitions. The size of an expression, as the program and the reference count it. The form of an expression: both checks. The form of an expression: both checks. Conditions: the theorems' own. -/
import Derived.Test.YtfenhjpkomldcaaGreatM1
import Derived.KernelRfl
set_option maxRecDepth 100000
set_option linter.unusedSimpArgs false
set_option linter.unusedVariables false
set_option maxHeartbeats 16000000
namespace Go.Proofs.YtfenhjpkomldcaaGreat
open Go Go.Ev
def gA:List Nat→Option Nat
 | []=>none
 |c::cs=>if c=46 then some 0 else(gA cs).map (· +1)
def gB(s:List Nat):Bool:=match gA s with
 |none=>ph s
 |some i=>fm (s.take i)&&fm (s.drop (i+1))
def aW(op:Int)(n:Nat):Bool:=
 if op≤6 then decide (n=0)else if op=7∨op=19 then decide (n=1)else if op=12∨op=13 then decide (2≤n)
 else if op=14∨op=15 then decide (n=3)else decide (n=2)
def ga(op:Int):Int:=if op=1∨op=2 then 1099511627776 else if op=3 then 1439 else 0
def fe(op num:Int)(name:List Nat)(n:Nat):Bool:=
 decide (1≤op)&&(decide (op≤22)&&(aW op n&&(decide (0≤num∧num≤ga op)&&(if op=6 then gB name else decide (name= [])))))
mutual
def Ex.wf:Ex→Bool
 | .mk op num name args=>fe op num name args.length&&fG args
def fG:List Ex→Bool
 | []=>true
 |x::xs=>x.wf&&fG xs
end
theorem Ex.wf_eq(x:Ex):x.wf=(fe x.op x.num x.name x.args.length&&fG x.args):=by obtain⟨_,_,_,_⟩:=x;rw[Ex.wf];rfl
theorem gL: ∀{xs:List Ex},fG xs=true↔ ∀x∈xs,x.wf=true
 | []=>by simp[fG]
 |x::xs=>by rw[fG,Bool.and_eq_true,gL (xs:=xs)];simp
def sr(x:Ex):Prop:=200<x.nodes∨16<x.depth
instance (x:Ex):Decidable (sr x):=by unfold sr;infer_instance
def bF(x:Ex):Int:=if sr x then 10 else if x.wf then 0 else 1
def cI(ts:List Int)(k:Int):Bool:=ts.all fun t=>decide (t=k)
def eu(op a b:Int):Int:=
 if a=1∧b=1 then 1 else if a=2∧b=1 then 2 else if op=10∧a=1∧b=2 then 2 else if op=11∧a=2∧b=2 then 1 else 0
def a0(ts:List Int):Int:=ts.getD 0 0
def a1(ts:List Int):Int:=ts.getD 1 0
def a2(ts:List Int):Int:=ts.getD 2 0
def dk(op:Int)(ts:List Int):Int:=
 if op=1 then 1 else if op=2 then 2 else if op=3 then 3 else if op=4 then 4 else if op=5 then 4
 else if op=7∨op=8∨op=9∨op=12∨op=13 then(if cI ts 1 then 1 else if cI ts 2 then 2 else 0)
 else if op=10∨op=11 then eu op (a0 ts) (a1 ts)
 else if op=14 then(if a0 ts=4∧a1 ts=a2 ts then a1 ts else 0)
 else if op=15 then(if cI ts 3 then 4 else 0)
 else if op=16∨op=17 then(if(a0 ts=1∨a0 ts=2)∧a0 ts=a1 ts then 4 else 0)
 else if op=18 then(if a0 ts=a1 ts then 4 else 0)
 else(if cI ts 4 then 4 else 0)
mutual
def Ex.ty(cl:List Nat→Int×Int)(scope:Int):Ex→Int×Int
 | .mk op _ name args=>
   if op=6 then(if dE scope name≠0 then(dE scope name,0)else cl name)
   else match fE cl scope args with
    | .error e=>(0,e)
    | .ok ts=>if dk op ts=0 then(0,9)else(dk op ts,0)
def fE(cl:List Nat→Int×Int)(scope:Int):List Ex→Except Int (List Int)
 | []=> .ok []
 |x::xs=>if(x.ty cl scope).2≠0 then .error (x.ty cl scope).2 else match fE cl scope xs with
  | .error e=> .error e
  | .ok ts=> .ok ((x.ty cl scope).1::ts)
end
theorem Ex.ty_eq(cl:List Nat→Int×Int)(scope:Int)(x:Ex):x.ty cl scope=
  if x.op=6 then(if dE scope x.name≠0 then(dE scope x.name,0)else cl x.name)
  else match fE cl scope x.args with
   | .error e=>(0,e)
   | .ok ts=>if dk x.op ts=0 then(0,9)else(dk x.op ts,0):=by obtain⟨_,_,_,_⟩:=x;rw[Ex.ty];rfl
abbrev Cs:=List (List Nat×Ex)
def cN:Cs→List Nat→Option Nat
 | [],_=>none
 |c::cs,s=>if c.1=s then some 0 else(cN cs s).map (· +1)
def po(l:Cs)(lN:List (Int×Int))(s:List Nat):Int×Int:=match cN l s with
 |none=>(0,6)
 |some i=>lN.getD i (0,6)
def ll(l:Cs)(lN:List (Int×Int))(x:Ex):Int×Int:=if bF x≠0 then(0,bF x)else x.ty (po l lN) 0
def cX(l:Cs):Nat→List (Int×Int)
 |0=> []
 |n+1=>cX l n++ [ll (l.take n) (cX l n) (l.getD n ([],.mk 0 0 [] [])).2]
def dT(l:Cs)(scope:Int)(x:Ex):Int×Int:=if bF x≠0 then(0,bF x)else x.ty (po l (cX l l.length)) scope
def isLit(x:Ex):Bool:=match x with
 | .mk op _ _ args=>decide (op=1∨op=2∨op=3∨op=4∨op=5)||(decide (op=7)&&(match args with|y::_=>decide (y.op=1∨y.op=2)| []=>false))
def jo(x:Ex):Int:=match x with
 | .mk op num _ args=>if op=4 then 1 else if op=5 then 0 else if op=7 then(match args with|y::_=> -y.num| []=>0)else num
def bz(op num:Int):Ex:= .mk op num [] []
def ew(k n:Int):Ex:=
 if k=4 then(if n=0 then bz 5 0 else bz 4 0)else if k=3 then bz 3 n
 else if n<0 then .mk 7 0 [] [bz (if k=2 then 2 else 1) (-n)]else bz (if k=2 then 2 else 1) n
def aO(n:Int):Int:=max (-1099511627776) (min 1099511627776 n)
def Az(a b:Int):Int:=if b=0 then 0 else aO (Int.fdiv a b)
def qd(c f t:Int):Bool:=if f≤t then decide (f≤c∧c<t)else decide (f≤c∨c<t)
def lQ(b:Bool):Int:=if b then 1 else 0
def Qu:Int→List Int→Int
 |m,[]=>m
 |m,v::vs=>Qu (min m v) vs
def Qv:Int→List Int→Int
 |m,[]=>m
 |m,v::vs=>Qv (max m v) vs
def oG(op:Int)(vs:List Int):Int:=
 if op=7 then-a0 vs else if op=8 then aO (a0 vs+a1 vs)else if op=9 then aO (a0 vs-a1 vs)else if op=10 then aO (a0 vs*a1 vs)
 else if op=11 then Az (a0 vs) (a1 vs)else if op=12 then Qu (a0 vs) vs.tail else if op=13 then Qv (a0 vs) vs.tail
 else if op=14 then(if a0 vs=0 then a2 vs else a1 vs)else if op=15 then lQ (qd (a0 vs) (a1 vs) (a2 vs))
 else if op=16 then lQ (decide (a0 vs<a1 vs))else if op=17 then lQ (decide (a0 vs≤a1 vs))else if op=18 then lQ (decide (a0 vs=a1 vs))
 else if op=19 then 1-a0 vs else if op=20 then min (a0 vs) (a1 vs)else if op=21 then max (a0 vs) (a1 vs)else max (1-a0 vs) (a1 vs)
def jd(x:Ex):Bool:=decide (x.op=1∨x.op=2)&&decide (x.num=0)
def lM(x:Ex):Bool:=decide (x.op=1)&&decide (x.num=1)
def mB(op:Int)(ys:List Ex):Ex:=
 match ys with
 | [a]=>if op=19∧a.op=19 then a.args.headD (bz 0 0)else .mk op 0 [] ys
 | [a,b]=>
   if op=20 then(if a.op=5∨b.op=5 then bz 5 0 else if a.op=4 then b else if b.op=4 then a else .mk op 0 [] ys)
   else if op=21 then(if a.op=4∨b.op=4 then bz 4 0 else if a.op=5 then b else if b.op=5 then a else .mk op 0 [] ys)
   else if op=22 then(if a.op=5∨b.op=4 then bz 4 0 else if a.op=4 then b else if b.op=5 then(if a.op=19 then a.args.headD (bz 0 0)else .mk 19 0 [] [a])else .mk op 0 [] ys)
   else if op=8 then(if jd b then a else if jd a then b else .mk op 0 [] ys)
   else if op=9 then(if jd b then a else .mk op 0 [] ys)
   else if op=10 then(if lM b then a else if lM a then b else .mk op 0 [] ys)
   else if op=11 then(if lM b then a else .mk op 0 [] ys)
   else .mk op 0 [] ys
 | [a,b,c]=>if op=14 then(if a.op=4 then b else if a.op=5 then c else .mk op 0 [] ys)else .mk op 0 [] ys
 |_=> .mk op 0 [] ys
mutual
def Ex.fold(cl:List Nat→Int×Int)(cx:List Nat→Ex)(scope:Int):Ex→Ex
 | .mk op num name args=>
   if op=6 then(if dE scope name≠0 then .mk op num name args else cx name)
   else if args.isEmpty then .mk op num name args
   else if(dm cl cx scope args).all isLit then ew ((Ex.mk op num name args).ty cl scope).1 (oG op ((dm cl cx scope args).map jo))
   else mB op (dm cl cx scope args)
def dm(cl:List Nat→Int×Int)(cx:List Nat→Ex)(scope:Int):List Ex→List Ex
 | []=> []
 |x::xs=>x.fold cl cx scope::dm cl cx scope xs
end
end Go.Proofs.YtfenhjpkomldcaaGreat
namespace Go.Proofs.YtfenhjpkomldcaaGreat
open Go Go.Ev
theorem jg{k:Nat}(h:k≤1000000):wr .i64 ((k:Int)+1)=((k+1:Nat):Int):=n4 (Nat.lt_of_le_of_lt h (by decide))
theorem LC{a b:Nat}(ha:a≤1000000)(hb:b≤1000000):wr .i64 ((a:Int)+b)=((a+b:Nat):Int):=by
 rw[lg (by omega)];omega
def gi:Nat:=1000000
theorem c5{k:Nat}(h:k≤100000):k≤gi:=Nat.le_trans h (by decide)
theorem cE{k:Nat}(h:k≤gi):wr .i64 ((k:Int)+1)=((k+1:Nat):Int):=jg h
def iq:Nat:=1125899906842624
theorem jh{k:Nat}(h:k≤iq):wr .i64 ((k:Int)+1)=((k+1:Nat):Int):=n4 (Nat.lt_of_le_of_lt h (by decide))
def sv(n:Nat):List aA:= [⟨1,.cells [.i .i64 (n:Int)] 0 true⟩]
def cF(n level:Nat)(x:Ex):Prop:=n+x.nodes≤200∧level+x.depth≤17
def bp(n level:Nat)(xs:List Ex):Prop:=n+aR xs≤200∧level+eG xs≤17
instance (n level:Nat) (x:Ex):Decidable (cF n level x):=by unfold cF;infer_instance
instance (n level:Nat) (x:List Ex):Decidable (bp n level x):=by unfold bp;infer_instance
theorem j8{xs:List Ex}{k:Nat}(hk:k<xs.length):xs.drop k=xs[k]::xs.drop (k+1):=List.drop_eq_getElem_cons hk
def U8(level n:Nat)(a:T)(xs:List Ex)(k:Nat)(st:St):Prop:=
 ∃fr lh m,st=⟨fr,lh,sv m⟩∧an fr 1= .i .i64 (level:Int)∧an fr 2= .ptr .S 0 1 0∧an fr 23=a∧an fr 24= .i .i64 (xs.length:Int)∧an fr 25= .i .i64 (k:Int)∧
  k≤m∧m≤200∧(bp m (level+1) (xs.drop k)↔bp n (level+1) xs)∧(bp n (level+1) xs→m+aR (xs.drop k)=n+aR xs)
def N1(y:Ex):Prop:= ∀(level n:Nat) (cs:List T),bj y cs→n≤200→level≤17→ ∃n':Nat,aa pE 101 [.agg cs,.i .i64 (level:Int),.ptr .S 0 1 0] (sv n)=some (.b (decide (cF n level y)),sv n')∧(cF n level y→n'=n+y.nodes)
theorem U9(xs:List Ex)(ih: ∀y∈xs,N1 y)(a:T)(cc:List T)(ha:aN a xs.length cc)(hx:aL xs cc)(level n:Nat)(hl:level≤16)(hn:n≤200)(o:Out)(ho:o=if bp n (level+1) xs then .ext 0 else .ret)(fr:Fr)(lh:aQ aA)(sh:List aA)(iy:sh=sv n)
  (h1:an fr 1= .i .i64 (level:Int)) (h2:an fr 2= .ptr .S 0 1 0) (Rm:an fr 23=a) (Qw:an fr 24= .i .i64 (xs.length:Int)) (Rn:an fr 25= .i .i64 0):
  DC pE 36 (.loop fH) ⟨fr,lh,sh⟩=some (o,⟨ev pE 36 fH fr lh sh,eP pE 36 fH fr lh sh,eJ pE 36 fH fr lh sh⟩)∧
  ((bp n (level+1) xs→eJ pE 36 fH fr lh sh=sv (n+aR xs))∧(¬bp n (level+1) xs→an (ev pE 36 fH fr lh sh) 6= .b false∧ ∃m,eJ pE 36 fH fr lh sh=sv m)):=by
 refine a6 (P:=fun fr lh sh=>(bp n (level+1) xs→sh=sv (n+aR xs))∧(¬bp n (level+1) xs→an fr 6= .b false∧ ∃m,sh=sv m)) (bt (U8 level n a xs) _ xs.length ?_ ?_ 0 _ (Nat.zero_le _) ⟨fr,lh,n,by rw[iy],h1,h2,Rm,Qw,Rn,Nat.zero_le _,hn,Iff.rfl,fun _=>rfl⟩)
 ·rintro k _ hk ⟨fr,lh,m,rfl,h1,h2,Rm,Qw,Rn,hkm,hm,he,hs⟩
  have dN:(k:Int)<xs.length:=by omega
  have IB:=xs[k].nodes_eq
  have hw:=jg (k:=k) (by omega)
  have Va:=jg (k:=level) (by omega)
  obtain⟨b,cb,r,cQ,fu,oq,hb⟩:=dV ha hx k hk
  obtain⟨m',aB,S8⟩:=ih xs[k] (List.getElem_mem hk) (level+1) m _ hb hm (by omega)
  rw[j8 hk]at he hs
  simp only[bp,aR,eG]at he hs
  by_cases hf:cF m (level+1) xs[k]
  ·left
   rw[decide_eq_true hf]at aB
   simp only[qF,ah,ai,ab,aj,ae,ak,splice,Nat.reduceAdd,Nat.reduceLT,Nat.reduceLeDiff,Nat.reduceEqDiff,im,fH,h1,h2,Rm,Qw,Rn,dN,cQ,hw,Va,aB,AS,fu.kept1]
   refine⟨_,rfl,_,_,m',rfl, ?_, ?_, ?_, ?_, ?_, ?_, ?_, ?_, ?_⟩
   all_goals first|(simp only[ab,ae,Nat.reduceEqDiff,h1,h2,Rm,Qw];done)|skip
   all_goals (rw[S8 hf];unfold cF at hf;first|omega|(simp only[bp];omega)|(intro hc;have:=hs (by simpa only[bp]using hc);omega))
  ·right
   rw[decide_eq_false hf]at aB
   simp only[qF,ah,ai,ab,aj,ae,ak,splice,Nat.reduceAdd,Nat.reduceLT,Nat.reduceLeDiff,Nat.reduceEqDiff,im,fH,h1,h2,Rm,Qw,Rn,dN,cQ,Va,aB,AS,fu.kept1]
   have iE: ¬bp n (level+1) xs:=by unfold cF at hf;unfold bp;omega
   refine⟨_,_,(by simp:Out.ret≠ .nrm),rfl, ?_,fun hc=>absurd hc iE,fun _=>⟨by simp only[ab],m',rfl⟩⟩
   rw[ho,if_neg iE]
 ·rintro _ ⟨fr,lh,m,rfl,h1,h2,Rm,Qw,Rn,hkm,hm,he,hs⟩
  rw[List.drop_length]at he hs
  have Qx:bp n (level+1) xs:=he.1 (by unfold bp;rw[aR,eG];omega)
  simp only[ah,ai,ab,ae,ak,Nat.reduceLT,fH,Qw,Rn,Int.lt_irrefl]
  refine⟨_,_,(by simp:Out.ext 0≠ .nrm),rfl,by rw[ho,if_pos Qx],fun _=> ?_,fun hc=>absurd Qx hc⟩
  have:=hs Qx
  rw[aR,Nat.add_zero]at this
  rw[this]
theorem LD(x:Ex):N1 x:=by
 induction x using Ex.ind with
 |h x ih=>
  intro level n cs hx hn hl
  obtain⟨a,cc,rfl,ha,g5⟩:=hx.cells
  rw[aD L5 (by simp[wE])]
  have hw:=jg (k:=n) (by omega)
  have hnd:=x.nodes_eq
  have hdp:=x.depth_eq
  unfold sv
  by_cases h1:(200:Int)<((n+1:Nat):Int)
  ·have hf: ¬cF n level x:=by unfold cF;omega
   rw[decide_eq_false hf]
   simp only[qF,ah,ai,ab,aj,ae,ak,splice,Nat.reduceAdd,reduceCtorEq,Nat.reduceLT,Nat.reduceEqDiff,pf,wE,hw,h1]
   exact⟨n+1,rfl,fun h=>absurd h hf⟩
  ·by_cases h2:(16:Int)<(level:Int)
   ·have hf: ¬cF n level x:=by unfold cF;omega
    rw[decide_eq_false hf]
    simp only[qF,ah,ai,ab,aj,ae,ak,splice,Nat.reduceAdd,reduceCtorEq,Nat.reduceLT,Nat.reduceEqDiff,pf,wE,hw,h1,h2]
    exact⟨n+1,rfl,fun h=>absurd h hf⟩
   ·have lR:cF n level x↔bp (n+1) (level+1) x.args:=by unfold cF bp;omega
    have hL:=fun fr lh sh iy=>U9 x.args ih a cc ha g5 level (n+1) (by omega) (by omega) _ rfl fr lh sh iy
    unfold sv at hL
    by_cases hf:bp (n+1) (level+1) x.args
    ·rw[decide_eq_true (lR.2 hf)]
     simp only[hf,if_true,forall_const,not_true_eq_false,false_implies,and_true]at hL
     simp only[qF,ah,ai,ab,aj,ae,ak,splice,Nat.reduceAdd,reduceCtorEq,Nat.reduceLT,Nat.reduceEqDiff,pf,wE,hw,h1,h2,ha.lenI,hL]
     exact⟨n+1+aR x.args,rfl,fun _=>by omega⟩
    ·rw[decide_eq_false (fun h=>hf (lR.1 h))]
     simp only[hf,if_false,forall_const,not_false_eq_true,false_implies,true_and]at hL
     have hL2:=fun fr lh sh iy h1 h2 h3 h4 h5=>(hL fr lh sh iy h1 h2 h3 h4 h5).2.2
     have Lo:=fun fr lh sh iy h1 h2 h3 h4 h5=>And.intro (hL fr lh sh iy h1 h2 h3 h4 h5).1 (hL fr lh sh iy h1 h2 h3 h4 h5).2.1
     simp only[qF,ah,ai,ab,aj,ae,ak,splice,Nat.reduceAdd,reduceCtorEq,Nat.reduceLT,Nat.reduceEqDiff,pf,wE,hw,h1,h2,ha.lenI,Lo]
     generalize hX:eJ _ _ _ _ _ _=X
     obtain⟨m,hm⟩: ∃m:Nat,X= [⟨1,.cells [.i .i64 (m:Int)] 0 true⟩]:=by
      rw[←hX]
      refine hL2 _ _ _ rfl ?_ ?_ ?_ ?_ ?_ <;> simp only[ab,ae,reduceCtorEq,Nat.reduceEqDiff]
     rw[hm]
     exact⟨m,rfl,fun h=>absurd (lR.1 h) hf⟩
end Go.Proofs.YtfenhjpkomldcaaGreat
namespace Go.Proofs.YtfenhjpkomldcaaGreat
open Go Go.Ev
mutual
def Ex.sz:Ex→Nat→Nat×Nat
 | .mk _ _ _ args,level=>if 16<level then(1,1)else qN args level (1,1)
def qN:List Ex→Nat→Nat×Nat→Nat×Nat
 | [],_,p=>p
 |x::xs,level,p=>if p.1≤200 then qN xs level (p.1+(x.sz (level+1)).1,max p.2 ((x.sz (level+1)).2+1))else p
end
theorem Ex.sz_eq(x:Ex)(level:Nat):x.sz level=if 16<level then(1,1)else qN x.args level (1,1):=by obtain⟨_,_,_,_⟩:=x;rw[Ex.sz];rfl
theorem Qy{xs:List Ex}{level:Nat}(ih: ∀y∈xs,(y.sz (level+1)).1≤1+200*(17-(level+1))∧(y.sz (level+1)).2≤18-(level+1))(hl:level≤16): ∀p:Nat×Nat,p.1≤1+200*(17-level)→p.2≤18-level→(qN xs level p).1≤1+200*(17-level)∧(qN xs level p).2≤18-level:=by
 induction xs with
 |nil=>intro p h1 h2;rw[qN];exact⟨h1,h2⟩
 |cons y ys Pu=>
  intro p h1 h2
  rw[qN]
  have h3:=ih y (by simp)
  split
  ·refine Pu (fun z hz=>ih z (by simp[hz])) _ ?_ ?_ <;> simp only <;> omega
  ·exact⟨h1,h2⟩
theorem Vb(x:Ex): ∀level,level≤17→(x.sz level).1≤1+200*(17-level)∧(x.sz level).2≤18-level:=by
 induction x using Ex.ind with
 |h x ih=>
  intro level hl
  rw[Ex.sz_eq]
  split
  ·simp only;omega
  ·exact Qy (fun y hy=>ih y hy (level+1) (by omega)) (by omega) _ (by simp only;omega) (by simp only;omega)
theorem HR(x:Ex){level:Nat}(h:level≤17):(x.sz level).1≤4000∧(x.sz level).2≤18:=by
 have:=Vb x level h
 generalize x.sz level=q at*
 have h1:17-level≤17:=by omega
 generalize 17-level=r at*
 constructor <;> omega
theorem sw: ∀(xs:List Ex) (level:Nat) (p:Nat×Nat),p.1≤(qN xs level p).1∧p.2≤(qN xs level p).2
 | [],level,p=>by rw[qN];simp
 |x::xs,level,p=>by
  rw[qN]
  split
  ·have:=sw xs level (p.1+(x.sz (level+1)).1,max p.2 ((x.sz (level+1)).2+1))
   simp only at this;omega
  ·simp
def Vc(x:Ex):Prop:= ∀level,level≤17→if cF 0 level x then x.sz level=(x.nodes,x.depth)else 200<(x.sz level).1∨17<level+(x.sz level).2
theorem Qz{xs:List Ex}{level:Nat}(ih: ∀y∈xs,Vc y)(hl:level≤16): ∀p:Nat×Nat,1≤p.2→p.1≤200→
  if bp p.1 (level+1) xs then qN xs level p=(p.1+aR xs,max p.2 (eG xs+1))else 200<(qN xs level p).1∨17<level+(qN xs level p).2:=by
 induction xs with
 |nil=>
  intro p h1 h2
  have:bp p.1 (level+1) []:=by unfold bp;rw[aR,eG];omega
  rw[if_pos this,qN,aR,eG,Nat.max_eq_left (by omega)];rfl
 |cons y ys Pu=>
  intro p h1 h2
  have hy:=ih y (by simp) (level+1) (by omega)
  have kZ:=Pu fun z hz=>ih z (by simp[hz])
  have hnd:1≤y.nodes:=by rw[y.nodes_eq];omega
  have HS:=sw ys level (p.1+(y.sz (level+1)).1,max p.2 ((y.sz (level+1)).2+1))
  rw[qN,if_pos h2]
  by_cases hf:cF 0 (level+1) y
  ·rw[if_pos hf]at hy
   rw[hy]at HS ⊢
   simp only at HS ⊢
   by_cases h3:p.1+y.nodes≤200
   ·have:=kZ (p.1+y.nodes,max p.2 (y.depth+1)) (by simp only;omega) h3
    simp only at this
    by_cases h4:bp (p.1+y.nodes) (level+1) ys
    ·rw[if_pos h4]at this
     have h5:bp p.1 (level+1) (y::ys):=by unfold bp at h4 ⊢; unfold cF at hf;rw[aR,eG];omega
     rw[if_pos h5,this,aR,eG]
     refine Prod.ext ?_ ?_ <;> simp only <;> omega
    ·rw[if_neg h4]at this
     have h5: ¬bp p.1 (level+1) (y::ys):=by unfold bp at h4 ⊢; unfold cF at hf;rw[aR,eG];omega
     rw[if_neg h5];exact this
   ·have h5: ¬bp p.1 (level+1) (y::ys):=by unfold bp;rw[aR,eG];omega
    rw[if_neg h5];omega
  ·rw[if_neg hf]at hy
   have h5: ¬bp p.1 (level+1) (y::ys):=by unfold bp;unfold cF at hf;rw[aR,eG];omega
   rw[if_neg h5]
   simp only at HS;omega
theorem Vd(x:Ex):Vc x:=by
 induction x using Ex.ind with
 |h x ih=>
  intro level hl
  have hnd:=x.nodes_eq
  have hdp:=x.depth_eq
  rw[Ex.sz_eq]
  by_cases h:16<level
  ·have h5: ¬cF 0 level x:=by unfold cF;omega
   rw[if_neg h5,if_pos h];simp only;omega
  ·rw[if_neg h]
   have:=Qz ih (level:=level) (by omega) (1,1) (by simp) (by simp)
   simp only at this
   by_cases h4:bp 1 (level+1) x.args
   ·rw[if_pos h4]at this
    have h5:cF 0 level x:=by unfold bp at h4;unfold cF;omega
    rw[if_pos h5,this]
    refine Prod.ext ?_ ?_ <;> simp only <;> omega
   ·rw[if_neg h4]at this
    have h5: ¬cF 0 level x:=by unfold bp at h4;unfold cF;omega
    rw[if_neg h5];exact this
theorem QA(x:Ex):(200<(x.sz 1).1∨16<(x.sz 1).2)↔sr x:=by
 have:=Vd x 1 (by omega)
 by_cases h:cF 0 1 x
 ·rw[if_pos h]at this
  rw[this];unfold sr;simp only
 ·rw[if_neg h]at this
  unfold sr;unfold cF at h;omega
def szP(y:Ex):Prop:= ∀(level:Nat) (cs:List T),bj y cs→level≤17→aa pE 166 [.agg cs,.i .i64 (level:Int)] []=some (.tup [.i .i64 ((y.sz level).1:Int),.i .i64 ((y.sz level).2:Int)],[])
theorem Ve(xs:List Ex)(ih: ∀y∈xs,szP y)(a:T)(cc:List T)(ha:aN a xs.length cc)(hx:aL xs cc)(level:Nat)(hl:level≤16)(op num:Int)(s:List Nat)(g:Nat)(fr:Fr)(lh:aQ aA)(sh:List aA)
  (h1:an fr 1= .i .i64 (level:Int)) (h2:an fr 2= .ptr .L 2 g 0) (h6:an fr 6= .i .i64 1) (h7:an fr 7= .i .i64 1) (h8:an fr 8= .i .i64 0) (o2:aE lh 2=⟨g,.cells [.i .i64 op,.i .i64 num,.s s,a] 0 true⟩):
  DC pE 44 (.loop eL) ⟨fr,lh,sh⟩=some (.ext 0,⟨ev pE 44 eL fr lh sh,eP pE 44 eL fr lh sh,eJ pE 44 eL fr lh sh⟩)∧
  (an (ev pE 44 eL fr lh sh) 6= .i .i64 ((qN xs level (1,1)).1:Int)∧an (ev pE 44 eL fr lh sh) 7= .i .i64 ((qN xs level (1,1)).2:Int)∧eP pE 44 eL fr lh sh=lh∧eJ pE 44 eL fr lh sh=sh):=by
 refine a6 (P:=fun fr dj cq=>an fr 6= .i .i64 ((qN xs level (1,1)).1:Int)∧an fr 7= .i .i64 ((qN xs level (1,1)).2:Int)∧dj=lh∧cq=sh) (bt (fun k st=> ∃(fr:Fr) (p:Nat×Nat),st=⟨fr,lh,sh⟩∧an fr 1= .i .i64 (level:Int)∧an fr 2= .ptr .L 2 g 0∧an fr 6= .i .i64 (p.1:Int)∧an fr 7= .i .i64 (p.2:Int)∧an fr 8= .i .i64 (k:Int)∧
   qN (xs.drop k) level p=qN xs level (1,1)∧k≤p.1∧p.2≤19∧p.1≤4300) _ xs.length ?_ ?_ 0 _ (Nat.zero_le _) ⟨fr,(1,1),rfl,h1,h2,h6,h7,h8,rfl,by simp,by simp,by simp⟩)
 ·rintro k _ hk ⟨fr,p,rfl,h1,h2,h6,h7,h8,he,hp,hp2,hp1⟩
  have dN:(k:Int)<xs.length:=by omega
  obtain⟨b,cb,r,cQ,fu,oq,hb⟩:=dV ha hx k hk
  have aB:=ih xs[k] (List.getElem_mem hk) (level+1) _ hb (by omega)
  have ij:=HR xs[k] (level:=level+1) (by omega)
  have Fu:1≤(xs[k].sz (level+1)).1:=by
   rw[Ex.sz_eq];split
   ·simp
   ·exact(sw xs[k].args (level+1) (1,1)).1
  rw[j8 hk,qN]at he
  generalize xs[k].sz (level+1)=q at aB ij Fu he
  obtain⟨oX,wy⟩:=ij
  by_cases hf:p.1≤200
  ·left
   have LF:(p.1:Int)≤200:=by omega
   have hw:=jg (k:=k) (Nat.le_trans hp (Nat.le_trans hf (by decide)))
   have Va:=jg (k:=level) (Nat.le_trans hl (by decide))
   have hw3:=jg (k:=q.2) (Nat.le_trans wy (by decide))
   have hw4:=LC (a:=p.1) (b:=q.1) (Nat.le_trans hf (by decide)) (Nat.le_trans oX (by decide))
   rw[if_pos hf]at he
   by_cases O4:(p.2:Int)<((q.2+1:Nat):Int)
   ·have adi:(p.2:Int)<((q.2+1:Nat):Int):=O4
    simp only[qF,ah,ai,ab,aj,ae,mR,bu,Nat.reduceLT,Nat.reduceLeDiff,Nat.reduceEqDiff,eL,h1,h2,h6,h7,h8,o2,dN,ha.lenI,LF,cQ,hw,Va,hw3,hw4,aB,Fe,fu.froz1,O4]
    refine⟨_,rfl,_,(p.1+q.1,q.2+1),rfl, ?_, ?_, ?_, ?_, ?_, ?_, ?_, ?_, ?_⟩
    all_goals first|(simp only[ab,ae,Nat.reduceLeDiff,Nat.reduceEqDiff,h1,h2];done)|skip
    ·rw[Nat.max_eq_right (by omega)]at he;exact he
    all_goals (simp only;omega)
   ·simp only[qF,ah,ai,ab,aj,ae,mR,bu,Nat.reduceLT,Nat.reduceLeDiff,Nat.reduceEqDiff,eL,h1,h2,h6,h7,h8,o2,dN,ha.lenI,LF,cQ,hw,Va,hw3,hw4,aB,Fe,fu.froz1,O4]
    refine⟨_,rfl,_,(p.1+q.1,p.2),rfl, ?_, ?_, ?_, ?_, ?_, ?_, ?_, ?_, ?_⟩
    all_goals first|(simp only[ab,ae,Nat.reduceEqDiff,h1,h2];done)|skip
    ·rw[Nat.max_eq_left (by omega)]at he;exact he
    all_goals (simp only;omega)
  ·right
   have LF: ¬(p.1:Int)≤200:=by omega
   rw[if_neg hf]at he
   simp only[ah,ai,ab,aj,ae,ak,Nat.reduceLT,Nat.reduceEqDiff,eL,h2,h6,h8,o2,dN,ha.lenI,LF]
   exact⟨_,_,(by simp:Out.ext 0≠ .nrm),rfl,rfl,by simp only[ab,ae,Nat.reduceEqDiff,h6,←he],by simp only[ab,ae,Nat.reduceEqDiff,h7,←he],rfl,rfl⟩
 ·rintro _ ⟨fr,p,rfl,h1,h2,h6,h7,h8,he,hp,hp2,hp1⟩
  rw[List.drop_length,qN]at he
  simp only[ah,ai,ab,aj,ae,ak,Nat.reduceLT,Nat.reduceEqDiff,eL,h2,h8,o2,ha.lenI,Int.lt_irrefl]
  exact⟨_,_,(by simp:Out.ext 0≠ .nrm),rfl,rfl,by simp only[ab,ae,Nat.reduceEqDiff,h6,←he],by simp only[ab,ae,Nat.reduceEqDiff,h7,←he],rfl,rfl⟩
end Go.Proofs.YtfenhjpkomldcaaGreat
namespace Go.Proofs.YtfenhjpkomldcaaGreat
open Go Go.Ev
theorem LG(x:Ex):szP x:=by
 induction x using Ex.ind with
 |h x ih=>
  intro level cs hx hl
  obtain⟨a,cc,rfl,ha,g5⟩:=hx.cells
  rw[aD MI (by simp[Cl]),Ex.sz_eq]
  by_cases h2:(16:Int)<(level:Int)
  ·have h3:16<level:=by omega
   simp only[qF,ah,ai,ab,aj,ae,reduceCtorEq,Nat.reduceLT,Nat.reduceEqDiff,Cl,h2,h3]
  ·have h3: ¬16<level:=by omega
   have hL:=fun g fr lh sh=>Ve x.args ih a cc ha g5 level (by omega) x.op x.num x.name g fr lh sh
   simp only[qF,ah,ai,ab,aj,ae,ak,reduceCtorEq,Nat.reduceLT,Nat.reduceEqDiff,Cl,h2,h3,hL 1]
theorem LH(x:Ex)(cs:List T)(hx:bj x cs):aa pE 111 [.agg cs] []=some (.tup [.i .i64 ((x.sz 1).1:Int),.i .i64 ((x.sz 1).2:Int)],[]):=by
 have h:=LG x 1 cs hx (by omega)
 obtain⟨a,cc,rfl,ha,g5⟩:=hx.cells
 rw[aD Mc (by simp[Ep])]
 simp only[qF,ah,ai,ab,aj,ae,ak,Nat.reduceAdd,Nat.reduceLT,Nat.reduceEqDiff,Ep,Fe,ha.froz1]at h ⊢
 simp only[qF,ah,ai,ab,aj,ae,Nat.reduceLT,Nat.reduceEqDiff,h]
theorem ed{op:Int}(h1:1≤op)(h2:op≤22):op=1∨op=2∨op=3∨op=4∨op=5∨op=6∨op=7∨op=8∨op=9∨op=10∨op=11∨op=12∨op=13∨op=14∨op=15∨op=16∨op=17∨op=18∨op=19∨op=20∨op=21∨op=22:=by omega
theorem AA(op:Int)(n:Nat)(h1:1≤op)(h2:op≤22):aa pE 155 [.i .i64 op,.i .i64 (n:Int)] []=some (.b (aW op n),[]):=by
 have e0:decide ((n:Int)=0)=decide (n=0):=by rw[decide_eq_decide];omega
 have e1:decide ((n:Int)=1)=decide (n=1):=by rw[decide_eq_decide];omega
 have e2:decide ((n:Int)=2)=decide (n=2):=by rw[decide_eq_decide];omega
 have e3:decide ((n:Int)=3)=decide (n=3):=by rw[decide_eq_decide];omega
 have e4:decide ((2:Int)≤n)=decide (2≤n):=by rw[decide_eq_decide];omega
 rw[aD MB (by simp[EC])]
 rcases ed h1 h2 with rfl|rfl|rfl|rfl|rfl|rfl|rfl|rfl|rfl|rfl|rfl|rfl|rfl|rfl|rfl|rfl|rfl|rfl|rfl|rfl|rfl|rfl <;>
  simp only[qF,ah,ai,ab,aj,ae,ak,reduceCtorEq,Nat.reduceLT,Nat.reduceEqDiff,Int.reduceLE,Int.reduceEq,EC,aW,e0,e1,e2,e3,e4,or_true,or_false,or_self]
def DX(op:Int):Int:=if op≤6 then 0 else if op=7∨op=19 then 1 else if op=12∨op=13 then 2 else if op=14∨op=15 then 3 else 2
def AB(op:Int):Int:=if op≤6 then 0 else if op=7∨op=19 then 1 else if op=12∨op=13 then 200 else if op=14∨op=15 then 3 else 2
theorem HT(op:Int)(h1:1≤op)(h2:op≤22):aa pE 167 [.i .i64 op] []=some (.tup [.i .i64 (DX op),.i .i64 (AB op)],[]):=by
 rw[aD MJ (by simp[EG])]
 rcases ed h1 h2 with rfl|rfl|rfl|rfl|rfl|rfl|rfl|rfl|rfl|rfl|rfl|rfl|rfl|rfl|rfl|rfl|rfl|rfl|rfl|rfl|rfl|rfl <;>
  simp only[qF,ah,ai,ab,aj,ae,ak,reduceCtorEq,Nat.reduceLT,Nat.reduceEqDiff,Int.reduceLE,Int.reduceEq,EG,DX,AB,or_true,or_false,or_self]
theorem QB(op:Int)(n:Nat)(h1:1≤op)(h2:op≤22)(hn:n≤200):aW op n=true↔ ¬(n:Int)<DX op∧ ¬AB op<(n:Int):=by
 rcases ed h1 h2 with rfl|rfl|rfl|rfl|rfl|rfl|rfl|rfl|rfl|rfl|rfl|rfl|rfl|rfl|rfl|rfl|rfl|rfl|rfl|rfl|rfl|rfl <;>
  simp only[aW,DX,AB,Int.reduceLE,Int.reduceEq,or_true,or_false,or_self,if_true,if_false,decide_eq_true_eq] <;> omega
theorem vP: ∀{s:List Nat} {i:Nat},gA s=some i→i<s.length
 | [],i,h=>by simp[gA]at h
 |c::cs,i,h=>by
  rw[gA]at h
  split at h
  ·simp at h;subst h;simp
  ·cases hd:gA cs with
   |none=>simp[hd]at h
   |some j=>
    simp[hd]at h
    have:=vP hd
    subst h;simpa using this
theorem px{s:List Nat}: ∀(k:Nat),k≤s.length→(∀j (h:j<k) (hl:j<s.length),s[j]≠46)→gA s=(gA (s.drop k)).map (· +k)
 |0,_,_=>by simp
 |k+1,hk,h=>by
  have:=px (s:=s) k (by omega) fun j hj hl=>h j (by omega) hl
  have dG:k<s.length:=by omega
  rw[this,List.drop_eq_getElem_cons dG,gA,if_neg (h k (by omega) dG)]
  cases gA (s.drop (k+1))with
  |none=>rfl
  |some i=>simp;omega
theorem QC(s:List Nat)(hs:s.length≤iq)(o:Out)(ho:o=if gA s=none then .ext 0 else .ret)(fr:Fr)(lh:aQ aA)(sh:List aA)(h0:an fr 0= .s s)(h1:an fr 1= .i .u8 46)(h5:an fr 5= .i .i64 0):
  DC pE 18 (.loop fM) ⟨fr,lh,sh⟩=some (o,⟨ev pE 18 fM fr lh sh,eP pE 18 fM fr lh sh,eJ pE 18 fM fr lh sh⟩)∧
  ((∀i,gA s=some i→an (ev pE 18 fM fr lh sh) 4= .i .i64 (i:Int))∧eP pE 18 fM fr lh sh=lh∧eJ pE 18 fM fr lh sh=sh):=by
 refine a6 (P:=fun fr dj cq=>(∀i,gA s=some i→an fr 4= .i .i64 (i:Int))∧dj=lh∧cq=sh) (bt (fun k st=> ∃fr:Fr,st=⟨fr,lh,sh⟩∧an fr 0= .s s∧an fr 1= .i .u8 46∧an fr 5= .i .i64 (k:Int)∧k≤s.length∧ ∀j (h:j<k) (hl:j<s.length),s[j]≠46) _ s.length ?_ ?_ 0 _ (Nat.zero_le _) ⟨fr,rfl,h0,h1,h5,Nat.zero_le _,by simp⟩)
 ·rintro k _ hk ⟨fr,rfl,h0,h1,h5,qz,iE⟩
  have dN:(k:Int)<s.length:=by omega
  have hw:=jh (k:=k) (by omega)
  have hd:=px k qz iE
  rw[List.drop_eq_getElem_cons hk,gA]at hd
  by_cases hc:s[k]=46
  ·right
   have Dx:(s[k]:Int)=46:=by omega
   rw[if_pos hc]at hd
   simp only[Option.map_some,Nat.zero_add]at hd
   simp only[ah,ai,ab,aj,ae,reduceCtorEq,Nat.reduceLT,Nat.reduceEqDiff,fM,h0,h1,h5,dN,lI hk,Dx]
   refine⟨_,_,(by simp:Out.ret≠ .nrm),rfl,by rw[ho,hd];rfl,fun i hi=> ?_,rfl,rfl⟩
   rw[hd]at hi
   cases hi
   simp only[ab]
  ·left
   have Dx: ¬(s[k]:Int)=46:=by omega
   simp only[ah,ai,ab,aj,ae,ak,reduceCtorEq,Nat.reduceLT,Nat.reduceEqDiff,fM,h0,h1,h5,dN,lI hk,Dx,hw]
   refine⟨_,rfl,_,rfl, ?_, ?_, ?_,by omega, ?_⟩
   all_goals first|(simp only[ab,ae,reduceCtorEq,Nat.reduceEqDiff,h0,h1];done)|skip
   intro j hj hl
   by_cases e:j=k
   ·subst e;exact hc
   ·exact iE j (by omega) hl
 ·rintro _ ⟨fr,rfl,h0,h1,h5,qz,iE⟩
  have hd:=px s.length qz iE
  rw[List.drop_length,gA]at hd
  simp only[ah,ai,ab,ae,ak,reduceCtorEq,Nat.reduceLT,Nat.reduceEqDiff,fM,h0,h5,Int.lt_irrefl]
  refine⟨_,_,(by simp:Out.ext 0≠ .nrm),rfl,by rw[ho,hd];rfl,fun i hi=> ?_,rfl,rfl⟩
  rw[hd]at hi;cases hi
def ti(s:List Nat):Int:=match gA s with|none=> -1|some i=>(i:Int)
theorem HU(s:List Nat)(hs:s.length≤iq):aa pE 223 [.s s,.i .u8 46] []=some (.i .i64 (ti s),[]):=by
 have hL:=fun fr lh sh=>QC s hs _ rfl fr lh sh
 rw[aD M8 (by simp[Cr])]
 unfold ti
 cases hd:gA s with
 |none=>
  simp only[hd,if_true,reduceCtorEq,false_implies,implies_true,true_and]at hL
  simp only[qF,ah,ai,ab,aj,ae,Int.reduceNeg,reduceCtorEq,Nat.reduceLT,Nat.reduceEqDiff,Cr,hL]
 |some i=>
  simp only[hd,reduceCtorEq,if_false,Option.some.injEq,forall_eq']at hL
  simp only[qF,ah,ai,ab,aj,ae,Int.reduceNeg,reduceCtorEq,Nat.reduceLT,Nat.reduceEqDiff,Cr,hL]
theorem um{fr:Fr}{bs:List Nat}{x:aZ}{k:IntKind}{j:Nat}(h:rd fr x= .i k (j:Int))(hj:j≤bs.length):kE fr (.s bs) (some x) none=some (.s (bs.drop j)):=by
 unfold kE bk
 have ht:List.take (bs.length-j) (bs.drop j)=bs.drop j:=List.take_of_length_le (by simp)
 simp[h,vn,hj,ht]
theorem B0{fr:Fr}{bs:List Nat}{x:aZ}{k:IntKind}{j:Nat}(h:rd fr x= .i k (j:Int))(hj:j≤bs.length):kE fr (.s bs) none (some x)=some (.s (bs.take j)):=by
 unfold kE bk
 simp[h,vn,hj]
theorem qe{s:List Nat}{i:Nat}(h:gA s=some i):gB s=(fm (s.take i)&&fm (s.drop (i+1))):=by unfold gB;rw[h]
theorem qf{s:List Nat}(h:gA s=none):gB s=ph s:=by unfold gB;rw[h]
theorem AD(s:List Nat)(hs:s.length≤iq):aa pE 168 [.s s] []=some (.b (gB s),[]):=by
 have hf:=HU s hs
 unfold ti at hf
 rw[aD MK (by simp[Cm])]
 cases hd:gA s with
 |none=>
  simp only[hd]at hf
  rw[qf hd]
  simp(maxDischargeDepth:=6) only[qF,ah,ai,ab,aj,ae,Int.reduceNeg,reduceCtorEq,Nat.reduceLT,Int.reduceLT,Cm,hf,M9,DF,Sk]
 |some i=>
  simp only[hd]at hf
  rw[qe hd]
  have hi:=vP hd
  have h0: ¬(i:Int)<0:=by omega
  have hw:=jh (k:=i) (by omega)
  have hle:i≤s.length:=by omega
  have ta:i+1≤s.length:=by omega
  generalize i+1=j at hw ta ⊢
  have rj:=fun fr x (h:rd fr x= .i .i64 (j:Int))=>um h ta
  have sW:=fun fr x (h:rd fr x= .i .i64 (i:Int))=>B0 h hle
  cases hn:fm (s.take i) <;> simp(maxDischargeDepth:=6) only[qF,ah,ai,ab,aj,ae,ak,reduceCtorEq,Nat.reduceLT,Nat.reduceEqDiff,Cm,hf,M9,xT,MP,h0,hw,rj,sW,hn]
end Go.Proofs.YtfenhjpkomldcaaGreat
