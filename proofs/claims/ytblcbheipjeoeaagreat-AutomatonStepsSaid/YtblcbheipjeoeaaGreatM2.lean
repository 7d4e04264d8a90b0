/- The language of expressions: form, types, values, simplified forms; plain definitions. The size of an expression, as the program and the reference count it. The form of an expression: both checks. The form of an expression: both checks. Conditions: the theorems' own. -/
import Derived.Test.YtblcbheipjeoeaaGreatM1
import Derived.KernelRfl
set_option maxRecDepth 100000
set_option linter.unusedSimpArgs false
set_option linter.unusedVariables false
set_option maxHeartbeats 16000000
namespace Go.Proofs.YtblcbheipjeoeaaGreat
open Go Go.Ev
def oo:List Nat→Option Nat
 | []=>none
 |c::cs=>if c=46 then some 0 else(oo cs).map (· +1)
def pv(s:List Nat):Bool:=match oo s with
 |none=>kr s
 |some i=>iX (s.take i)&&iX (s.drop (i+1))
def iI(op:Int)(n:Nat):Bool:=
 if op≤6 then decide (n=0)else if op=7∨op=19 then decide (n=1)else if op=12∨op=13 then decide (2≤n)
 else if op=14∨op=15 then decide (n=3)else decide (n=2)
def pz(op:Int):Int:=if op=1∨op=2 then 1099511627776 else if op=3 then 1439 else 0
def nE(op num:Int)(name:List Nat)(n:Nat):Bool:=
 decide (1≤op)&&(decide (op≤22)&&(iI op n&&(decide (0≤num∧num≤pz op)&&(if op=6 then pv name else decide (name= [])))))
mutual
def Ex.wf:Ex→Bool
 | .mk op num name args=>nE op num name args.length&&sk args
def sk:List Ex→Bool
 | []=>true
 |x::xs=>x.wf&&sk xs
end
theorem Ex.wf_eq(x:Ex):x.wf=(nE x.op x.num x.name x.args.length&&sk x.args):=by obtain⟨_,_,_,_⟩:=x;rw[Ex.wf];rfl
theorem zE: ∀{xs:List Ex},sk xs=true↔ ∀x∈xs,x.wf=true
 | []=>by simp[sk]
 |x::xs=>by rw[sk,Bool.and_eq_true,zE (xs:=xs)];simp
def big(x:Ex):Prop:=200<x.nodes∨16<x.depth
instance (x:Ex):Decidable (big x):=by unfold big;infer_instance
def fP(x:Ex):Int:=if big x then 10 else if x.wf then 0 else 1
def jd(ts:List Int)(k:Int):Bool:=ts.all fun t=>decide (t=k)
def pA(op a b:Int):Int:=
 if a=1∧b=1 then 1 else if a=2∧b=1 then 2 else if op=10∧a=1∧b=2 then 2 else if op=11∧a=2∧b=2 then 1 else 0
def a0(ts:List Int):Int:=ts.getD 0 0
def a1(ts:List Int):Int:=ts.getD 1 0
def a2(ts:List Int):Int:=ts.getD 2 0
def kO(op:Int)(ts:List Int):Int:=
 if op=1 then 1 else if op=2 then 2 else if op=3 then 3 else if op=4 then 4 else if op=5 then 4
 else if op=7∨op=8∨op=9∨op=12∨op=13 then(if jd ts 1 then 1 else if jd ts 2 then 2 else 0)
 else if op=10∨op=11 then pA op (a0 ts) (a1 ts)
 else if op=14 then(if a0 ts=4∧a1 ts=a2 ts then a1 ts else 0)
 else if op=15 then(if jd ts 3 then 4 else 0)
 else if op=16∨op=17 then(if(a0 ts=1∨a0 ts=2)∧a0 ts=a1 ts then 4 else 0)
 else if op=18 then(if a0 ts=a1 ts then 4 else 0)
 else(if jd ts 4 then 4 else 0)
mutual
def Ex.ty(cl:List Nat→Int×Int)(scope:Int):Ex→Int×Int
 | .mk op _ name args=>
   if op=6 then(if jc scope name≠0 then(jc scope name,0)else cl name)
   else match pB cl scope args with
    | .error e=>(0,e)
    | .ok ts=>if kO op ts=0 then(0,9)else(kO op ts,0)
def pB(cl:List Nat→Int×Int)(scope:Int):List Ex→Except Int (List Int)
 | []=> .ok []
 |x::xs=>if(x.ty cl scope).2≠0 then .error (x.ty cl scope).2 else match pB cl scope xs with
  | .error e=> .error e
  | .ok ts=> .ok ((x.ty cl scope).1::ts)
end
theorem Ex.ty_eq(cl:List Nat→Int×Int)(scope:Int)(x:Ex):x.ty cl scope=
  if x.op=6 then(if jc scope x.name≠0 then(jc scope x.name,0)else cl x.name)
  else match pB cl scope x.args with
   | .error e=>(0,e)
   | .ok ts=>if kO x.op ts=0 then(0,9)else(kO x.op ts,0):=by obtain⟨_,_,_,_⟩:=x;rw[Ex.ty];rfl
abbrev Cs:=List (List Nat×Ex)
def jl:Cs→List Nat→Option Nat
 | [],_=>none
 |c::cs,s=>if c.1=s then some 0 else(jl cs s).map (· +1)
def xh(l:Cs)(tab:List (Int×Int))(s:List Nat):Int×Int:=match jl l s with
 |none=>(0,6)
 |some i=>tab.getD i (0,6)
def Ce(l:Cs)(tab:List (Int×Int))(x:Ex):Int×Int:=if fP x≠0 then(0,fP x)else x.ty (xh l tab) 0
def jw(l:Cs):Nat→List (Int×Int)
 |0=> []
 |n+1=>jw l n++ [Ce (l.take n) (jw l n) (l.getD n ([],.mk 0 0 [] [])).2]
def qX(l:Cs)(scope:Int)(x:Ex):Int×Int:=if fP x≠0 then(0,fP x)else x.ty (xh l (jw l l.length)) scope
def isLit(x:Ex):Bool:=match x with
 | .mk op _ _ args=>decide (op=1∨op=2∨op=3∨op=4∨op=5)||(decide (op=7)&&(match args with|y::_=>decide (y.op=1∨y.op=2)| []=>false))
def VS(x:Ex):Int:=match x with
 | .mk op num _ args=>if op=4 then 1 else if op=5 then 0 else if op=7 then(match args with|y::_=> -y.num| []=>0)else num
def k7(op num:Int):Ex:= .mk op num [] []
def uP(k n:Int):Ex:=
 if k=4 then(if n=0 then k7 5 0 else k7 4 0)else if k=3 then k7 3 n
 else if n<0 then .mk 7 0 [] [k7 (if k=2 then 2 else 1) (-n)]else k7 (if k=2 then 2 else 1) n
def gN(n:Int):Int:=max (-1099511627776) (min 1099511627776 n)
def RH(a b:Int):Int:=if b=0 then 0 else gN (Int.fdiv a b)
def KP(c f t:Int):Bool:=if f≤t then decide (f≤c∧c<t)else decide (f≤c∨c<t)
def xj(b:Bool):Int:=if b then 1 else 0
def abn:Int→List Int→Int
 |m,[]=>m
 |m,v::vs=>abn (min m v) vs
def abo:Int→List Int→Int
 |m,[]=>m
 |m,v::vs=>abo (max m v) vs
def NG(op:Int)(vs:List Int):Int:=
 if op=7 then-a0 vs else if op=8 then gN (a0 vs+a1 vs)else if op=9 then gN (a0 vs-a1 vs)else if op=10 then gN (a0 vs*a1 vs)
 else if op=11 then RH (a0 vs) (a1 vs)else if op=12 then abn (a0 vs) vs.tail else if op=13 then abo (a0 vs) vs.tail
 else if op=14 then(if a0 vs=0 then a2 vs else a1 vs)else if op=15 then xj (KP (a0 vs) (a1 vs) (a2 vs))
 else if op=16 then xj (decide (a0 vs<a1 vs))else if op=17 then xj (decide (a0 vs≤a1 vs))else if op=18 then xj (decide (a0 vs=a1 vs))
 else if op=19 then 1-a0 vs else if op=20 then min (a0 vs) (a1 vs)else if op=21 then max (a0 vs) (a1 vs)else max (1-a0 vs) (a1 vs)
def De(x:Ex):Bool:=decide (x.op=1∨x.op=2)&&decide (x.num=0)
def M6(x:Ex):Bool:=decide (x.op=1)&&decide (x.num=1)
def abp(op:Int)(ys:List Ex):Ex:=
 match ys with
 | [a]=>if op=19∧a.op=19 then a.args.headD (k7 0 0)else .mk op 0 [] ys
 | [a,b]=>
   if op=20 then(if a.op=5∨b.op=5 then k7 5 0 else if a.op=4 then b else if b.op=4 then a else .mk op 0 [] ys)
   else if op=21 then(if a.op=4∨b.op=4 then k7 4 0 else if a.op=5 then b else if b.op=5 then a else .mk op 0 [] ys)
   else if op=22 then(if a.op=5∨b.op=4 then k7 4 0 else if a.op=4 then b else if b.op=5 then(if a.op=19 then a.args.headD (k7 0 0)else .mk 19 0 [] [a])else .mk op 0 [] ys)
   else if op=8 then(if De b then a else if De a then b else .mk op 0 [] ys)
   else if op=9 then(if De b then a else .mk op 0 [] ys)
   else if op=10 then(if M6 b then a else if M6 a then b else .mk op 0 [] ys)
   else if op=11 then(if M6 b then a else .mk op 0 [] ys)
   else .mk op 0 [] ys
 | [a,b,c]=>if op=14 then(if a.op=4 then b else if a.op=5 then c else .mk op 0 [] ys)else .mk op 0 [] ys
 |_=> .mk op 0 [] ys
mutual
def Ex.fold(cl:List Nat→Int×Int)(cx:List Nat→Ex)(scope:Int):Ex→Ex
 | .mk op num name args=>
   if op=6 then(if jc scope name≠0 then .mk op num name args else cx name)
   else if args.isEmpty then .mk op num name args
   else if(qZ cl cx scope args).all isLit then uP ((Ex.mk op num name args).ty cl scope).1 (NG op ((qZ cl cx scope args).map VS))
   else abp op (qZ cl cx scope args)
def qZ(cl:List Nat→Int×Int)(cx:List Nat→Ex)(scope:Int):List Ex→List Ex
 | []=> []
 |x::xs=>x.fold cl cx scope::qZ cl cx scope xs
end
end Go.Proofs.YtblcbheipjeoeaaGreat
namespace Go.Proofs.YtblcbheipjeoeaaGreat
open Go Go.Ev
theorem qy{k:Nat}(h:k≤1000000):wr .i64 ((k:Int)+1)=((k+1:Nat):Int):=gl (Nat.lt_of_le_of_lt h (by decide))
theorem VT{a b:Nat}(ha:a≤1000000)(hb:b≤1000000):wr .i64 ((a:Int)+b)=((a+b:Nat):Int):=by
 rw[kM (by omega)];omega
def om:Nat:=1000000
theorem ku{k:Nat}(h:k≤100000):k≤om:=Nat.le_trans h (by decide)
theorem fQ{k:Nat}(h:k≤om):wr .i64 ((k:Int)+1)=((k+1:Nat):Int):=qy h
def kb:Nat:=1125899906842624
theorem mg{k:Nat}(h:k≤kb):wr .i64 ((k:Int)+1)=((k+1:Nat):Int):=gl (Nat.lt_of_le_of_lt h (by decide))
def Br(n:Nat):List fg:= [⟨1,.cells [.i .i64 (n:Int)] 0 true⟩]
def iD(n level:Nat)(x:Ex):Prop:=n+x.nodes≤200∧level+x.depth≤17
def gm(n level:Nat)(xs:List Ex):Prop:=n+gP xs≤200∧level+ny xs≤17
instance (n level:Nat) (x:Ex):Decidable (iD n level x):=by unfold iD;infer_instance
instance (n level:Nat) (x:List Ex):Decidable (gm n level x):=by unfold gm;infer_instance
theorem uD{xs:List Ex}{k:Nat}(hk:k<xs.length):xs.drop k=xs[k]::xs.drop (k+1):=List.drop_eq_getElem_cons hk
def aiK(level n:Nat)(a:T)(xs:List Ex)(k:Nat)(st:St):Prop:=
 ∃fr lh m,st=⟨fr,lh,Br m⟩∧an fr 1= .i .i64 (level:Int)∧an fr 2= .ptr .S 0 1 0∧an fr 23=a∧an fr 24= .i .i64 (xs.length:Int)∧an fr 25= .i .i64 (k:Int)∧
  k≤m∧m≤200∧(gm m (level+1) (xs.drop k)↔gm n (level+1) xs)∧(gm n (level+1) xs→m+gP (xs.drop k)=n+gP xs)
def Yy(y:Ex):Prop:= ∀(level n:Nat) (cs:List T),jY y cs→n≤200→level≤17→ ∃n':Nat,fj pE 272 [.agg cs,.i .i64 (level:Int),.ptr .S 0 1 0] (Br n)=some (.b (decide (iD n level y)),Br n')∧(iD n level y→n'=n+y.nodes)
theorem aiL(xs:List Ex)(ih: ∀y∈xs,Yy y)(a:T)(cc:List T)(ha:fD a xs.length cc)(hx:hH xs cc)(level n:Nat)(hl:level≤16)(hn:n≤200)(o:Out)(ho:o=if gm n (level+1) xs then .ext 0 else .ret)(fr:Fr)(lh:fC fg)(sh:List fg)(jh:sh=Br n)
  (h1:an fr 1= .i .i64 (level:Int)) (h2:an fr 2= .ptr .S 0 1 0) (h23:an fr 23=a) (h24:an fr 24= .i .i64 (xs.length:Int)) (h25:an fr 25= .i .i64 0):
  DC pE 36 (.loop mD) ⟨fr,lh,sh⟩=some (o,⟨gr pE 36 mD fr lh sh,gp pE 36 mD fr lh sh,gn pE 36 mD fr lh sh⟩)∧
  ((gm n (level+1) xs→gn pE 36 mD fr lh sh=Br (n+gP xs))∧(¬gm n (level+1) xs→an (gr pE 36 mD fr lh sh) 6= .b false∧ ∃m,gn pE 36 mD fr lh sh=Br m)):=by
 refine fq (P:=fun fr lh sh=>(gm n (level+1) xs→sh=Br (n+gP xs))∧(¬gm n (level+1) xs→an fr 6= .b false∧ ∃m,sh=Br m)) (fw (aiK level n a xs) _ xs.length ?_ ?_ 0 _ (Nat.zero_le _) ⟨fr,lh,n,by rw[jh],h1,h2,h23,h24,h25,Nat.zero_le _,hn,Iff.rfl,fun _=>rfl⟩)
 ·rintro k _ hk ⟨fr,lh,m,rfl,h1,h2,h23,h24,h25,hkm,hm,he,hs⟩
  have fK:(k:Int)<xs.length:=by omega
  have SG:=xs[k].nodes_eq
  have hw:=qy (k:=k) (by omega)
  have qJ:=qy (k:=level) (by omega)
  obtain⟨b,cb,r,fF,iK,oS,hb⟩:=nw ha hx k hk
  obtain⟨m',fu,ZH⟩:=ih xs[k] (List.getElem_mem hk) (level+1) m _ hb hm (by omega)
  rw[uD hk]at he hs
  simp only[gm,gP,ny]at he hs
  by_cases hf:iD m (level+1) xs[k]
  ·left
   rw[decide_eq_true hf]at fu
   simp only[qA,seval,iP,mD,h1,h2,h23,h24,h25,fK,fF,hw,qJ,fu,JN,iK.kept1]
   refine⟨_,rfl,_,_,m',rfl, ?_, ?_, ?_, ?_, ?_, ?_, ?_, ?_, ?_⟩
   all_goals first|(simp only[qA,seval,h1,h2,h23,h24];done)|skip
   all_goals (rw[ZH hf];unfold iD at hf;first|omega|(simp only[gm];omega)|(intro hc;have:=hs (by simpa only[gm]using hc);omega))
  ·right
   rw[decide_eq_false hf]at fu
   simp only[qA,seval,iP,mD,h1,h2,h23,h24,h25,fK,fF,qJ,fu,JN,iK.kept1]
   have lU: ¬gm n (level+1) xs:=by unfold iD at hf;unfold gm;omega
   refine⟨_,_,(by simp:Out.ret≠ .nrm),rfl, ?_,fun hc=>absurd hc lU,fun _=>⟨by simp only[qA,seval],m',rfl⟩⟩
   rw[ho,if_neg lU]
 ·rintro _ ⟨fr,lh,m,rfl,h1,h2,h23,h24,h25,hkm,hm,he,hs⟩
  rw[List.drop_length]at he hs
  have abr:gm n (level+1) xs:=he.1 (by unfold gm;rw[gP,ny];omega)
  simp only[qA,seval,mD,h24,h25,Int.lt_irrefl]
  refine⟨_,_,(by simp:Out.ext 0≠ .nrm),rfl,by rw[ho,if_pos abr],fun _=> ?_,fun hc=>absurd abr hc⟩
  have:=hs abr
  rw[gP,Nat.add_zero]at this
  rw[this]
theorem VU(x:Ex):Yy x:=by
 induction x using Ex.ind with
 |h x ih=>
  intro level n cs hx hn hl
  obtain⟨a,cc,rfl,ha,Bb⟩:=hx.cells
  rw[fx Xp (by simp[Fj])]
  have hw:=qy (k:=n) (by omega)
  have hnd:=x.nodes_eq
  have hdp:=x.depth_eq
  unfold Br
  by_cases h1:(200:Int)<((n+1:Nat):Int)
  ·have hf: ¬iD n level x:=by unfold iD;omega
   rw[decide_eq_false hf]
   simp only[qA,seval,oM,Fj,hw,h1]
   exact⟨n+1,rfl,fun h=>absurd h hf⟩
  ·by_cases h2:(16:Int)<(level:Int)
   ·have hf: ¬iD n level x:=by unfold iD;omega
    rw[decide_eq_false hf]
    simp only[qA,seval,oM,Fj,hw,h1,h2]
    exact⟨n+1,rfl,fun h=>absurd h hf⟩
   ·have Bs:iD n level x↔gm (n+1) (level+1) x.args:=by unfold iD gm;omega
    have hL:=fun fr lh sh jh=>aiL x.args ih a cc ha Bb level (n+1) (by omega) (by omega) _ rfl fr lh sh jh
    unfold Br at hL
    by_cases hf:gm (n+1) (level+1) x.args
    ·rw[decide_eq_true (Bs.2 hf)]
     simp only[hf,if_true,forall_const,not_true_eq_false,false_implies,and_true]at hL
     simp only[qA,seval,oM,Fj,hw,h1,h2,ha.lenI,hL]
     exact⟨n+1+gP x.args,rfl,fun _=>by omega⟩
    ·rw[decide_eq_false (fun h=>hf (Bs.1 h))]
     simp only[hf,if_false,forall_const,not_false_eq_true,false_implies,true_and]at hL
     have VR:=fun fr lh sh jh h1 h2 h3 h4 h5=>(hL fr lh sh jh h1 h2 h3 h4 h5).2.2
     have HI:=fun fr lh sh jh h1 h2 h3 h4 h5=>And.intro (hL fr lh sh jh h1 h2 h3 h4 h5).1 (hL fr lh sh jh h1 h2 h3 h4 h5).2.1
     simp only[qA,seval,oM,Fj,hw,h1,h2,ha.lenI,HI]
     generalize hX:gn _ _ _ _ _ _=X
     obtain⟨m,hm⟩: ∃m:Nat,X= [⟨1,.cells [.i .i64 (m:Int)] 0 true⟩]:=by
      rw[←hX]
      refine VR _ _ _ rfl ?_ ?_ ?_ ?_ ?_ <;> simp only[qA,seval]
     rw[hm]
     exact⟨m,rfl,fun h=>absurd (Bs.1 h) hf⟩
end Go.Proofs.YtblcbheipjeoeaaGreat
namespace Go.Proofs.YtblcbheipjeoeaaGreat
open Go Go.Ev
mutual
def Ex.sz:Ex→Nat→Nat×Nat
 | .mk _ _ _ args,level=>if 16<level then(1,1)else zF args level (1,1)
def zF:List Ex→Nat→Nat×Nat→Nat×Nat
 | [],_,p=>p
 |x::xs,level,p=>if p.1≤200 then zF xs level (p.1+(x.sz (level+1)).1,max p.2 ((x.sz (level+1)).2+1))else p
end
theorem Ex.sz_eq(x:Ex)(level:Nat):x.sz level=if 16<level then(1,1)else zF x.args level (1,1):=by obtain⟨_,_,_,_⟩:=x;rw[Ex.sz];rfl
theorem abt{xs:List Ex}{level:Nat}(ih: ∀y∈xs,(y.sz (level+1)).1≤1+200*(17-(level+1))∧(y.sz (level+1)).2≤18-(level+1))(hl:level≤16): ∀p:Nat×Nat,p.1≤1+200*(17-level)→p.2≤18-level→(zF xs level p).1≤1+200*(17-level)∧(zF xs level p).2≤18-level:=by
 induction xs with
 |nil=>intro p h1 h2;rw[zF];exact⟨h1,h2⟩
 |cons y ys Pv=>
  intro p h1 h2
  rw[zF]
  have h3:=ih y (by simp)
  split
  ·refine Pv (fun z hz=>ih z (by simp[hz])) _ ?_ ?_ <;> simp only <;> omega
  ·exact⟨h1,h2⟩
theorem aiM(x:Ex): ∀level,level≤17→(x.sz level).1≤1+200*(17-level)∧(x.sz level).2≤18-level:=by
 induction x using Ex.ind with
 |h x ih=>
  intro level hl
  rw[Ex.sz_eq]
  split
  ·simp only;omega
  ·exact abt (fun y hy=>ih y hy (level+1) (by omega)) (by omega) _ (by simp only;omega) (by simp only;omega)
theorem RI(x:Ex){level:Nat}(h:level≤17):(x.sz level).1≤4000∧(x.sz level).2≤18:=by
 have:=aiM x level h
 generalize x.sz level=q at*
 have h1:17-level≤17:=by omega
 generalize 17-level=r at*
 constructor <;> omega
theorem Bt: ∀(xs:List Ex) (level:Nat) (p:Nat×Nat),p.1≤(zF xs level p).1∧p.2≤(zF xs level p).2
 | [],level,p=>by rw[zF];simp
 |x::xs,level,p=>by
  rw[zF]
  split
  ·have:=Bt xs level (p.1+(x.sz (level+1)).1,max p.2 ((x.sz (level+1)).2+1))
   simp only at this;omega
  ·simp
def aiN(x:Ex):Prop:= ∀level,level≤17→if iD 0 level x then x.sz level=(x.nodes,x.depth)else 200<(x.sz level).1∨17<level+(x.sz level).2
theorem abu{xs:List Ex}{level:Nat}(ih: ∀y∈xs,aiN y)(hl:level≤16): ∀p:Nat×Nat,1≤p.2→p.1≤200→
  if gm p.1 (level+1) xs then zF xs level p=(p.1+gP xs,max p.2 (ny xs+1))else 200<(zF xs level p).1∨17<level+(zF xs level p).2:=by
 induction xs with
 |nil=>
  intro p h1 h2
  have:gm p.1 (level+1) []:=by unfold gm;rw[gP,ny];omega
  rw[if_pos this,zF,gP,ny,Nat.max_eq_left (by omega)];rfl
 |cons y ys Pv=>
  intro p h1 h2
  have hy:=ih y (by simp) (level+1) (by omega)
  have SN:=Pv fun z hz=>ih z (by simp[hz])
  have hnd:1≤y.nodes:=by rw[y.nodes_eq];omega
  have RJ:=Bt ys level (p.1+(y.sz (level+1)).1,max p.2 ((y.sz (level+1)).2+1))
  rw[zF,if_pos h2]
  by_cases hf:iD 0 (level+1) y
  ·rw[if_pos hf]at hy
   rw[hy]at RJ ⊢
   simp only at RJ ⊢
   by_cases h3:p.1+y.nodes≤200
   ·have:=SN (p.1+y.nodes,max p.2 (y.depth+1)) (by simp only;omega) h3
    simp only at this
    by_cases h4:gm (p.1+y.nodes) (level+1) ys
    ·rw[if_pos h4]at this
     have h5:gm p.1 (level+1) (y::ys):=by unfold gm at h4 ⊢; unfold iD at hf;rw[gP,ny];omega
     rw[if_pos h5,this,gP,ny]
     refine Prod.ext ?_ ?_ <;> simp only <;> omega
    ·rw[if_neg h4]at this
     have h5: ¬gm p.1 (level+1) (y::ys):=by unfold gm at h4 ⊢; unfold iD at hf;rw[gP,ny];omega
     rw[if_neg h5];exact this
   ·have h5: ¬gm p.1 (level+1) (y::ys):=by unfold gm;rw[gP,ny];omega
    rw[if_neg h5];omega
  ·rw[if_neg hf]at hy
   have h5: ¬gm p.1 (level+1) (y::ys):=by unfold gm;unfold iD at hf;rw[gP,ny];omega
   rw[if_neg h5]
   simp only at RJ;omega
theorem aiO(x:Ex):aiN x:=by
 induction x using Ex.ind with
 |h x ih=>
  intro level hl
  have hnd:=x.nodes_eq
  have hdp:=x.depth_eq
  rw[Ex.sz_eq]
  by_cases h:16<level
  ·have h5: ¬iD 0 level x:=by unfold iD;omega
   rw[if_neg h5,if_pos h];simp only;omega
  ·rw[if_neg h]
   have:=abu ih (level:=level) (by omega) (1,1) (by simp) (by simp)
   simp only at this
   by_cases h4:gm 1 (level+1) x.args
   ·rw[if_pos h4]at this
    have h5:iD 0 level x:=by unfold gm at h4;unfold iD;omega
    rw[if_pos h5,this]
    refine Prod.ext ?_ ?_ <;> simp only <;> omega
   ·rw[if_neg h4]at this
    have h5: ¬iD 0 level x:=by unfold gm at h4;unfold iD;omega
    rw[if_neg h5];exact this
theorem abv(x:Ex):(200<(x.sz 1).1∨16<(x.sz 1).2)↔big x:=by
 have:=aiO x 1 (by omega)
 by_cases h:iD 0 1 x
 ·rw[if_pos h]at this
  rw[this];unfold big;simp only
 ·rw[if_neg h]at this
  unfold big;unfold iD at h;omega
def szP(y:Ex):Prop:= ∀(level:Nat) (cs:List T),jY y cs→level≤17→fj pE 287 [.agg cs,.i .i64 (level:Int)] []=some (.tup [.i .i64 ((y.sz level).1:Int),.i .i64 ((y.sz level).2:Int)],[])
theorem aiP(xs:List Ex)(ih: ∀y∈xs,szP y)(a:T)(cc:List T)(ha:fD a xs.length cc)(hx:hH xs cc)(level:Nat)(hl:level≤16)(op num:Int)(s:List Nat)(g:Nat)(fr:Fr)(lh:fC fg)(sh:List fg)
  (h1:an fr 1= .i .i64 (level:Int)) (h2:an fr 2= .ptr .L 2 g 0) (h6:an fr 6= .i .i64 1) (h7:an fr 7= .i .i64 1) (h8:an fr 8= .i .i64 0) (o2:be lh 2=⟨g,.cells [.i .i64 op,.i .i64 num,.s s,a] 0 true⟩):
  DC pE 44 (.loop kY) ⟨fr,lh,sh⟩=some (.ext 0,⟨gr pE 44 kY fr lh sh,gp pE 44 kY fr lh sh,gn pE 44 kY fr lh sh⟩)∧
  (an (gr pE 44 kY fr lh sh) 6= .i .i64 ((zF xs level (1,1)).1:Int)∧an (gr pE 44 kY fr lh sh) 7= .i .i64 ((zF xs level (1,1)).2:Int)∧gp pE 44 kY fr lh sh=lh∧gn pE 44 kY fr lh sh=sh):=by
 refine fq (P:=fun fr fH fL=>an fr 6= .i .i64 ((zF xs level (1,1)).1:Int)∧an fr 7= .i .i64 ((zF xs level (1,1)).2:Int)∧fH=lh∧fL=sh) (fw (fun k st=> ∃(fr:Fr) (p:Nat×Nat),st=⟨fr,lh,sh⟩∧an fr 1= .i .i64 (level:Int)∧an fr 2= .ptr .L 2 g 0∧an fr 6= .i .i64 (p.1:Int)∧an fr 7= .i .i64 (p.2:Int)∧an fr 8= .i .i64 (k:Int)∧
   zF (xs.drop k) level p=zF xs level (1,1)∧k≤p.1∧p.2≤19∧p.1≤4300) _ xs.length ?_ ?_ 0 _ (Nat.zero_le _) ⟨fr,(1,1),rfl,h1,h2,h6,h7,h8,rfl,by simp,by simp,by simp⟩)
 ·rintro k _ hk ⟨fr,p,rfl,h1,h2,h6,h7,h8,he,hp,hp2,hp1⟩
  have fK:(k:Int)<xs.length:=by omega
  obtain⟨b,cb,r,fF,iK,oS,hb⟩:=nw ha hx k hk
  have fu:=ih xs[k] (List.getElem_mem hk) (level+1) _ hb (by omega)
  have tI:=RI xs[k] (level:=level+1) (by omega)
  have ZL:1≤(xs[k].sz (level+1)).1:=by
   rw[Ex.sz_eq];split
   ·simp
   ·exact(Bt xs[k].args (level+1) (1,1)).1
  rw[uD hk,zF]at he
  generalize xs[k].sz (level+1)=q at fu tI ZL he
  obtain⟨xt,wJ⟩:=tI
  by_cases hf:p.1≤200
  ·left
   have hf':(p.1:Int)≤200:=by omega
   have hw:=qy (k:=k) (Nat.le_trans hp (Nat.le_trans hf (by decide)))
   have qJ:=qy (k:=level) (Nat.le_trans hl (by decide))
   have hw3:=qy (k:=q.2) (Nat.le_trans wJ (by decide))
   have SZ:=VT (a:=p.1) (b:=q.1) (Nat.le_trans hf (by decide)) (Nat.le_trans xt (by decide))
   rw[if_pos hf]at he
   by_cases ZG:(p.2:Int)<((q.2+1:Nat):Int)
   ·have arJ:(p.2:Int)<((q.2+1:Nat):Int):=ZG
    simp only[qA,seval,kY,h1,h2,h6,h7,h8,o2,fK,ha.lenI,hf',fF,hw,qJ,hw3,SZ,fu,OQ,iK.froz1,ZG]
    refine⟨_,rfl,_,(p.1+q.1,q.2+1),rfl, ?_, ?_, ?_, ?_, ?_, ?_, ?_, ?_, ?_⟩
    all_goals first|(simp only[qA,seval,h1,h2];done)|skip
    ·rw[Nat.max_eq_right (by omega)]at he;exact he
    all_goals (simp only;omega)
   ·simp only[qA,seval,kY,h1,h2,h6,h7,h8,o2,fK,ha.lenI,hf',fF,hw,qJ,hw3,SZ,fu,OQ,iK.froz1,ZG]
    refine⟨_,rfl,_,(p.1+q.1,p.2),rfl, ?_, ?_, ?_, ?_, ?_, ?_, ?_, ?_, ?_⟩
    all_goals first|(simp only[qA,seval,h1,h2];done)|skip
    ·rw[Nat.max_eq_left (by omega)]at he;exact he
    all_goals (simp only;omega)
  ·right
   have hf': ¬(p.1:Int)≤200:=by omega
   rw[if_neg hf]at he
   simp only[qA,seval,kY,h2,h6,h8,o2,fK,ha.lenI,hf']
   exact⟨_,_,(by simp:Out.ext 0≠ .nrm),rfl,rfl,by simp only[qA,seval,h6,←he],by simp only[qA,seval,h7,←he],rfl,rfl⟩
 ·rintro _ ⟨fr,p,rfl,h1,h2,h6,h7,h8,he,hp,hp2,hp1⟩
  rw[List.drop_length,zF]at he
  simp only[qA,seval,kY,h2,h8,o2,ha.lenI,Int.lt_irrefl]
  exact⟨_,_,(by simp:Out.ext 0≠ .nrm),rfl,rfl,by simp only[qA,seval,h6,←he],by simp only[qA,seval,h7,←he],rfl,rfl⟩
end Go.Proofs.YtblcbheipjeoeaaGreat
namespace Go.Proofs.YtblcbheipjeoeaaGreat
open Go Go.Ev
theorem VV(x:Ex):szP x:=by
 induction x using Ex.ind with
 |h x ih=>
  intro level cs hx hl
  obtain⟨a,cc,rfl,ha,Bb⟩:=hx.cells
  rw[fx Xx (by simp[LK]),Ex.sz_eq]
  by_cases h2:(16:Int)<(level:Int)
  ·have h3:16<level:=by omega
   simp only[qA,seval,LK,h2,h3]
  ·have h3: ¬16<level:=by omega
   have hL:=fun g fr lh sh=>aiP x.args ih a cc ha Bb level (by omega) x.op x.num x.name g fr lh sh
   simp only[qA,seval,LK,h2,h3,hL 1]
theorem VW(x:Ex)(cs:List T)(hx:jY x cs):fj pE 260 [.agg cs] []=some (.tup [.i .i64 ((x.sz 1).1:Int),.i .i64 ((x.sz 1).2:Int)],[]):=by
 have h:=VV x 1 cs hx (by omega)
 obtain⟨a,cc,rfl,ha,Bb⟩:=hx.cells
 rw[fx Xj (by simp[N8])]
 simp only[qA,seval,N8,OQ,ha.froz1]at h ⊢
 simp only[qA,seval,h]
theorem oQ{op:Int}(h1:1≤op)(h2:op≤22):op=1∨op=2∨op=3∨op=4∨op=5∨op=6∨op=7∨op=8∨op=9∨op=10∨op=11∨op=12∨op=13∨op=14∨op=15∨op=16∨op=17∨op=18∨op=19∨op=20∨op=21∨op=22:=by omega
theorem Jb(op:Int)(n:Nat)(h1:1≤op)(h2:op≤22):fj pE 300 [.i .i64 op,.i .i64 (n:Int)] []=some (.b (iI op n),[]):=by
 have e0:decide ((n:Int)=0)=decide (n=0):=by rw[decide_eq_decide];omega
 have e1:decide ((n:Int)=1)=decide (n=1):=by rw[decide_eq_decide];omega
 have e2:decide ((n:Int)=2)=decide (n=2):=by rw[decide_eq_decide];omega
 have e3:decide ((n:Int)=3)=decide (n=3):=by rw[decide_eq_decide];omega
 have e4:decide ((2:Int)≤n)=decide (2≤n):=by rw[decide_eq_decide];omega
 rw[fx XF (by simp[Ok])]
 rcases oQ h1 h2 with rfl|rfl|rfl|rfl|rfl|rfl|rfl|rfl|rfl|rfl|rfl|rfl|rfl|rfl|rfl|rfl|rfl|rfl|rfl|rfl|rfl|rfl <;>
  simp only[qA,seval,Ok,iI,e0,e1,e2,e3,e4,or_true,or_false,or_self]
def M7(op:Int):Int:=if op≤6 then 0 else if op=7∨op=19 then 1 else if op=12∨op=13 then 2 else if op=14∨op=15 then 3 else 2
def Jc(op:Int):Int:=if op≤6 then 0 else if op=7∨op=19 then 1 else if op=12∨op=13 then 200 else if op=14∨op=15 then 3 else 2
theorem RK(op:Int)(h1:1≤op)(h2:op≤22):fj pE 288 [.i .i64 op] []=some (.tup [.i .i64 (M7 op),.i .i64 (Jc op)],[]):=by
 rw[fx Xy (by simp[Oh])]
 rcases oQ h1 h2 with rfl|rfl|rfl|rfl|rfl|rfl|rfl|rfl|rfl|rfl|rfl|rfl|rfl|rfl|rfl|rfl|rfl|rfl|rfl|rfl|rfl|rfl <;>
  simp only[qA,seval,Oh,M7,Jc,or_true,or_false,or_self]
theorem abx(op:Int)(n:Nat)(h1:1≤op)(h2:op≤22)(hn:n≤200):iI op n=true↔ ¬(n:Int)<M7 op∧ ¬Jc op<(n:Int):=by
 rcases oQ h1 h2 with rfl|rfl|rfl|rfl|rfl|rfl|rfl|rfl|rfl|rfl|rfl|rfl|rfl|rfl|rfl|rfl|rfl|rfl|rfl|rfl|rfl|rfl <;>
  simp only[iI,M7,Jc,Int.reduceLE,Int.reduceEq,or_true,or_false,or_self,if_true,if_false,decide_eq_true_eq] <;> omega
theorem ED: ∀{s:List Nat} {i:Nat},oo s=some i→i<s.length
 | [],i,h=>by simp[oo]at h
 |c::cs,i,h=>by
  rw[oo]at h
  split at h
  ·simp at h;subst h;simp
  ·cases hd:oo cs with
   |none=>simp[hd]at h
   |some j=>
    simp[hd]at h
    have:=ED hd
    subst h;simpa using this
theorem xY{s:List Nat}: ∀(k:Nat),k≤s.length→(∀j (h:j<k) (hl:j<s.length),s[j]≠46)→oo s=(oo (s.drop k)).map (· +k)
 |0,_,_=>by simp
 |k+1,hk,h=>by
  have:=xY (s:=s) k (by omega) fun j hj hl=>h j (by omega) hl
  have jm:k<s.length:=by omega
  rw[this,List.drop_eq_getElem_cons jm,oo,if_neg (h k (by omega) jm)]
  cases oo (s.drop (k+1))with
  |none=>rfl
  |some i=>simp;omega
theorem aby(s:List Nat)(hs:s.length≤kb)(o:Out)(ho:o=if oo s=none then .ext 0 else .ret)(fr:Fr)(lh:fC fg)(sh:List fg)(h0:an fr 0= .s s)(h1:an fr 1= .i .u8 46)(h5:an fr 5= .i .i64 0):
  DC pE 18 (.loop mF) ⟨fr,lh,sh⟩=some (o,⟨gr pE 18 mF fr lh sh,gp pE 18 mF fr lh sh,gn pE 18 mF fr lh sh⟩)∧
  ((∀i,oo s=some i→an (gr pE 18 mF fr lh sh) 4= .i .i64 (i:Int))∧gp pE 18 mF fr lh sh=lh∧gn pE 18 mF fr lh sh=sh):=by
 refine fq (P:=fun fr fH fL=>(∀i,oo s=some i→an fr 4= .i .i64 (i:Int))∧fH=lh∧fL=sh) (fw (fun k st=> ∃fr:Fr,st=⟨fr,lh,sh⟩∧an fr 0= .s s∧an fr 1= .i .u8 46∧an fr 5= .i .i64 (k:Int)∧k≤s.length∧ ∀j (h:j<k) (hl:j<s.length),s[j]≠46) _ s.length ?_ ?_ 0 _ (Nat.zero_le _) ⟨fr,rfl,h0,h1,h5,Nat.zero_le _,by simp⟩)
 ·rintro k _ hk ⟨fr,rfl,h0,h1,h5,pR,lU⟩
  have fK:(k:Int)<s.length:=by omega
  have hw:=mg (k:=k) (by omega)
  have hd:=xY k pR lU
  rw[List.drop_eq_getElem_cons hk,oo]at hd
  by_cases hc:s[k]=46
  ·right
   have hc':(s[k]:Int)=46:=by omega
   rw[if_pos hc]at hd
   simp only[Option.map_some,Nat.zero_add]at hd
   simp only[qA,seval,mF,h0,h1,h5,fK,oN hk,hc']
   refine⟨_,_,(by simp:Out.ret≠ .nrm),rfl,by rw[ho,hd];rfl,fun i hi=> ?_,rfl,rfl⟩
   rw[hd]at hi
   cases hi
   simp only[qA,seval]
  ·left
   have hc': ¬(s[k]:Int)=46:=by omega
   simp only[qA,seval,mF,h0,h1,h5,fK,oN hk,hc',hw]
   refine⟨_,rfl,_,rfl, ?_, ?_, ?_,by omega, ?_⟩
   all_goals first|(simp only[qA,seval,h0,h1];done)|skip
   intro j hj hl
   by_cases e:j=k
   ·subst e;exact hc
   ·exact lU j (by omega) hl
 ·rintro _ ⟨fr,rfl,h0,h1,h5,pR,lU⟩
  have hd:=xY s.length pR lU
  rw[List.drop_length,oo]at hd
  simp only[qA,seval,mF,h0,h5,Int.lt_irrefl]
  refine⟨_,_,(by simp:Out.ext 0≠ .nrm),rfl,by rw[ho,hd];rfl,fun i hi=> ?_,rfl,rfl⟩
  rw[hd]at hi;cases hi
def Cf(s:List Nat):Int:=match oo s with|none=> -1|some i=>(i:Int)
theorem RL(s:List Nat)(hs:s.length≤kb):fj pE 304 [.s s,.i .u8 46] []=some (.i .i64 (Cf s),[]):=by
 have hL:=fun fr lh sh=>aby s hs _ rfl fr lh sh
 rw[fx XK (by simp[LO])]
 unfold Cf
 cases hd:oo s with
 |none=>
  simp only[hd,if_true,reduceCtorEq,false_implies,implies_true,true_and]at hL
  simp only[qA,seval,LO,hL]
 |some i=>
  simp only[hd,reduceCtorEq,if_false,Option.some.injEq,forall_eq']at hL
  simp only[qA,seval,LO,hL]
theorem Df{fr:Fr}{bs:List Nat}{x:fM}{k:IntKind}{j:Nat}(h:rd fr x= .i k (j:Int))(hj:j≤bs.length):sH fr (.s bs) (some x) none=some (.s (bs.drop j)):=by
 unfold sH iS
 have ht:List.take (bs.length-j) (bs.drop j)=bs.drop j:=List.take_of_length_le (by simp)
 simp[h,D1,hj,ht]
theorem KQ{fr:Fr}{bs:List Nat}{x:fM}{k:IntKind}{j:Nat}(h:rd fr x= .i k (j:Int))(hj:j≤bs.length):sH fr (.s bs) none (some x)=some (.s (bs.take j)):=by
 unfold sH iS
 simp[h,D1,hj]
theorem yR{s:List Nat}{i:Nat}(h:oo s=some i):pv s=(iX (s.take i)&&iX (s.drop (i+1))):=by unfold pv;rw[h]
theorem yS{s:List Nat}(h:oo s=none):pv s=kr s:=by unfold pv;rw[h]
theorem Jd(s:List Nat)(hs:s.length≤kb):fj pE 289 [.s s] []=some (.b (pv s),[]):=by
 have hf:=RL s hs
 unfold Cf at hf
 rw[fx Xz (by simp[LL])]
 cases hd:oo s with
 |none=>
  simp only[hd]at hf
  rw[yS hd]
  simp(maxDischargeDepth:=6) only[qA,seval,LL,hf,XL,rW,lZ]
 |some i=>
  simp only[hd]at hf
  rw[yR hd]
  have hi:=ED hd
  have h0: ¬(i:Int)<0:=by omega
  have hw:=mg (k:=i) (by omega)
  have hle:i≤s.length:=by omega
  have BZ:i+1≤s.length:=by omega
  generalize i+1=j at hw BZ ⊢
  have tj:=fun fr x (h:rd fr x= .i .i64 (j:Int))=>Df h BZ
  have yw:=fun fr x (h:rd fr x= .i .i64 (i:Int))=>KQ h hle
  cases hn:iX (s.take i) <;> simp(maxDischargeDepth:=6) only[qA,seval,LL,hf,XL,tP,qc,h0,hw,tj,yw,hn]
end Go.Proofs.YtblcbheipjeoeaaGreat
