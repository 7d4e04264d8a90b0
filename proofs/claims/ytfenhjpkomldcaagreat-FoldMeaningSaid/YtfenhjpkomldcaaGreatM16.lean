/- The built expressions, typed. Conditions: the theorems' own. -/
import Derived.Test.YtfenhjpkomldcaaGreatM15
import Derived.KernelRfl
set_option maxRecDepth 100000
set_option linter.unusedSimpArgs false
set_option linter.unusedVariables false
set_option maxHeartbeats 16000000
namespace Go.Proofs.YtfenhjpkomldcaaGreat
open Go Go.Ev
theorem node_ev(op:Int)(a:T)(n:Nat)(cc:List T)(ha:IsSl a n cc):DCall pE 95 [.i .i64 op,a] []=some (.agg [.i .i64 op,.i .i64 0,.s [],a],[]):=by
 rw[p_fun fn95 (by simp[c95])]
 simp(maxDischargeDepth:=6) only[qF,qGO0,qGO1,qGO2,qGO3,qGO4,qGO5,buildV,splice,fills,Nat.reduceAdd,reduceCtorEq,Nat.reduceLT,Nat.reduceLeDiff,Nat.reduceEqDiff,c95,ha.froz1,ha.cells,ha.noTup]
theorem nodeT_is(op:Int)(ys:List Ex)(a:T)(cc:List T)(ha:IsSl a ys.length cc)(hx:IsExs ys cc):IsEx (.mk op 0 [] ys) [.i .i64 op,.i .i64 0,.s [],a]:=IsEx.of (x:= .mk op 0 [] ys) ha hx
def bN:Nat→Nat
 |0=>3
 |1=>3
 |n+1=>4+3*bN n
def nN:Nat→Nat
 |0=>1
 |1=>1
 |n+1=>1+3*nN n
theorem bN_pos: ∀n,3≤bN n
 |0=>by decide
 |1=>by decide
 |n+2=>by have:=bN_pos (n+1);rw[bN];omega;simp
theorem nN_pos: ∀n,1≤nN n
 |0=>by decide
 |1=>by decide
 |n+2=>by have:=nN_pos (n+1);rw[nN];omega;simp
theorem sm3{op:Int}{ys:List Ex}(h:smL ys):(Ex.mk op 0 [] ys).sm:=by rw[Ex.sm_eq];exact⟨Nat.zero_le _,h⟩
section
variable(xs:List Int)(lT:T)(hl:IsSl lT xs.length (ints xs))(scope:Int)(hsc:scope=1∨scope=2∨scope=3)
def exprP(n:Nat):Prop:= ∀(kind:Int) (hk:kind=1∨kind=2∨kind=3∨kind=4) (a:Nat),a+bN n≤100000→ ∃y cs a',DCall pE 51 [.ptr .S 0 1 0,.i .i64 scope,.i .i64 kind,.i .i64 (n:Int)] (srS lT a)=some (.agg cs,srS lT a')∧IsEx y cs∧y.nodes≤nN n∧y.sm∧a'≤a+bN n∧Gd scope kind n y
include hl hsc
theorem expr1:exprP lT scope 1:=by
 intro kind hk a ha
 obtain⟨y,cs,a',hc,hy,hn,hs,hb,g⟩:=bleafT_ev xs lT hl scope hsc kind hk a (by simp[bN]at ha;omega)
 obtain⟨ca,cb,rfl,hq1,hq2⟩:=hy.cells
 rw[p_fun fn51 (by simp[c51])]
 simp(maxDischargeDepth:=6) only[qF,qGO0,qGO1,qGO2,qGO3,qGO4,qGO5,splice,Nat.reduceAdd,reduceCtorEq,Nat.reduceLT,Nat.reduceEqDiff,Int.reduceLE,qKP0,c51,hc,dc94,hq1.froz1]
 exact⟨_,_,_,rfl,hy,by simp[nN];omega,hs,by simp[bN];omega,g⟩
theorem exprS(d:Nat)(h1:1≤d)(h4:d≤3)(ih:exprP lT scope d):exprP lT scope (d+1):=by
 intro kind hk a ha
 have hB:bN (d+1)=4+3*bN d:=by
  cases d with
  |zero=>omega
  |succ d=>rfl
 have hN:nN (d+1)=1+3*nN d:=by
  cases d with
  |zero=>omega
  |succ d=>rfl
 have hb3:=bN_pos d
 have hn1:=nN_pos d
 have e1:bN 1=3:=rfl
 have e2:nN 1=1:=rfl
 rw[hB]at ha
 unfold exprP at ih
 rw[hB,hN]
 generalize bN d=B at*
 generalize nN d=Q at*
 have hgt: ¬(((d+1:Nat):Int))≤1:=by omega
 have hw:wr .i64 (((d+1:Nat):Int)-1)=(d:Int):=by
  rw[show((d+1:Nat):Int)-1=(d:Int)by omega];exact wr64 (by omega)
 obtain⟨r1,hr1,m1⟩:=next_ev xs lT hl a (by omega) 5 (by decide)
 obtain⟨r2,hr2,m2⟩:=next_ev xs lT hl (a+1) (by omega) 6 (by decide)
 obtain⟨r3,hr3,m3⟩:=next_ev xs lT hl (a+1+1) (by omega) 9 (by decide)
 obtain⟨r4,hr4,m4⟩:=next_ev xs lT hl (a+1+1) (by omega) 2 (by decide)
 obtain⟨r5,hr5,m5⟩:=next_ev xs lT hl (a+1+1+1) (by omega) 8 (by decide)
 rw[p_fun fn51 (by simp[c51])]
 generalize hD:((d+1:Nat):Int)=D at*
 by_cases z1:(r1:Int)=0
 ·rw[z1]at m1
  obtain⟨y1,c1,a1,hc1,hy1,hn1,hs1,hb1,g1⟩:=bleafT_ev xs lT hl scope hsc kind hk (a+1) (by omega)
  obtain⟨p1,q1,rfl,u1,w1⟩:=hy1.cells
  simp(maxDischargeDepth:=6) only[qF,qGO0,qGO1,qGO2,qGO3,qGO4,qGO5,splice,Nat.reduceAdd,reduceCtorEq,Nat.reduceLT,Nat.reduceEqDiff,qKP0,c51,hgt,m1,hc1,u1.froz1,dc94,dc93]
  exact⟨_,_,_,rfl,hy1,by omega,hs1,by omega,g1.le (by omega)⟩
 by_cases z2:(r2:Int)=0
 ·rw[z2]at m2
  obtain⟨y1,c1,a1,hc1,hy1,hn1,hs1,hb1,g1⟩:=ih 4 (.inr (.inr (.inr rfl))) (a+1+1) (by first|omega|(simp only[bN];omega))
  obtain⟨y2,c2,a2,hc2,hy2,hn2,hs2,hb2,g2⟩:=ih kind hk a1 (by first|omega|(simp only[bN];omega))
  obtain⟨y3,c3,a3,hc3,hy3,hn3,hs3,hb3,g3⟩:=ih kind hk a2 (by first|omega|(simp only[bN];omega))
  obtain⟨p1,q1,rfl,u1,w1⟩:=hy1.cells
  obtain⟨p2,q2,rfl,u2,w2⟩:=hy2.cells
  obtain⟨p3,q3,rfl,u3,w3⟩:=hy3.cells
  have hsl:IsSl (.sl [.i .i64 y1.op,.i .i64 y1.num,.s y1.name,p1,.i .i64 y2.op,.i .i64 y2.num,.s y2.name,p2,.i .i64 y3.op,.i .i64 y3.num,.s y3.name,p3] 3 true) 3 [.i .i64 y1.op,.i .i64 y1.num,.s y1.name,p1,.i .i64 y2.op,.i .i64 y2.num,.s y2.name,p2,.i .i64 y3.op,.i .i64 y3.num,.s y3.name,p3]:=Or.inr ⟨true,rfl⟩
  have hxx:IsExs [y1,y2,y3] [.i .i64 y1.op,.i .i64 y1.num,.s y1.name,p1,.i .i64 y2.op,.i .i64 y2.num,.s y2.name,p2,.i .i64 y3.op,.i .i64 y3.num,.s y3.name,p3]:=IsExs.cons hy1 (IsExs.cons hy2 (IsExs.cons hy3 (IsExs.nil)))
  have hnd:=node_ev 14 _ _ _ hsl
  have hres:=nodeT_is 14 [y1,y2,y3] _ _ hsl hxx
  simp(maxDischargeDepth:=6) only[qF,qGO0,qGO1,qGO2,qGO3,qGO4,qGO5,bslV,bslW,splice,fills,repl,Nat.reduceAdd,reduceCtorEq,Nat.reduceMul,Nat.reduceLT,Nat.reduceLeDiff,Nat.reduceEqDiff,qKP0,c51,hgt,hw,m1,z1,m2,hc1,hc2,hc3,u1.froz1,u2.froz1,u3.froz1,dc51,dc94,dc93,hnd,dc95]
  refine⟨_,_,_,rfl,hres, ?_,sm3 ⟨hs1,⟨hs2,⟨hs3,trivial⟩⟩⟩,by omega,gd_mk (ts:= [4,kind,kind]) (by decide) (by decide) rfl ⟨g1,⟨g2,⟨g3,trivial⟩⟩⟩ (by rcases hk with h|h|h|h <;> rw[h] <;> decide) (by omega)⟩
  simp only[Ex.nodes,nodesL];omega
 by_cases k1:kind=1
 ·subst k1
  by_cases t0:(r3:Int)=0
  ·rw[t0]at m3
   obtain⟨y1,c1,a1,hc1,hy1,hn1,hs1,hb1,g1⟩:=ih 1 (.inl rfl) (a+1+1+1) (by first|omega|(simp only[bN];omega))
   obtain⟨p1,q1,rfl,u1,w1⟩:=hy1.cells
   have hsl:IsSl (.sl [.i .i64 y1.op,.i .i64 y1.num,.s y1.name,p1] 1 true) 1 [.i .i64 y1.op,.i .i64 y1.num,.s y1.name,p1]:=Or.inr ⟨true,rfl⟩
   have hxx:IsExs [y1] [.i .i64 y1.op,.i .i64 y1.num,.s y1.name,p1]:=IsExs.cons hy1 (IsExs.nil)
   have hnd:=node_ev 7 _ _ _ hsl
   have hres:=nodeT_is 7 [y1] _ _ hsl hxx
   simp(maxDischargeDepth:=6) only[qF,qGO0,qGO1,qGO2,qGO3,qGO4,qGO5,bslV,bslW,splice,fills,repl,Nat.reduceAdd,reduceCtorEq,Nat.reduceLT,Nat.reduceLeDiff,Nat.reduceEqDiff,Int.reduceEq,qKP0,c51,hgt,hw,m1,z1,m2,z2,m3,hc1,u1.froz1,dc51,dc94,dc93,hnd,dc95]
   refine⟨_,_,_,rfl,hres, ?_,sm3 ⟨hs1,trivial⟩,by omega,gd_mk (ts:= [1]) (by decide) (by decide) rfl ⟨g1,trivial⟩ (by decide) (by decide)⟩
   simp only[Ex.nodes,nodesL];omega
  by_cases t1:(r3:Int)=1
  ·rw[t1]at m3
   obtain⟨y1,c1,a1,hc1,hy1,hn1,hs1,hb1,g1⟩:=ih 1 (.inl rfl) (a+1+1+1) (by first|omega|(simp only[bN];omega))
   obtain⟨y2,c2,a2,hc2,hy2,hn2,hs2,hb2,g2⟩:=ih 1 (.inl rfl) a1 (by first|omega|(simp only[bN];omega))
   obtain⟨p1,q1,rfl,u1,w1⟩:=hy1.cells
   obtain⟨p2,q2,rfl,u2,w2⟩:=hy2.cells
   have hsl:IsSl (.sl [.i .i64 y1.op,.i .i64 y1.num,.s y1.name,p1,.i .i64 y2.op,.i .i64 y2.num,.s y2.name,p2] 2 true) 2 [.i .i64 y1.op,.i .i64 y1.num,.s y1.name,p1,.i .i64 y2.op,.i .i64 y2.num,.s y2.name,p2]:=Or.inr ⟨true,rfl⟩
   have hxx:IsExs [y1,y2] [.i .i64 y1.op,.i .i64 y1.num,.s y1.name,p1,.i .i64 y2.op,.i .i64 y2.num,.s y2.name,p2]:=IsExs.cons hy1 (IsExs.cons hy2 (IsExs.nil))
   have hnd:=node_ev 8 _ _ _ hsl
   have hres:=nodeT_is 8 [y1,y2] _ _ hsl hxx
   simp(maxDischargeDepth:=6) only[qF,qGO0,qGO1,qGO2,qGO3,qGO4,qGO5,bslV,bslW,splice,fills,repl,Nat.reduceAdd,reduceCtorEq,Nat.reduceLT,Nat.reduceLeDiff,Nat.reduceEqDiff,Int.reduceEq,qKP0,c51,hgt,hw,m1,z1,m2,z2,m3,hc1,hc2,u1.froz1,u2.froz1,dc51,dc94,dc93,hnd,dc95]
   refine⟨_,_,_,rfl,hres, ?_,sm3 ⟨hs1,⟨hs2,trivial⟩⟩,by omega,gd_mk (ts:= [1,1]) (by decide) (by decide) rfl ⟨g1,⟨g2,trivial⟩⟩ (by decide) (by decide)⟩
   simp only[Ex.nodes,nodesL];omega
  by_cases t2:(r3:Int)=2
  ·rw[t2]at m3
   obtain⟨y1,c1,a1,hc1,hy1,hn1,hs1,hb1,g1⟩:=ih 1 (.inl rfl) (a+1+1+1) (by first|omega|(simp only[bN];omega))
   obtain⟨y2,c2,a2,hc2,hy2,hn2,hs2,hb2,g2⟩:=ih 1 (.inl rfl) a1 (by first|omega|(simp only[bN];omega))
   obtain⟨p1,q1,rfl,u1,w1⟩:=hy1.cells
   obtain⟨p2,q2,rfl,u2,w2⟩:=hy2.cells
   have hsl:IsSl (.sl [.i .i64 y1.op,.i .i64 y1.num,.s y1.name,p1,.i .i64 y2.op,.i .i64 y2.num,.s y2.name,p2] 2 true) 2 [.i .i64 y1.op,.i .i64 y1.num,.s y1.name,p1,.i .i64 y2.op,.i .i64 y2.num,.s y2.name,p2]:=Or.inr ⟨true,rfl⟩
   have hxx:IsExs [y1,y2] [.i .i64 y1.op,.i .i64 y1.num,.s y1.name,p1,.i .i64 y2.op,.i .i64 y2.num,.s y2.name,p2]:=IsExs.cons hy1 (IsExs.cons hy2 (IsExs.nil))
   have hnd:=node_ev 8 _ _ _ hsl
   have hres:=nodeT_is 8 [y1,y2] _ _ hsl hxx
   simp(maxDischargeDepth:=6) only[qF,qGO0,qGO1,qGO2,qGO3,qGO4,qGO5,bslV,bslW,splice,fills,repl,Nat.reduceAdd,reduceCtorEq,Nat.reduceLT,Nat.reduceLeDiff,Nat.reduceEqDiff,Int.reduceEq,qKP0,c51,hgt,hw,m1,z1,m2,z2,m3,hc1,hc2,u1.froz1,u2.froz1,dc51,dc94,dc93,hnd,dc95]
   refine⟨_,_,_,rfl,hres, ?_,sm3 ⟨hs1,⟨hs2,trivial⟩⟩,by omega,gd_mk (ts:= [1,1]) (by decide) (by decide) rfl ⟨g1,⟨g2,trivial⟩⟩ (by decide) (by decide)⟩
   simp only[Ex.nodes,nodesL];omega
  by_cases t3:(r3:Int)=3
  ·rw[t3]at m3
   obtain⟨y1,c1,a1,hc1,hy1,hn1,hs1,hb1,g1⟩:=ih 1 (.inl rfl) (a+1+1+1) (by first|omega|(simp only[bN];omega))
   obtain⟨y2,c2,a2,hc2,hy2,hn2,hs2,hb2,g2⟩:=ih 1 (.inl rfl) a1 (by first|omega|(simp only[bN];omega))
   obtain⟨p1,q1,rfl,u1,w1⟩:=hy1.cells
   obtain⟨p2,q2,rfl,u2,w2⟩:=hy2.cells
   have hsl:IsSl (.sl [.i .i64 y1.op,.i .i64 y1.num,.s y1.name,p1,.i .i64 y2.op,.i .i64 y2.num,.s y2.name,p2] 2 true) 2 [.i .i64 y1.op,.i .i64 y1.num,.s y1.name,p1,.i .i64 y2.op,.i .i64 y2.num,.s y2.name,p2]:=Or.inr ⟨true,rfl⟩
   have hxx:IsExs [y1,y2] [.i .i64 y1.op,.i .i64 y1.num,.s y1.name,p1,.i .i64 y2.op,.i .i64 y2.num,.s y2.name,p2]:=IsExs.cons hy1 (IsExs.cons hy2 (IsExs.nil))
   have hnd:=node_ev 9 _ _ _ hsl
   have hres:=nodeT_is 9 [y1,y2] _ _ hsl hxx
   simp(maxDischargeDepth:=6) only[qF,qGO0,qGO1,qGO2,qGO3,qGO4,qGO5,bslV,bslW,splice,fills,repl,Nat.reduceAdd,reduceCtorEq,Nat.reduceLT,Nat.reduceLeDiff,Nat.reduceEqDiff,Int.reduceEq,qKP0,c51,hgt,hw,m1,z1,m2,z2,m3,hc1,hc2,u1.froz1,u2.froz1,dc51,dc94,dc93,hnd,dc95]
   refine⟨_,_,_,rfl,hres, ?_,sm3 ⟨hs1,⟨hs2,trivial⟩⟩,by omega,gd_mk (ts:= [1,1]) (by decide) (by decide) rfl ⟨g1,⟨g2,trivial⟩⟩ (by decide) (by decide)⟩
   simp only[Ex.nodes,nodesL];omega
  by_cases t4:(r3:Int)=4
  ·rw[t4]at m3
   obtain⟨y1,c1,a1,hc1,hy1,hn1,hs1,hb1,g1⟩:=ih 1 (.inl rfl) (a+1+1+1) (by first|omega|(simp only[bN];omega))
   obtain⟨y2,c2,a2,hc2,hy2,hn2,hs2,hb2,g2⟩:=ih 1 (.inl rfl) a1 (by first|omega|(simp only[bN];omega))
   obtain⟨p1,q1,rfl,u1,w1⟩:=hy1.cells
   obtain⟨p2,q2,rfl,u2,w2⟩:=hy2.cells
   have hsl:IsSl (.sl [.i .i64 y1.op,.i .i64 y1.num,.s y1.name,p1,.i .i64 y2.op,.i .i64 y2.num,.s y2.name,p2] 2 true) 2 [.i .i64 y1.op,.i .i64 y1.num,.s y1.name,p1,.i .i64 y2.op,.i .i64 y2.num,.s y2.name,p2]:=Or.inr ⟨true,rfl⟩
   have hxx:IsExs [y1,y2] [.i .i64 y1.op,.i .i64 y1.num,.s y1.name,p1,.i .i64 y2.op,.i .i64 y2.num,.s y2.name,p2]:=IsExs.cons hy1 (IsExs.cons hy2 (IsExs.nil))
   have hnd:=node_ev 10 _ _ _ hsl
   have hres:=nodeT_is 10 [y1,y2] _ _ hsl hxx
   simp(maxDischargeDepth:=6) only[qF,qGO0,qGO1,qGO2,qGO3,qGO4,qGO5,bslV,bslW,splice,fills,repl,Nat.reduceAdd,reduceCtorEq,Nat.reduceLT,Nat.reduceLeDiff,Nat.reduceEqDiff,Int.reduceEq,qKP0,c51,hgt,hw,m1,z1,m2,z2,m3,hc1,hc2,u1.froz1,u2.froz1,dc51,dc94,dc93,hnd,dc95]
   refine⟨_,_,_,rfl,hres, ?_,sm3 ⟨hs1,⟨hs2,trivial⟩⟩,by omega,gd_mk (ts:= [1,1]) (by decide) (by decide) rfl ⟨g1,⟨g2,trivial⟩⟩ (by decide) (by decide)⟩
   simp only[Ex.nodes,nodesL];omega
  by_cases t5:(r3:Int)=5
  ·rw[t5]at m3
   obtain⟨y1,c1,a1,hc1,hy1,hn1,hs1,hb1,g1⟩:=ih 1 (.inl rfl) (a+1+1+1) (by first|omega|(simp only[bN];omega))
   obtain⟨y2,c2,a2,hc2,hy2,hn2,hs2,hb2,g2⟩:=ih 1 (.inl rfl) a1 (by first|omega|(simp only[bN];omega))
   obtain⟨p1,q1,rfl,u1,w1⟩:=hy1.cells
   obtain⟨p2,q2,rfl,u2,w2⟩:=hy2.cells
   have hsl:IsSl (.sl [.i .i64 y1.op,.i .i64 y1.num,.s y1.name,p1,.i .i64 y2.op,.i .i64 y2.num,.s y2.name,p2] 2 true) 2 [.i .i64 y1.op,.i .i64 y1.num,.s y1.name,p1,.i .i64 y2.op,.i .i64 y2.num,.s y2.name,p2]:=Or.inr ⟨true,rfl⟩
   have hxx:IsExs [y1,y2] [.i .i64 y1.op,.i .i64 y1.num,.s y1.name,p1,.i .i64 y2.op,.i .i64 y2.num,.s y2.name,p2]:=IsExs.cons hy1 (IsExs.cons hy2 (IsExs.nil))
   have hnd:=node_ev 11 _ _ _ hsl
   have hres:=nodeT_is 11 [y1,y2] _ _ hsl hxx
   simp(maxDischargeDepth:=6) only[qF,qGO0,qGO1,qGO2,qGO3,qGO4,qGO5,bslV,bslW,splice,fills,repl,Nat.reduceAdd,reduceCtorEq,Nat.reduceLT,Nat.reduceLeDiff,Nat.reduceEqDiff,Int.reduceEq,qKP0,c51,hgt,hw,m1,z1,m2,z2,m3,hc1,hc2,u1.froz1,u2.froz1,dc51,dc94,dc93,hnd,dc95]
   refine⟨_,_,_,rfl,hres, ?_,sm3 ⟨hs1,⟨hs2,trivial⟩⟩,by omega,gd_mk (ts:= [1,1]) (by decide) (by decide) rfl ⟨g1,⟨g2,trivial⟩⟩ (by decide) (by decide)⟩
   simp only[Ex.nodes,nodesL];omega
  by_cases t6:(r3:Int)=6
  ·rw[t6]at m3
   obtain⟨y1,c1,a1,hc1,hy1,hn1,hs1,hb1,g1⟩:=ih 1 (.inl rfl) (a+1+1+1) (by first|omega|(simp only[bN];omega))
   obtain⟨y2,c2,a2,hc2,hy2,hn2,hs2,hb2,g2⟩:=ih 1 (.inl rfl) a1 (by first|omega|(simp only[bN];omega))
   obtain⟨p1,q1,rfl,u1,w1⟩:=hy1.cells
   obtain⟨p2,q2,rfl,u2,w2⟩:=hy2.cells
   have hsl:IsSl (.sl [.i .i64 y1.op,.i .i64 y1.num,.s y1.name,p1,.i .i64 y2.op,.i .i64 y2.num,.s y2.name,p2] 2 true) 2 [.i .i64 y1.op,.i .i64 y1.num,.s y1.name,p1,.i .i64 y2.op,.i .i64 y2.num,.s y2.name,p2]:=Or.inr ⟨true,rfl⟩
   have hxx:IsExs [y1,y2] [.i .i64 y1.op,.i .i64 y1.num,.s y1.name,p1,.i .i64 y2.op,.i .i64 y2.num,.s y2.name,p2]:=IsExs.cons hy1 (IsExs.cons hy2 (IsExs.nil))
   have hnd:=node_ev 12 _ _ _ hsl
   have hres:=nodeT_is 12 [y1,y2] _ _ hsl hxx
   simp(maxDischargeDepth:=6) only[qF,qGO0,qGO1,qGO2,qGO3,qGO4,qGO5,bslV,bslW,splice,fills,repl,Nat.reduceAdd,reduceCtorEq,Nat.reduceLT,Nat.reduceLeDiff,Nat.reduceEqDiff,Int.reduceEq,qKP0,c51,hgt,hw,m1,z1,m2,z2,m3,hc1,hc2,u1.froz1,u2.froz1,dc51,dc94,dc93,hnd,dc95]
   refine⟨_,_,_,rfl,hres, ?_,sm3 ⟨hs1,⟨hs2,trivial⟩⟩,by omega,gd_mk (ts:= [1,1]) (by decide) (by decide) rfl ⟨g1,⟨g2,trivial⟩⟩ (by decide) (by decide)⟩
   simp only[Ex.nodes,nodesL];omega
  by_cases t7:(r3:Int)=7
  ·rw[t7]at m3
   obtain⟨y1,c1,a1,hc1,hy1,hn1,hs1,hb1,g1⟩:=ih 1 (.inl rfl) (a+1+1+1) (by first|omega|(simp only[bN];omega))
   obtain⟨y2,c2,a2,hc2,hy2,hn2,hs2,hb2,g2⟩:=ih 1 (.inl rfl) a1 (by first|omega|(simp only[bN];omega))
   obtain⟨y3,c3,a3,hc3,hy3,hn3,hs3,hb3,g3⟩:=(expr1 xs lT hl scope hsc) 1 (.inl rfl) a2 (by first|omega|(simp only[bN];omega))
   rw[show((1:Nat):Int)=1 from rfl]at hc3
   obtain⟨p1,q1,rfl,u1,w1⟩:=hy1.cells
   obtain⟨p2,q2,rfl,u2,w2⟩:=hy2.cells
   obtain⟨p3,q3,rfl,u3,w3⟩:=hy3.cells
   have hsl:IsSl (.sl [.i .i64 y1.op,.i .i64 y1.num,.s y1.name,p1,.i .i64 y2.op,.i .i64 y2.num,.s y2.name,p2,.i .i64 y3.op,.i .i64 y3.num,.s y3.name,p3] 3 true) 3 [.i .i64 y1.op,.i .i64 y1.num,.s y1.name,p1,.i .i64 y2.op,.i .i64 y2.num,.s y2.name,p2,.i .i64 y3.op,.i .i64 y3.num,.s y3.name,p3]:=Or.inr ⟨true,rfl⟩
   have hxx:IsExs [y1,y2,y3] [.i .i64 y1.op,.i .i64 y1.num,.s y1.name,p1,.i .i64 y2.op,.i .i64 y2.num,.s y2.name,p2,.i .i64 y3.op,.i .i64 y3.num,.s y3.name,p3]:=IsExs.cons hy1 (IsExs.cons hy2 (IsExs.cons hy3 (IsExs.nil)))
   have hnd:=node_ev 13 _ _ _ hsl
   have hres:=nodeT_is 13 [y1,y2,y3] _ _ hsl hxx
   simp(maxDischargeDepth:=6) only[qF,qGO0,qGO1,qGO2,qGO3,qGO4,qGO5,bslV,bslW,splice,fills,repl,Nat.reduceAdd,reduceCtorEq,Nat.reduceMul,Nat.reduceLT,Nat.reduceLeDiff,Nat.reduceEqDiff,Int.reduceEq,qKP0,c51,hgt,hw,m1,z1,m2,z2,m3,hc1,hc2,hc3,u1.froz1,u2.froz1,u3.froz1,dc51,dc94,dc93,hnd,dc95]
   refine⟨_,_,_,rfl,hres, ?_,sm3 ⟨hs1,⟨hs2,⟨hs3,trivial⟩⟩⟩,by omega,gd_mk (ts:= [1,1,1]) (by decide) (by decide) rfl ⟨g1,⟨g2,⟨g3.le h1,trivial⟩⟩⟩ (by decide) (by decide)⟩
   simp only[Ex.nodes,nodesL];omega
  obtain⟨y1,c1,a1,hc1,hy1,hn1,hs1,hb1,g1⟩:=ih 2 (.inr (.inl rfl)) (a+1+1+1) (by first|omega|(simp only[bN];omega))
  obtain⟨y2,c2,a2,hc2,hy2,hn2,hs2,hb2,g2⟩:=ih 2 (.inr (.inl rfl)) a1 (by first|omega|(simp only[bN];omega))
  obtain⟨p1,q1,rfl,u1,w1⟩:=hy1.cells
  obtain⟨p2,q2,rfl,u2,w2⟩:=hy2.cells
  have hsl:IsSl (.sl [.i .i64 y1.op,.i .i64 y1.num,.s y1.name,p1,.i .i64 y2.op,.i .i64 y2.num,.s y2.name,p2] 2 true) 2 [.i .i64 y1.op,.i .i64 y1.num,.s y1.name,p1,.i .i64 y2.op,.i .i64 y2.num,.s y2.name,p2]:=Or.inr ⟨true,rfl⟩
  have hxx:IsExs [y1,y2] [.i .i64 y1.op,.i .i64 y1.num,.s y1.name,p1,.i .i64 y2.op,.i .i64 y2.num,.s y2.name,p2]:=IsExs.cons hy1 (IsExs.cons hy2 (IsExs.nil))
  have hnd:=node_ev 11 _ _ _ hsl
  have hres:=nodeT_is 11 [y1,y2] _ _ hsl hxx
  simp(maxDischargeDepth:=6) only[qF,qGO0,qGO1,qGO2,qGO3,qGO4,qGO5,bslV,bslW,splice,fills,repl,Nat.reduceAdd,reduceCtorEq,Nat.reduceLT,Nat.reduceLeDiff,Nat.reduceEqDiff,Int.reduceEq,qKP0,c51,hgt,hw,m1,z1,m2,z2,m3,t0,t1,t2,t3,t4,t5,t6,t7,hc1,hc2,u1.froz1,u2.froz1,dc51,dc94,dc93,hnd,dc95]
  refine⟨_,_,_,rfl,hres, ?_,sm3 ⟨hs1,⟨hs2,trivial⟩⟩,by omega,gd_mk (ts:= [2,2]) (by decide) (by decide) rfl ⟨g1,⟨g2,trivial⟩⟩ (by decide) (by decide)⟩
  simp only[Ex.nodes,nodesL];omega
 by_cases k2:kind=2
 ·subst k2
  by_cases t0:(r3:Int)=0
  ·rw[t0]at m3
   obtain⟨y1,c1,a1,hc1,hy1,hn1,hs1,hb1,g1⟩:=ih 2 (.inr (.inl rfl)) (a+1+1+1) (by first|omega|(simp only[bN];omega))
   obtain⟨p1,q1,rfl,u1,w1⟩:=hy1.cells
   have hsl:IsSl (.sl [.i .i64 y1.op,.i .i64 y1.num,.s y1.name,p1] 1 true) 1 [.i .i64 y1.op,.i .i64 y1.num,.s y1.name,p1]:=Or.inr ⟨true,rfl⟩
   have hxx:IsExs [y1] [.i .i64 y1.op,.i .i64 y1.num,.s y1.name,p1]:=IsExs.cons hy1 (IsExs.nil)
   have hnd:=node_ev 7 _ _ _ hsl
   have hres:=nodeT_is 7 [y1] _ _ hsl hxx
   simp(maxDischargeDepth:=6) only[qF,qGO0,qGO1,qGO2,qGO3,qGO4,qGO5,bslV,bslW,splice,fills,repl,Nat.reduceAdd,reduceCtorEq,Nat.reduceLT,Nat.reduceLeDiff,Nat.reduceEqDiff,Int.reduceEq,qKP0,c51,hgt,hw,m1,z1,m2,z2,m3,hc1,u1.froz1,dc51,dc94,dc93,hnd,dc95]
   refine⟨_,_,_,rfl,hres, ?_,sm3 ⟨hs1,trivial⟩,by omega,gd_mk (ts:= [2]) (by decide) (by decide) rfl ⟨g1,trivial⟩ (by decide) (by decide)⟩
   simp only[Ex.nodes,nodesL];omega
  by_cases t1:(r3:Int)=1
  ·rw[t1]at m3
   obtain⟨y1,c1,a1,hc1,hy1,hn1,hs1,hb1,g1⟩:=ih 2 (.inr (.inl rfl)) (a+1+1+1) (by first|omega|(simp only[bN];omega))
   obtain⟨y2,c2,a2,hc2,hy2,hn2,hs2,hb2,g2⟩:=ih 2 (.inr (.inl rfl)) a1 (by first|omega|(simp only[bN];omega))
   obtain⟨p1,q1,rfl,u1,w1⟩:=hy1.cells
   obtain⟨p2,q2,rfl,u2,w2⟩:=hy2.cells
   have hsl:IsSl (.sl [.i .i64 y1.op,.i .i64 y1.num,.s y1.name,p1,.i .i64 y2.op,.i .i64 y2.num,.s y2.name,p2] 2 true) 2 [.i .i64 y1.op,.i .i64 y1.num,.s y1.name,p1,.i .i64 y2.op,.i .i64 y2.num,.s y2.name,p2]:=Or.inr ⟨true,rfl⟩
   have hxx:IsExs [y1,y2] [.i .i64 y1.op,.i .i64 y1.num,.s y1.name,p1,.i .i64 y2.op,.i .i64 y2.num,.s y2.name,p2]:=IsExs.cons hy1 (IsExs.cons hy2 (IsExs.nil))
   have hnd:=node_ev 8 _ _ _ hsl
   have hres:=nodeT_is 8 [y1,y2] _ _ hsl hxx
   simp(maxDischargeDepth:=6) only[qF,qGO0,qGO1,qGO2,qGO3,qGO4,qGO5,bslV,bslW,splice,fills,repl,Nat.reduceAdd,reduceCtorEq,Nat.reduceLT,Nat.reduceLeDiff,Nat.reduceEqDiff,Int.reduceEq,qKP0,c51,hgt,hw,m1,z1,m2,z2,m3,hc1,hc2,u1.froz1,u2.froz1,dc51,dc94,dc93,hnd,dc95]
   refine⟨_,_,_,rfl,hres, ?_,sm3 ⟨hs1,⟨hs2,trivial⟩⟩,by omega,gd_mk (ts:= [2,2]) (by decide) (by decide) rfl ⟨g1,⟨g2,trivial⟩⟩ (by decide) (by decide)⟩
   simp only[Ex.nodes,nodesL];omega
  by_cases t2:(r3:Int)=2
  ·rw[t2]at m3
   obtain⟨y1,c1,a1,hc1,hy1,hn1,hs1,hb1,g1⟩:=ih 2 (.inr (.inl rfl)) (a+1+1+1) (by first|omega|(simp only[bN];omega))
   obtain⟨y2,c2,a2,hc2,hy2,hn2,hs2,hb2,g2⟩:=ih 2 (.inr (.inl rfl)) a1 (by first|omega|(simp only[bN];omega))
   obtain⟨p1,q1,rfl,u1,w1⟩:=hy1.cells
   obtain⟨p2,q2,rfl,u2,w2⟩:=hy2.cells
   have hsl:IsSl (.sl [.i .i64 y1.op,.i .i64 y1.num,.s y1.name,p1,.i .i64 y2.op,.i .i64 y2.num,.s y2.name,p2] 2 true) 2 [.i .i64 y1.op,.i .i64 y1.num,.s y1.name,p1,.i .i64 y2.op,.i .i64 y2.num,.s y2.name,p2]:=Or.inr ⟨true,rfl⟩
   have hxx:IsExs [y1,y2] [.i .i64 y1.op,.i .i64 y1.num,.s y1.name,p1,.i .i64 y2.op,.i .i64 y2.num,.s y2.name,p2]:=IsExs.cons hy1 (IsExs.cons hy2 (IsExs.nil))
   have hnd:=node_ev 8 _ _ _ hsl
   have hres:=nodeT_is 8 [y1,y2] _ _ hsl hxx
   simp(maxDischargeDepth:=6) only[qF,qGO0,qGO1,qGO2,qGO3,qGO4,qGO5,bslV,bslW,splice,fills,repl,Nat.reduceAdd,reduceCtorEq,Nat.reduceLT,Nat.reduceLeDiff,Nat.reduceEqDiff,Int.reduceEq,qKP0,c51,hgt,hw,m1,z1,m2,z2,m3,hc1,hc2,u1.froz1,u2.froz1,dc51,dc94,dc93,hnd,dc95]
   refine⟨_,_,_,rfl,hres, ?_,sm3 ⟨hs1,⟨hs2,trivial⟩⟩,by omega,gd_mk (ts:= [2,2]) (by decide) (by decide) rfl ⟨g1,⟨g2,trivial⟩⟩ (by decide) (by decide)⟩
   simp only[Ex.nodes,nodesL];omega
  by_cases t3:(r3:Int)=3
  ·rw[t3]at m3
   obtain⟨y1,c1,a1,hc1,hy1,hn1,hs1,hb1,g1⟩:=ih 2 (.inr (.inl rfl)) (a+1+1+1) (by first|omega|(simp only[bN];omega))
   obtain⟨y2,c2,a2,hc2,hy2,hn2,hs2,hb2,g2⟩:=ih 2 (.inr (.inl rfl)) a1 (by first|omega|(simp only[bN];omega))
   obtain⟨p1,q1,rfl,u1,w1⟩:=hy1.cells
   obtain⟨p2,q2,rfl,u2,w2⟩:=hy2.cells
   have hsl:IsSl (.sl [.i .i64 y1.op,.i .i64 y1.num,.s y1.name,p1,.i .i64 y2.op,.i .i64 y2.num,.s y2.name,p2] 2 true) 2 [.i .i64 y1.op,.i .i64 y1.num,.s y1.name,p1,.i .i64 y2.op,.i .i64 y2.num,.s y2.name,p2]:=Or.inr ⟨true,rfl⟩
   have hxx:IsExs [y1,y2] [.i .i64 y1.op,.i .i64 y1.num,.s y1.name,p1,.i .i64 y2.op,.i .i64 y2.num,.s y2.name,p2]:=IsExs.cons hy1 (IsExs.cons hy2 (IsExs.nil))
   have hnd:=node_ev 9 _ _ _ hsl
   have hres:=nodeT_is 9 [y1,y2] _ _ hsl hxx
   simp(maxDischargeDepth:=6) only[qF,qGO0,qGO1,qGO2,qGO3,qGO4,qGO5,bslV,bslW,splice,fills,repl,Nat.reduceAdd,reduceCtorEq,Nat.reduceLT,Nat.reduceLeDiff,Nat.reduceEqDiff,Int.reduceEq,qKP0,c51,hgt,hw,m1,z1,m2,z2,m3,hc1,hc2,u1.froz1,u2.froz1,dc51,dc94,dc93,hnd,dc95]
   refine⟨_,_,_,rfl,hres, ?_,sm3 ⟨hs1,⟨hs2,trivial⟩⟩,by omega,gd_mk (ts:= [2,2]) (by decide) (by decide) rfl ⟨g1,⟨g2,trivial⟩⟩ (by decide) (by decide)⟩
   simp only[Ex.nodes,nodesL];omega
  by_cases t4:(r3:Int)=4
  ·rw[t4]at m3
   obtain⟨y1,c1,a1,hc1,hy1,hn1,hs1,hb1,g1⟩:=ih 1 (.inl rfl) (a+1+1+1) (by first|omega|(simp only[bN];omega))
   obtain⟨y2,c2,a2,hc2,hy2,hn2,hs2,hb2,g2⟩:=ih 2 (.inr (.inl rfl)) a1 (by first|omega|(simp only[bN];omega))
   obtain⟨p1,q1,rfl,u1,w1⟩:=hy1.cells
   obtain⟨p2,q2,rfl,u2,w2⟩:=hy2.cells
   have hsl:IsSl (.sl [.i .i64 y1.op,.i .i64 y1.num,.s y1.name,p1,.i .i64 y2.op,.i .i64 y2.num,.s y2.name,p2] 2 true) 2 [.i .i64 y1.op,.i .i64 y1.num,.s y1.name,p1,.i .i64 y2.op,.i .i64 y2.num,.s y2.name,p2]:=Or.inr ⟨true,rfl⟩
   have hxx:IsExs [y1,y2] [.i .i64 y1.op,.i .i64 y1.num,.s y1.name,p1,.i .i64 y2.op,.i .i64 y2.num,.s y2.name,p2]:=IsExs.cons hy1 (IsExs.cons hy2 (IsExs.nil))
   have hnd:=node_ev 10 _ _ _ hsl
   have hres:=nodeT_is 10 [y1,y2] _ _ hsl hxx
   simp(maxDischargeDepth:=6) only[qF,qGO0,qGO1,qGO2,qGO3,qGO4,qGO5,bslV,bslW,splice,fills,repl,Nat.reduceAdd,reduceCtorEq,Nat.reduceLT,Nat.reduceLeDiff,Nat.reduceEqDiff,Int.reduceEq,qKP0,c51,hgt,hw,m1,z1,m2,z2,m3,hc1,hc2,u1.froz1,u2.froz1,dc51,dc94,dc93,hnd,dc95]
   refine⟨_,_,_,rfl,hres, ?_,sm3 ⟨hs1,⟨hs2,trivial⟩⟩,by omega,gd_mk (ts:= [1,2]) (by decide) (by decide) rfl ⟨g1,⟨g2,trivial⟩⟩ (by decide) (by decide)⟩
   simp only[Ex.nodes,nodesL];omega
  by_cases t5:(r3:Int)=5
  ·rw[t5]at m3
   obtain⟨y1,c1,a1,hc1,hy1,hn1,hs1,hb1,g1⟩:=ih 2 (.inr (.inl rfl)) (a+1+1+1) (by first|omega|(simp only[bN];omega))
   obtain⟨y2,c2,a2,hc2,hy2,hn2,hs2,hb2,g2⟩:=ih 1 (.inl rfl) a1 (by first|omega|(simp only[bN];omega))
   obtain⟨p1,q1,rfl,u1,w1⟩:=hy1.cells
   obtain⟨p2,q2,rfl,u2,w2⟩:=hy2.cells
   have hsl:IsSl (.sl [.i .i64 y1.op,.i .i64 y1.num,.s y1.name,p1,.i .i64 y2.op,.i .i64 y2.num,.s y2.name,p2] 2 true) 2 [.i .i64 y1.op,.i .i64 y1.num,.s y1.name,p1,.i .i64 y2.op,.i .i64 y2.num,.s y2.name,p2]:=Or.inr ⟨true,rfl⟩
   have hxx:IsExs [y1,y2] [.i .i64 y1.op,.i .i64 y1.num,.s y1.name,p1,.i .i64 y2.op,.i .i64 y2.num,.s y2.name,p2]:=IsExs.cons hy1 (IsExs.cons hy2 (IsExs.nil))
   have hnd:=node_ev 11 _ _ _ hsl
   have hres:=nodeT_is 11 [y1,y2] _ _ hsl hxx
   simp(maxDischargeDepth:=6) only[qF,qGO0,qGO1,qGO2,qGO3,qGO4,qGO5,bslV,bslW,splice,fills,repl,Nat.reduceAdd,reduceCtorEq,Nat.reduceLT,Nat.reduceLeDiff,Nat.reduceEqDiff,Int.reduceEq,qKP0,c51,hgt,hw,m1,z1,m2,z2,m3,hc1,hc2,u1.froz1,u2.froz1,dc51,dc94,dc93,hnd,dc95]
   refine⟨_,_,_,rfl,hres, ?_,sm3 ⟨hs1,⟨hs2,trivial⟩⟩,by omega,gd_mk (ts:= [2,1]) (by decide) (by decide) rfl ⟨g1,⟨g2,trivial⟩⟩ (by decide) (by decide)⟩
   simp only[Ex.nodes,nodesL];omega
  by_cases t6:(r3:Int)=6
  ·rw[t6]at m3
   obtain⟨y1,c1,a1,hc1,hy1,hn1,hs1,hb1,g1⟩:=ih 2 (.inr (.inl rfl)) (a+1+1+1) (by first|omega|(simp only[bN];omega))
   obtain⟨y2,c2,a2,hc2,hy2,hn2,hs2,hb2,g2⟩:=ih 2 (.inr (.inl rfl)) a1 (by first|omega|(simp only[bN];omega))
   obtain⟨p1,q1,rfl,u1,w1⟩:=hy1.cells
   obtain⟨p2,q2,rfl,u2,w2⟩:=hy2.cells
   have hsl:IsSl (.sl [.i .i64 y1.op,.i .i64 y1.num,.s y1.name,p1,.i .i64 y2.op,.i .i64 y2.num,.s y2.name,p2] 2 true) 2 [.i .i64 y1.op,.i .i64 y1.num,.s y1.name,p1,.i .i64 y2.op,.i .i64 y2.num,.s y2.name,p2]:=Or.inr ⟨true,rfl⟩
   have hxx:IsExs [y1,y2] [.i .i64 y1.op,.i .i64 y1.num,.s y1.name,p1,.i .i64 y2.op,.i .i64 y2.num,.s y2.name,p2]:=IsExs.cons hy1 (IsExs.cons hy2 (IsExs.nil))
   have hnd:=node_ev 12 _ _ _ hsl
   have hres:=nodeT_is 12 [y1,y2] _ _ hsl hxx
   simp(maxDischargeDepth:=6) only[qF,qGO0,qGO1,qGO2,qGO3,qGO4,qGO5,bslV,bslW,splice,fills,repl,Nat.reduceAdd,reduceCtorEq,Nat.reduceLT,Nat.reduceLeDiff,Nat.reduceEqDiff,Int.reduceEq,qKP0,c51,hgt,hw,m1,z1,m2,z2,m3,hc1,hc2,u1.froz1,u2.froz1,dc51,dc94,dc93,hnd,dc95]
   refine⟨_,_,_,rfl,hres, ?_,sm3 ⟨hs1,⟨hs2,trivial⟩⟩,by omega,gd_mk (ts:= [2,2]) (by decide) (by decide) rfl ⟨g1,⟨g2,trivial⟩⟩ (by decide) (by decide)⟩
   simp only[Ex.nodes,nodesL];omega
  by_cases t7:(r3:Int)=7
  ·rw[t7]at m3
   obtain⟨y1,c1,a1,hc1,hy1,hn1,hs1,hb1,g1⟩:=ih 2 (.inr (.inl rfl)) (a+1+1+1) (by first|omega|(simp only[bN];omega))
   obtain⟨y2,c2,a2,hc2,hy2,hn2,hs2,hb2,g2⟩:=ih 2 (.inr (.inl rfl)) a1 (by first|omega|(simp only[bN];omega))
   obtain⟨y3,c3,a3,hc3,hy3,hn3,hs3,hb3,g3⟩:=(expr1 xs lT hl scope hsc) 2 (.inr (.inl rfl)) a2 (by first|omega|(simp only[bN];omega))
   rw[show((1:Nat):Int)=1 from rfl]at hc3
   obtain⟨p1,q1,rfl,u1,w1⟩:=hy1.cells
   obtain⟨p2,q2,rfl,u2,w2⟩:=hy2.cells
   obtain⟨p3,q3,rfl,u3,w3⟩:=hy3.cells
   have hsl:IsSl (.sl [.i .i64 y1.op,.i .i64 y1.num,.s y1.name,p1,.i .i64 y2.op,.i .i64 y2.num,.s y2.name,p2,.i .i64 y3.op,.i .i64 y3.num,.s y3.name,p3] 3 true) 3 [.i .i64 y1.op,.i .i64 y1.num,.s y1.name,p1,.i .i64 y2.op,.i .i64 y2.num,.s y2.name,p2,.i .i64 y3.op,.i .i64 y3.num,.s y3.name,p3]:=Or.inr ⟨true,rfl⟩
   have hxx:IsExs [y1,y2,y3] [.i .i64 y1.op,.i .i64 y1.num,.s y1.name,p1,.i .i64 y2.op,.i .i64 y2.num,.s y2.name,p2,.i .i64 y3.op,.i .i64 y3.num,.s y3.name,p3]:=IsExs.cons hy1 (IsExs.cons hy2 (IsExs.cons hy3 (IsExs.nil)))
   have hnd:=node_ev 13 _ _ _ hsl
   have hres:=nodeT_is 13 [y1,y2,y3] _ _ hsl hxx
   simp(maxDischargeDepth:=6) only[qF,qGO0,qGO1,qGO2,qGO3,qGO4,qGO5,bslV,bslW,splice,fills,repl,Nat.reduceAdd,reduceCtorEq,Nat.reduceMul,Nat.reduceLT,Nat.reduceLeDiff,Nat.reduceEqDiff,Int.reduceEq,qKP0,c51,hgt,hw,m1,z1,m2,z2,m3,hc1,hc2,hc3,u1.froz1,u2.froz1,u3.froz1,dc51,dc94,dc93,hnd,dc95]
   refine⟨_,_,_,rfl,hres, ?_,sm3 ⟨hs1,⟨hs2,⟨hs3,trivial⟩⟩⟩,by omega,gd_mk (ts:= [2,2,2]) (by decide) (by decide) rfl ⟨g1,⟨g2,⟨g3.le h1,trivial⟩⟩⟩ (by decide) (by decide)⟩
   simp only[Ex.nodes,nodesL];omega
  obtain⟨y1,c1,a1,hc1,hy1,hn1,hs1,hb1,g1⟩:=ih 2 (.inr (.inl rfl)) (a+1+1+1) (by first|omega|(simp only[bN];omega))
  obtain⟨y2,c2,a2,hc2,hy2,hn2,hs2,hb2,g2⟩:=ih 1 (.inl rfl) a1 (by first|omega|(simp only[bN];omega))
  obtain⟨p1,q1,rfl,u1,w1⟩:=hy1.cells
  obtain⟨p2,q2,rfl,u2,w2⟩:=hy2.cells
  have hsl:IsSl (.sl [.i .i64 y1.op,.i .i64 y1.num,.s y1.name,p1,.i .i64 y2.op,.i .i64 y2.num,.s y2.name,p2] 2 true) 2 [.i .i64 y1.op,.i .i64 y1.num,.s y1.name,p1,.i .i64 y2.op,.i .i64 y2.num,.s y2.name,p2]:=Or.inr ⟨true,rfl⟩
  have hxx:IsExs [y1,y2] [.i .i64 y1.op,.i .i64 y1.num,.s y1.name,p1,.i .i64 y2.op,.i .i64 y2.num,.s y2.name,p2]:=IsExs.cons hy1 (IsExs.cons hy2 (IsExs.nil))
  have hnd:=node_ev 10 _ _ _ hsl
  have hres:=nodeT_is 10 [y1,y2] _ _ hsl hxx
  simp(maxDischargeDepth:=6) only[qF,qGO0,qGO1,qGO2,qGO3,qGO4,qGO5,bslV,bslW,splice,fills,repl,Nat.reduceAdd,reduceCtorEq,Nat.reduceLT,Nat.reduceLeDiff,Nat.reduceEqDiff,Int.reduceEq,qKP0,c51,hgt,hw,m1,z1,m2,z2,m3,t0,t1,t2,t3,t4,t5,t6,t7,hc1,hc2,u1.froz1,u2.froz1,dc51,dc94,dc93,hnd,dc95]
  refine⟨_,_,_,rfl,hres, ?_,sm3 ⟨hs1,⟨hs2,trivial⟩⟩,by omega,gd_mk (ts:= [2,1]) (by decide) (by decide) rfl ⟨g1,⟨g2,trivial⟩⟩ (by decide) (by decide)⟩
  simp only[Ex.nodes,nodesL];omega
 by_cases k4:kind=4
 ·subst k4
  have hia:=fun ex kk=>int_at (a:= .sl [T.i .i64 1,T.i .i64 2] 2 ex) (ts:= [1,2]) (Or.inr ⟨ex,rfl⟩) (k:=r4) (by show r4<2;omega) kk
  have hK12:([1,2]:List Int)[r4]'(by show r4<2;omega)=1∨([1,2]:List Int)[r4]'(by show r4<2;omega)=2:=(by decide: ∀v∈([1,2]:List Int),v=1∨v=2) _ (List.getElem_mem _)
  generalize hK:([1,2]:List Int)[r4]'(by show r4<2;omega)=K at hia hK12
  have hKk:K=1∨K=2∨K=3∨K=4:=by omega
  by_cases t0:(r5:Int)=0
  ·rw[t0]at m5
   obtain⟨y1,c1,a1,hc1,hy1,hn1,hs1,hb1,g1⟩:=ih 4 (.inr (.inr (.inr rfl))) (a+1+1+1+1) (by first|omega|(simp only[bN];omega))
   obtain⟨p1,q1,rfl,u1,w1⟩:=hy1.cells
   have hsl:IsSl (.sl [.i .i64 y1.op,.i .i64 y1.num,.s y1.name,p1] 1 true) 1 [.i .i64 y1.op,.i .i64 y1.num,.s y1.name,p1]:=Or.inr ⟨true,rfl⟩
   have hxx:IsExs [y1] [.i .i64 y1.op,.i .i64 y1.num,.s y1.name,p1]:=IsExs.cons hy1 (IsExs.nil)
   have hnd:=node_ev 19 _ _ _ hsl
   have hres:=nodeT_is 19 [y1] _ _ hsl hxx
   simp(maxDischargeDepth:=6) only[qF,qGO0,qGO1,qGO2,qGO3,qGO4,qGO5,bslV,bslW,splice,fills,repl,Nat.reduceAdd,reduceCtorEq,Nat.reduceLT,Nat.reduceLeDiff,Nat.reduceEqDiff,Int.reduceEq,qKP0,c51,hgt,hw,m1,z1,m2,z2,m4,hia,m5,hc1,u1.froz1,dc51,dc94,dc93,hnd,dc95]
   refine⟨_,_,_,rfl,hres, ?_,sm3 ⟨hs1,trivial⟩,by omega,gd_mk (ts:= [4]) (by decide) (by decide) rfl ⟨g1,trivial⟩ (by decide) (by decide)⟩
   simp only[Ex.nodes,nodesL];omega
  by_cases t1:(r5:Int)=1
  ·rw[t1]at m5
   obtain⟨y1,c1,a1,hc1,hy1,hn1,hs1,hb1,g1⟩:=ih 4 (.inr (.inr (.inr rfl))) (a+1+1+1+1) (by first|omega|(simp only[bN];omega))
   obtain⟨y2,c2,a2,hc2,hy2,hn2,hs2,hb2,g2⟩:=ih 4 (.inr (.inr (.inr rfl))) a1 (by first|omega|(simp only[bN];omega))
   obtain⟨p1,q1,rfl,u1,w1⟩:=hy1.cells
   obtain⟨p2,q2,rfl,u2,w2⟩:=hy2.cells
   have hsl:IsSl (.sl [.i .i64 y1.op,.i .i64 y1.num,.s y1.name,p1,.i .i64 y2.op,.i .i64 y2.num,.s y2.name,p2] 2 true) 2 [.i .i64 y1.op,.i .i64 y1.num,.s y1.name,p1,.i .i64 y2.op,.i .i64 y2.num,.s y2.name,p2]:=Or.inr ⟨true,rfl⟩
   have hxx:IsExs [y1,y2] [.i .i64 y1.op,.i .i64 y1.num,.s y1.name,p1,.i .i64 y2.op,.i .i64 y2.num,.s y2.name,p2]:=IsExs.cons hy1 (IsExs.cons hy2 (IsExs.nil))
   have hnd:=node_ev 20 _ _ _ hsl
   have hres:=nodeT_is 20 [y1,y2] _ _ hsl hxx
   simp(maxDischargeDepth:=6) only[qF,qGO0,qGO1,qGO2,qGO3,qGO4,qGO5,bslV,bslW,splice,fills,repl,Nat.reduceAdd,reduceCtorEq,Nat.reduceLT,Nat.reduceLeDiff,Nat.reduceEqDiff,Int.reduceEq,qKP0,c51,hgt,hw,m1,z1,m2,z2,m4,hia,m5,hc1,hc2,u1.froz1,u2.froz1,dc51,dc94,dc93,hnd,dc95]
   refine⟨_,_,_,rfl,hres, ?_,sm3 ⟨hs1,⟨hs2,trivial⟩⟩,by omega,gd_mk (ts:= [4,4]) (by decide) (by decide) rfl ⟨g1,⟨g2,trivial⟩⟩ (by decide) (by decide)⟩
   simp only[Ex.nodes,nodesL];omega
  by_cases t2:(r5:Int)=2
  ·rw[t2]at m5
   obtain⟨y1,c1,a1,hc1,hy1,hn1,hs1,hb1,g1⟩:=ih 4 (.inr (.inr (.inr rfl))) (a+1+1+1+1) (by first|omega|(simp only[bN];omega))
   obtain⟨y2,c2,a2,hc2,hy2,hn2,hs2,hb2,g2⟩:=ih 4 (.inr (.inr (.inr rfl))) a1 (by first|omega|(simp only[bN];omega))
   obtain⟨p1,q1,rfl,u1,w1⟩:=hy1.cells
   obtain⟨p2,q2,rfl,u2,w2⟩:=hy2.cells
   have hsl:IsSl (.sl [.i .i64 y1.op,.i .i64 y1.num,.s y1.name,p1,.i .i64 y2.op,.i .i64 y2.num,.s y2.name,p2] 2 true) 2 [.i .i64 y1.op,.i .i64 y1.num,.s y1.name,p1,.i .i64 y2.op,.i .i64 y2.num,.s y2.name,p2]:=Or.inr ⟨true,rfl⟩
   have hxx:IsExs [y1,y2] [.i .i64 y1.op,.i .i64 y1.num,.s y1.name,p1,.i .i64 y2.op,.i .i64 y2.num,.s y2.name,p2]:=IsExs.cons hy1 (IsExs.cons hy2 (IsExs.nil))
   have hnd:=node_ev 21 _ _ _ hsl
   have hres:=nodeT_is 21 [y1,y2] _ _ hsl hxx
   simp(maxDischargeDepth:=6) only[qF,qGO0,qGO1,qGO2,qGO3,qGO4,qGO5,bslV,bslW,splice,fills,repl,Nat.reduceAdd,reduceCtorEq,Nat.reduceLT,Nat.reduceLeDiff,Nat.reduceEqDiff,Int.reduceEq,qKP0,c51,hgt,hw,m1,z1,m2,z2,m4,hia,m5,hc1,hc2,u1.froz1,u2.froz1,dc51,dc94,dc93,hnd,dc95]
   refine⟨_,_,_,rfl,hres, ?_,sm3 ⟨hs1,⟨hs2,trivial⟩⟩,by omega,gd_mk (ts:= [4,4]) (by decide) (by decide) rfl ⟨g1,⟨g2,trivial⟩⟩ (by decide) (by decide)⟩
   simp only[Ex.nodes,nodesL];omega
  by_cases t3:(r5:Int)=3
  ·rw[t3]at m5
   obtain⟨y1,c1,a1,hc1,hy1,hn1,hs1,hb1,g1⟩:=ih 4 (.inr (.inr (.inr rfl))) (a+1+1+1+1) (by first|omega|(simp only[bN];omega))
   obtain⟨y2,c2,a2,hc2,hy2,hn2,hs2,hb2,g2⟩:=ih 4 (.inr (.inr (.inr rfl))) a1 (by first|omega|(simp only[bN];omega))
   obtain⟨p1,q1,rfl,u1,w1⟩:=hy1.cells
   obtain⟨p2,q2,rfl,u2,w2⟩:=hy2.cells
   have hsl:IsSl (.sl [.i .i64 y1.op,.i .i64 y1.num,.s y1.name,p1,.i .i64 y2.op,.i .i64 y2.num,.s y2.name,p2] 2 true) 2 [.i .i64 y1.op,.i .i64 y1.num,.s y1.name,p1,.i .i64 y2.op,.i .i64 y2.num,.s y2.name,p2]:=Or.inr ⟨true,rfl⟩
   have hxx:IsExs [y1,y2] [.i .i64 y1.op,.i .i64 y1.num,.s y1.name,p1,.i .i64 y2.op,.i .i64 y2.num,.s y2.name,p2]:=IsExs.cons hy1 (IsExs.cons hy2 (IsExs.nil))
   have hnd:=node_ev 22 _ _ _ hsl
   have hres:=nodeT_is 22 [y1,y2] _ _ hsl hxx
   simp(maxDischargeDepth:=6) only[qF,qGO0,qGO1,qGO2,qGO3,qGO4,qGO5,bslV,bslW,splice,fills,repl,Nat.reduceAdd,reduceCtorEq,Nat.reduceLT,Nat.reduceLeDiff,Nat.reduceEqDiff,Int.reduceEq,qKP0,c51,hgt,hw,m1,z1,m2,z2,m4,hia,m5,hc1,hc2,u1.froz1,u2.froz1,dc51,dc94,dc93,hnd,dc95]
   refine⟨_,_,_,rfl,hres, ?_,sm3 ⟨hs1,⟨hs2,trivial⟩⟩,by omega,gd_mk (ts:= [4,4]) (by decide) (by decide) rfl ⟨g1,⟨g2,trivial⟩⟩ (by decide) (by decide)⟩
   simp only[Ex.nodes,nodesL];omega
  by_cases t4:(r5:Int)=4
  ·rw[t4]at m5
   obtain⟨y1,c1,a1,hc1,hy1,hn1,hs1,hb1,g1⟩:=ih K hKk (a+1+1+1+1) (by first|omega|(simp only[bN];omega))
   obtain⟨y2,c2,a2,hc2,hy2,hn2,hs2,hb2,g2⟩:=ih K hKk a1 (by first|omega|(simp only[bN];omega))
   obtain⟨p1,q1,rfl,u1,w1⟩:=hy1.cells
   obtain⟨p2,q2,rfl,u2,w2⟩:=hy2.cells
   have hsl:IsSl (.sl [.i .i64 y1.op,.i .i64 y1.num,.s y1.name,p1,.i .i64 y2.op,.i .i64 y2.num,.s y2.name,p2] 2 true) 2 [.i .i64 y1.op,.i .i64 y1.num,.s y1.name,p1,.i .i64 y2.op,.i .i64 y2.num,.s y2.name,p2]:=Or.inr ⟨true,rfl⟩
   have hxx:IsExs [y1,y2] [.i .i64 y1.op,.i .i64 y1.num,.s y1.name,p1,.i .i64 y2.op,.i .i64 y2.num,.s y2.name,p2]:=IsExs.cons hy1 (IsExs.cons hy2 (IsExs.nil))
   have hnd:=node_ev 16 _ _ _ hsl
   have hres:=nodeT_is 16 [y1,y2] _ _ hsl hxx
   simp(maxDischargeDepth:=6) only[qF,qGO0,qGO1,qGO2,qGO3,qGO4,qGO5,bslV,bslW,splice,fills,repl,Nat.reduceAdd,reduceCtorEq,Nat.reduceLT,Nat.reduceLeDiff,Nat.reduceEqDiff,Int.reduceEq,qKP0,c51,hgt,hw,m1,z1,m2,z2,m4,hia,m5,hc1,hc2,u1.froz1,u2.froz1,dc51,dc94,dc93,hnd,dc95]
   refine⟨_,_,_,rfl,hres, ?_,sm3 ⟨hs1,⟨hs2,trivial⟩⟩,by omega,gd_mk (ts:= [K,K]) (by decide) (by decide) rfl ⟨g1,⟨g2,trivial⟩⟩ (by rcases hK12 with h|h <;> rw[h] <;> decide) (by decide)⟩
   simp only[Ex.nodes,nodesL];omega
  by_cases t5:(r5:Int)=5
  ·rw[t5]at m5
   obtain⟨y1,c1,a1,hc1,hy1,hn1,hs1,hb1,g1⟩:=ih K hKk (a+1+1+1+1) (by first|omega|(simp only[bN];omega))
   obtain⟨y2,c2,a2,hc2,hy2,hn2,hs2,hb2,g2⟩:=ih K hKk a1 (by first|omega|(simp only[bN];omega))
   obtain⟨p1,q1,rfl,u1,w1⟩:=hy1.cells
   obtain⟨p2,q2,rfl,u2,w2⟩:=hy2.cells
   have hsl:IsSl (.sl [.i .i64 y1.op,.i .i64 y1.num,.s y1.name,p1,.i .i64 y2.op,.i .i64 y2.num,.s y2.name,p2] 2 true) 2 [.i .i64 y1.op,.i .i64 y1.num,.s y1.name,p1,.i .i64 y2.op,.i .i64 y2.num,.s y2.name,p2]:=Or.inr ⟨true,rfl⟩
   have hxx:IsExs [y1,y2] [.i .i64 y1.op,.i .i64 y1.num,.s y1.name,p1,.i .i64 y2.op,.i .i64 y2.num,.s y2.name,p2]:=IsExs.cons hy1 (IsExs.cons hy2 (IsExs.nil))
   have hnd:=node_ev 18 _ _ _ hsl
   have hres:=nodeT_is 18 [y1,y2] _ _ hsl hxx
   simp(maxDischargeDepth:=6) only[qF,qGO0,qGO1,qGO2,qGO3,qGO4,qGO5,bslV,bslW,splice,fills,repl,Nat.reduceAdd,reduceCtorEq,Nat.reduceLT,Nat.reduceLeDiff,Nat.reduceEqDiff,Int.reduceEq,qKP0,c51,hgt,hw,m1,z1,m2,z2,m4,hia,m5,hc1,hc2,u1.froz1,u2.froz1,dc51,dc94,dc93,hnd,dc95]
   refine⟨_,_,_,rfl,hres, ?_,sm3 ⟨hs1,⟨hs2,trivial⟩⟩,by omega,gd_mk (ts:= [K,K]) (by decide) (by decide) rfl ⟨g1,⟨g2,trivial⟩⟩ (by rcases hK12 with h|h <;> rw[h] <;> decide) (by decide)⟩
   simp only[Ex.nodes,nodesL];omega
  by_cases t6:(r5:Int)=6
  ·rw[t6]at m5
   obtain⟨y1,c1,a1,hc1,hy1,hn1,hs1,hb1,g1⟩:=ih 3 (.inr (.inr (.inl rfl))) (a+1+1+1+1) (by first|omega|(simp only[bN];omega))
   obtain⟨y2,c2,a2,hc2,hy2,hn2,hs2,hb2,g2⟩:=bleafT_ev xs lT hl scope hsc 3 (.inr (.inr (.inl rfl))) a1 (by omega)
   obtain⟨y3,c3,a3,hc3,hy3,hn3,hs3,hb3,g3⟩:=bleafT_ev xs lT hl scope hsc 3 (.inr (.inr (.inl rfl))) a2 (by omega)
   obtain⟨p1,q1,rfl,u1,w1⟩:=hy1.cells
   obtain⟨p2,q2,rfl,u2,w2⟩:=hy2.cells
   obtain⟨p3,q3,rfl,u3,w3⟩:=hy3.cells
   have hsl:IsSl (.sl [.i .i64 y1.op,.i .i64 y1.num,.s y1.name,p1,.i .i64 y2.op,.i .i64 y2.num,.s y2.name,p2,.i .i64 y3.op,.i .i64 y3.num,.s y3.name,p3] 3 true) 3 [.i .i64 y1.op,.i .i64 y1.num,.s y1.name,p1,.i .i64 y2.op,.i .i64 y2.num,.s y2.name,p2,.i .i64 y3.op,.i .i64 y3.num,.s y3.name,p3]:=Or.inr ⟨true,rfl⟩
   have hxx:IsExs [y1,y2,y3] [.i .i64 y1.op,.i .i64 y1.num,.s y1.name,p1,.i .i64 y2.op,.i .i64 y2.num,.s y2.name,p2,.i .i64 y3.op,.i .i64 y3.num,.s y3.name,p3]:=IsExs.cons hy1 (IsExs.cons hy2 (IsExs.cons hy3 (IsExs.nil)))
   have hnd:=node_ev 15 _ _ _ hsl
   have hres:=nodeT_is 15 [y1,y2,y3] _ _ hsl hxx
   simp(maxDischargeDepth:=6) only[qF,qGO0,qGO1,qGO2,qGO3,qGO4,qGO5,bslV,bslW,splice,fills,repl,Nat.reduceAdd,reduceCtorEq,Nat.reduceMul,Nat.reduceLT,Nat.reduceLeDiff,Nat.reduceEqDiff,Int.reduceEq,qKP0,c51,hgt,hw,m1,z1,m2,z2,m4,hia,m5,hc1,hc2,hc3,u1.froz1,u2.froz1,u3.froz1,dc51,dc94,dc93,hnd,dc95]
   refine⟨_,_,_,rfl,hres, ?_,sm3 ⟨hs1,⟨hs2,⟨hs3,trivial⟩⟩⟩,by omega,gd_mk (ts:= [3,3,3]) (by decide) (by decide) rfl ⟨g1,⟨g2.le h1,⟨g3.le h1,trivial⟩⟩⟩ (by decide) (by decide)⟩
   simp only[Ex.nodes,nodesL];omega
  obtain⟨y1,c1,a1,hc1,hy1,hn1,hs1,hb1,g1⟩:=ih K hKk (a+1+1+1+1) (by first|omega|(simp only[bN];omega))
  obtain⟨y2,c2,a2,hc2,hy2,hn2,hs2,hb2,g2⟩:=ih K hKk a1 (by first|omega|(simp only[bN];omega))
  obtain⟨p1,q1,rfl,u1,w1⟩:=hy1.cells
  obtain⟨p2,q2,rfl,u2,w2⟩:=hy2.cells
  have hsl:IsSl (.sl [.i .i64 y1.op,.i .i64 y1.num,.s y1.name,p1,.i .i64 y2.op,.i .i64 y2.num,.s y2.name,p2] 2 true) 2 [.i .i64 y1.op,.i .i64 y1.num,.s y1.name,p1,.i .i64 y2.op,.i .i64 y2.num,.s y2.name,p2]:=Or.inr ⟨true,rfl⟩
  have hxx:IsExs [y1,y2] [.i .i64 y1.op,.i .i64 y1.num,.s y1.name,p1,.i .i64 y2.op,.i .i64 y2.num,.s y2.name,p2]:=IsExs.cons hy1 (IsExs.cons hy2 (IsExs.nil))
  have hnd:=node_ev 17 _ _ _ hsl
  have hres:=nodeT_is 17 [y1,y2] _ _ hsl hxx
  simp(maxDischargeDepth:=6) only[qF,qGO0,qGO1,qGO2,qGO3,qGO4,qGO5,bslV,bslW,splice,fills,repl,Nat.reduceAdd,reduceCtorEq,Nat.reduceLT,Nat.reduceLeDiff,Nat.reduceEqDiff,Int.reduceEq,qKP0,c51,hgt,hw,m1,z1,m2,z2,m4,hia,m5,t0,t1,t2,t3,t4,t5,t6,hc1,hc2,u1.froz1,u2.froz1,dc51,dc94,dc93,hnd,dc95]
  refine⟨_,_,_,rfl,hres, ?_,sm3 ⟨hs1,⟨hs2,trivial⟩⟩,by omega,gd_mk (ts:= [K,K]) (by decide) (by decide) rfl ⟨g1,⟨g2,trivial⟩⟩ (by rcases hK12 with h|h <;> rw[h] <;> decide) (by decide)⟩
  simp only[Ex.nodes,nodesL];omega
 ·skip
  obtain⟨y1,c1,a1,hc1,hy1,hn1,hs1,hb1,g1⟩:=bleafT_ev xs lT hl scope hsc kind hk (a+1+1) (by omega)
  obtain⟨p1,q1,rfl,u1,w1⟩:=hy1.cells
  simp(maxDischargeDepth:=6) only[qF,qGO0,qGO1,qGO2,qGO3,qGO4,qGO5,bslV,bslW,splice,fills,repl,Nat.reduceAdd,reduceCtorEq,Nat.reduceLT,Nat.reduceLeDiff,Nat.reduceEqDiff,qKP0,c51,hgt,hw,m1,z1,m2,z2,k1,k2,k4,hc1,u1.froz1,dc51,dc94,dc93]
  exact⟨_,_,_,rfl,hy1,by omega,hs1,by omega,g1.le (by omega)⟩
theorem exprT_ev(kind:Int)(hk:kind=1∨kind=2∨kind=3∨kind=4)(a:Nat)(ha:a<1000): ∃y cs a',DCall pE 51 [.ptr .S 0 1 0,.i .i64 scope,.i .i64 kind,.i .i64 4] (srS lT a)=some (.agg cs,srS lT a')∧IsEx y cs∧y.nodes≤40∧y.sm∧Gd scope kind 4 y:=by
 have h:=exprS xs lT hl scope hsc 3 (by decide) (by decide) (exprS xs lT hl scope hsc 2 (by decide) (by decide) (exprS xs lT hl scope hsc 1 (by decide) (by decide) (expr1 xs lT hl scope hsc)))
 have e:bN 4=133:=rfl
 obtain⟨y,cs,a',h1,h2,h3,h4,_,h5⟩:=h kind hk a (by show a+bN 4≤100000;omega)
 exact⟨y,cs,a',h1,h2,h3,h4,h5⟩
theorem bexprT_ev(kind:Int)(hk:kind=1∨kind=2∨kind=3∨kind=4): ∃y cs s,DCall pE 15 [lT,.i .i64 scope,.i .i64 kind] []=some (.agg cs,s)∧IsEx y cs∧y.nodes≤40∧y.sm∧Gd scope kind 4 y:=by
 obtain⟨y,cs,a',hc,hy,hn,hs,hg⟩:=exprT_ev xs lT hl scope hsc kind hk 0 (by decide)
 obtain⟨p1,q1,rfl,u1,w1⟩:=hy.cells
 rw[show srS lT 0= [⟨1,.cells [lT,.i .i64 0] 0 true⟩]from rfl]at hc
 rw[p_fun fn15 (by simp[c15])]
 simp(maxDischargeDepth:=6) only[qF,qGO0,qGO1,qGO2,qGO3,qGO4,qGO5,buildV,splice,fills,Nat.reduceAdd,reduceCtorEq,Nat.reduceLT,Nat.reduceLeDiff,Nat.reduceEqDiff,qSH0,qKP0,c15,hl.cells,hl.noTup,hl.kept1,hc,dc51,u1.froz1]
 exact⟨_,_,_,rfl,hy,hn,hs,hg⟩
end
end Go.Proofs.YtfenhjpkomldcaaGreat
