/- The laws' measure of a contract: it answers. Contracts out of range or too large; FoldContracts. Conditions: the theorems' own. -/
import Derived.Test.YtfenhjpkomldcaaGreatM20
import Derived.KernelRfl
set_option maxRecDepth 100000
set_option linter.unusedSimpArgs false
set_option linter.unusedVariables false
set_option maxHeartbeats 16000000
namespace Go.Proofs.YtfenhjpkomldcaaGreat
open Go Go.Ev
mutual
def Ex.al:Ex→Prop
 | .mk _ _ _ args=>args.length≤iq∧LI args
def LI:List Ex→Prop
 | []=>True
 |x::xs=>x.al∧LI xs
end
theorem Ex.al_eq(x:Ex):x.al↔(x.args.length≤iq∧LI x.args):=by obtain⟨_,_,_,_⟩:=x;rw[Ex.al];rfl
theorem oD: ∀{xs:List Ex},LI xs↔ ∀x∈xs,x.al
 | []=>by simp[LI]
 |x::xs=>by rw[LI,oD (xs:=xs)];simp
def Eh:T→Bool
 | .i .i64 _=>true
 |_=>false
theorem qg{n:Int}:Eh (.i .i64 n)=true:=nr rfl
theorem vQ{v:T}(h:Eh v=true): ∃n,v= .i .i64 n:=by
 cases v with
 |i k n=>cases k <;> first|exact⟨n,rfl⟩|(simp[Eh]at h)
 |_=>simp[Eh]at h
def Vf(y:Ex):Prop:= ∀cs:List T,bj y cs→y.al→ ∃n:Int,aa pE 61 [.agg cs] []=some (.i .i64 n,[])
theorem ZC(xs:List Ex)(ih: ∀y∈xs,Vf y)(a:T)(cc:List T)(ha:aN a xs.length cc)(hx:aL xs cc)(hlen:xs.length≤iq)(gH:LI xs)(op num:Int)(s:List Nat)(fr:Fr)(lh:aQ aA)(sh:List aA)
  (h1:an fr 1= .ptr .L 1 1 0) (h3:Eh (an fr 3)=true) (hi:an fr 4= .i .i64 0) (o1:aE lh 1=⟨1,.cells [.i .i64 op,.i .i64 num,.s s,a] 0 true⟩):
  DC pE 25 (.loop iO) ⟨fr,lh,sh⟩=some (.ext 0,⟨ev pE 25 iO fr lh sh,eP pE 25 iO fr lh sh,eJ pE 25 iO fr lh sh⟩)∧(Eh (an (ev pE 25 iO fr lh sh) 3)=true∧eP pE 25 iO fr lh sh=lh∧eJ pE 25 iO fr lh sh=sh):=by
 refine a6 (P:=fun g7 dj cq=>Eh (an g7 3)=true∧dj=lh∧cq=sh)
  (bt (fun k st=> ∃(fr:Fr),st=⟨fr,lh,sh⟩∧an fr 1= .ptr .L 1 1 0∧Eh (an fr 3)=true∧an fr 4= .i .i64 (k:Int)) _ xs.length ?_ ?_ 0 _ (Nat.zero_le _) ⟨fr,rfl,h1,h3,hi⟩)
 ·rintro k _ hk ⟨fr,rfl,h1,h3,hi⟩
  have dN:(k:Int)<xs.length:=by omega
  have hw:=jh (k:=k) (by omega)
  obtain⟨b,cb,rr,cQ,fu,oq,hb⟩:=dV ha hx k hk
  obtain⟨n,hn⟩:=vQ h3
  obtain⟨m,aB⟩:=ih xs[k] (List.getElem_mem hk) _ hb (oD.1 gH _ (List.getElem_mem hk))
  by_cases dG:n<1000
  ·left
   simp(maxDischargeDepth:=6) only[qF,ah,ai,ab,aj,ae,Nat.reduceLT,Nat.reduceLeDiff,Nat.reduceEqDiff,iO,h1,hn,hi,o1,ha.lenI,dN,dG,cQ,hw,fu.froz1,aB,OJ]
   refine⟨_,rfl,_,rfl, ?_, ?_, ?_⟩
   ·simp(maxDischargeDepth:=6) only[ab,ae,Nat.reduceEqDiff,h1]
   ·simp(maxDischargeDepth:=6) only[ab,ae,Nat.reduceEqDiff,qg]
   ·simp(maxDischargeDepth:=6) only[ab]
  ·right
   simp(maxDischargeDepth:=6) only[ah,ai,ab,aj,ae,ak,Nat.reduceLT,Nat.reduceEqDiff,iO,h1,hn,hi,o1,ha.lenI,dN,dG]
   refine⟨_,_,(by simp:Out.ext 0≠ .nrm),rfl,rfl, ?_,rfl,rfl⟩
   simp(maxDischargeDepth:=6) only[ab,ae,Nat.reduceEqDiff,hn,qg]
 ·rintro _ ⟨fr,rfl,h1,h3,hi⟩
  simp(maxDischargeDepth:=6) only[ah,ai,ab,aj,ae,ak,Nat.reduceLT,Nat.reduceEqDiff,iO,h1,hi,o1,ha.lenI,Int.lt_irrefl]
  refine⟨_,_,(by simp:Out.ext 0≠ .nrm),rfl,rfl, ?_,rfl,rfl⟩
  simp(maxDischargeDepth:=6) only[ab,ae,Nat.reduceEqDiff,h3]
theorem HV(x:Ex):Vf x:=by
 induction x using Ex.ind with
 |h x ih=>
  intro cs hx gH
  obtain⟨a,cc,rfl,ha,g5⟩:=hx.cells
  obtain⟨hlen,aU⟩:=(Ex.al_eq x).1 gH
  have hL:=fun fr lh sh h1 h3 hi o1=>ZC x.args (fun y hy=>ih y hy) a cc ha g5 hlen aU x.op x.num x.name fr lh sh h1 h3 hi o1
  rw[aD RX (by simp[Rz])]
  simp(maxDischargeDepth:=6) only[qF,ah,ai,ab,aj,ae,Nat.reduceLT,Nat.reduceEqDiff,Rz,qg,hL]
  generalize hX:an (ev _ _ _ _ _ _) 3=X
  obtain⟨n,hn⟩: ∃n,X= .i .i64 n:=by
   rw[←hX]
   refine vQ (hL _ _ _ ?_ ?_ ?_ ?_).2.1 <;> simp(maxDischargeDepth:=6) only[ab,ae,Nat.reduceEqDiff,qg]
  rw[hn]
  simp(maxDischargeDepth:=6) only[ab,aj,ae]
  exact⟨n,rfl⟩
structure CtA (c:Ct):Prop where
 a7:(∀u∈c.cs,u.2.al)∧c.cs.length≤iq
 a8:(∀u∈c.ru,u.x.al)∧c.ru.length≤iq
 a9:(∀u∈c.co,u.x.al)∧c.co.length≤iq
 oJ:(∀u∈c.cr,u.al)∧c.cr.length≤iq
 oK:c.li.length≤iq
 oL:c.fs.length≤iq
end Go.Proofs.YtfenhjpkomldcaaGreat
namespace Go.Proofs.YtfenhjpkomldcaaGreat
open Go Go.Ev
section
variable(c:Ct)(a7 a8 a9 oJ oK oL:T)(hT:BZ c a7 a8 a9 oJ oK oL)(ZD:Qt c=false∨U7 c=false)
include hT ZD
end
structure CtN (c:Ct):Prop where
 n7:DQ c.cs
 n8: ∀u∈c.ru,N0 u.x
 n9: ∀u∈c.co,N0 u.x
 n10: ∀x∈c.cr,N0 x
end Go.Proofs.YtfenhjpkomldcaaGreat
