/- Expressions as trees, and what stands for them. Names: what the program and the reference take for one. Reserved words and names of attributes. Conditions: the theorems' own. -/
import Derived.Test.YtfenhjpkomldcaaGreatGS
import Derived.KernelRfl
set_option maxRecDepth 100000
set_option linter.unusedSimpArgs false
set_option linter.unusedVariables false
set_option maxHeartbeats 16000000
namespace Go.Proofs.YtfenhjpkomldcaaGreat
open Go Go.Ev
theorem dcall_of{m f:Nat}{args:List T}{r:T×List Ent}(h:callF pE m f args []=some r):DCall pE f args []=some r:=DCall_iff.2 ⟨m,h⟩
theorem dval_of{m f:Nat}{args:List T}{v:T}(h:(callF pE m f args []).map (·.1)=some v): ∃s,DCall pE f args []=some (v,s):=by
 cases hc:callF pE m f args []with
 |none=>rw[hc]at h;cases h
 |some r=>
  rw[hc]at h
  obtain⟨a,s⟩:=r
  simp at h
  subst h
  exact⟨s,DCall_iff.2 ⟨m,hc⟩⟩
inductive Ex where
 |mk (op num:Int) (name:List Nat) (args:List Ex)
def Ex.op:Ex→Int| .mk o _ _ _=>o
def Ex.num:Ex→Int| .mk _ n _ _=>n
def Ex.name:Ex→List Nat| .mk _ _ s _=>s
def Ex.args:Ex→List Ex| .mk _ _ _ a=>a
mutual
def IsEx:Ex→List T→Prop
 | .mk op num name args,cs=> ∃a cc,cs= [.i .i64 op,.i .i64 num,.s name,a]∧IsSl a args.length cc∧IsExs args cc
def IsExs:List Ex→List T→Prop
 | [],cs=>cs= []
 |x::xs,cs=> ∃c r,cs=c++r∧IsEx x c∧IsExs xs r
end
theorem IsEx.cells{x:Ex}{cs:List T}(h:IsEx x cs): ∃a cc,cs= [.i .i64 x.op,.i .i64 x.num,.s x.name,a]∧IsSl a x.args.length cc∧IsExs x.args cc:=by
 obtain⟨o,n,s,a⟩:=x
 rw[IsEx]at h
 exact h
theorem IsEx.of{x:Ex}{a:T}{cc:List T}(h1:IsSl a x.args.length cc)(h2:IsExs x.args cc):IsEx x [.i .i64 x.op,.i .i64 x.num,.s x.name,a]:=by
 obtain⟨o,n,s,l⟩:=x
 rw[IsEx]
 exact⟨a,cc,rfl,h1,h2⟩
theorem IsEx.len{x:Ex}{cs:List T}(h:IsEx x cs):cs.length=4:=by
 obtain⟨a,cc,rfl,_⟩:=h.cells;rfl
theorem IsExs.len: ∀{xs:List Ex} {cs:List T},IsExs xs cs→cs.length=xs.length*4
 | [],cs,h=>by rw[IsExs]at h;rw[h];rfl
 |x::xs,cs,h=>by
  rw[IsExs]at h
  obtain⟨c,r,rfl,h1,h2⟩:=h
  rw[List.length_append,h1.len,h2.len,List.length_cons];omega
theorem IsExs.nil:IsExs [] []:=by rw[IsExs]
theorem IsExs.cons{x:Ex}{xs:List Ex}{c r:List T}(h1:IsEx x c)(h2:IsExs xs r):IsExs (x::xs) (c++r):=by
 rw[IsExs];exact⟨c,r,rfl,h1,h2⟩
theorem IsExs.append: ∀{xs ys:List Ex} {c r:List T},IsExs xs c→IsExs ys r→IsExs (xs++ys) (c++r)
 | [],ys,c,r,h1,h2=>by rw[IsExs]at h1;subst h1;exact h2
 |x::xs,ys,c,r,h1,h2=>by
  rw[IsExs]at h1
  obtain⟨c1,r1,rfl,h3,h4⟩:=h1
  rw[List.append_assoc]
  exact IsExs.cons h3 (IsExs.append h4 h2)
theorem IsExs.one{x:Ex}{c:List T}(h:IsEx x c):IsExs [x] c:=by
 have:=IsExs.cons h IsExs.nil
 rwa [List.append_nil]at this
theorem IsExs.drop: ∀{xs:List Ex} {cs:List T} (k:Nat) (hk:k<xs.length),IsExs xs cs→ ∃c r,cs.drop (k*4)=c++r∧IsEx xs[k] c∧IsExs (xs.drop (k+1)) r
 | [],cs,k,hk,h=>by simp at hk
 |x::xs,cs,0,hk,h=>by
  rw[IsExs]at h
  obtain⟨c,r,rfl,h1,h2⟩:=h
  exact⟨c,r,by simp,h1,by simpa using h2⟩
 |x::xs,cs,k+1,hk,h=>by
  rw[IsExs]at h
  obtain⟨c,r,rfl,h1,h2⟩:=h
  obtain⟨c',r',e,h3,h4⟩:=IsExs.drop k (by simpa using hk) h2
  refine⟨c',r', ?_,h3,by simpa using h4⟩
  have:(k+1)*4=c.length+k*4:=by rw[h1.len];omega
  rw[this,List.drop_append,Nat.add_sub_cancel_left,List.drop_eq_nil_of_le (by omega),e];rfl
theorem arg_at{xs:List Ex}{a:T}{cc:List T}(h1:IsSl a xs.length cc)(h2:IsExs xs cc)(k:Nat)(hk:k<xs.length):
  ∃b cb r,(∀kk,iaV a (.i kk (k:Int)) 4=some (.vp (.i .i64 xs[k].op:: .i .i64 xs[k].num:: .s xs[k].name::b::r)))∧IsSl b xs[k].args.length cb∧IsExs xs[k].args cb∧IsEx xs[k] [.i .i64 xs[k].op,.i .i64 xs[k].num,.s xs[k].name,b]:=by
 obtain⟨c,r,e,h3,h4⟩:=IsExs.drop k hk h2
 obtain⟨b,cb,rfl,h5,h6⟩:=h3.cells
 refine⟨b,cb,r,fun kk=> ?_,h5,h6,h3⟩
 rw[h1.ia (sz:=4) h2.len hk,e];rfl
mutual
def Ex.nodes:Ex→Nat
 | .mk _ _ _ args=>1+nodesL args
def nodesL:List Ex→Nat
 | []=>0
 |x::xs=>x.nodes+nodesL xs
end
mutual
def Ex.depth:Ex→Nat
 | .mk _ _ _ args=>1+depthL args
def depthL:List Ex→Nat
 | []=>0
 |x::xs=>max x.depth (depthL xs)
end
theorem Ex.nodes_eq(x:Ex):x.nodes=1+nodesL x.args:=by obtain⟨_,_,_,_⟩:=x;rw[Ex.nodes];rfl
theorem Ex.depth_eq(x:Ex):x.depth=1+depthL x.args:=by obtain⟨_,_,_,_⟩:=x;rw[Ex.depth];rfl
theorem nodesL_len: ∀xs:List Ex,xs.length≤nodesL xs
 | []=>by simp
 |x::xs=>by
  have:=nodesL_len xs
  rw[nodesL,List.length_cons,x.nodes_eq];omega
theorem nodesL_mem: ∀{xs:List Ex} {x:Ex},x∈xs→x.nodes≤nodesL xs
 |y::xs,x,h=>by
  rw[nodesL]
  rcases List.mem_cons.1 h with rfl|h
  ·omega
  ·have:=nodesL_mem h;omega
theorem Ex.ind{P:Ex→Prop}(h: ∀x:Ex,(∀y∈x.args,P y)→P x)(x:Ex):P x:=by
 have: ∀n (x:Ex),x.nodes≤n→P x:=by
  intro n
  induction n with
  |zero=>intro x hx;rw[x.nodes_eq]at hx;omega
  |succ n ih=>
   intro x hx
   refine h x fun y hy=>ih y ?_
   have:=nodesL_mem hy
   rw[x.nodes_eq]at hx;omega
 exact this _ x (Nat.le_refl _)
end Go.Proofs.YtfenhjpkomldcaaGreat
namespace Go.Proofs.YtfenhjpkomldcaaGreat
open Go Go.Ev
def lowC(c:Nat):Prop:=(97:Int)≤c∧(c:Int)≤122
def digC(c:Nat):Prop:=(48:Int)≤c∧(c:Int)≤57
instance (c:Nat):Decidable (lowC c):=by unfold lowC;infer_instance
instance (c:Nat):Decidable (digC c):=by unfold digC;infer_instance
def tailC(c:Nat):Bool:=decide (lowC c∨digC c∨(c:Int)=95)
def nameS:List Nat→Bool
 | []=>false
 |c::cs=>decide (cs.length<16)&&(decide (lowC c)&&cs.all tailC)
theorem ix_at{s:List Nat}{k:Nat}(hk:k<s.length)(kk:IntKind):ixSV (.s s) (.i kk (k:Int))=some (.i .u8 (s[k]:Int)):=by
 rw[ixSV_s,if_pos (Int.natCast_nonneg k),Int.toNat_natCast,List.getElem?_eq_getElem hk];rfl
theorem wr_succ{k:Nat}(h:k<4611686018427387904):wr .i64 ((k:Int)+1)=((k+1:Nat):Int):=by rw[wr64 (by omega)];omega
def chC(k:Nat)(c:Nat):Bool:=decide (lowC c)||(decide (0<k)&&tailC c)
def allC:Nat→List Nat→Bool
 |_,[]=>true
 |k,c::cs=>chC k c&&allC (k+1) cs
theorem allC_pos: ∀(cs:List Nat) (k:Nat),0<k→allC k cs=cs.all tailC
 | [],k,h=>rfl
 |c::cs,k,h=>by
  rw[allC,List.all_cons,allC_pos cs (k+1) (by omega)]
  congr 1
  unfold chC
  by_cases h1:lowC c <;> simp[h,h1,tailC]
theorem pname1(s:List Nat)(hs:s.length≤16)(lh:Tri Ent)(sh:List Ent): ∀(m k:Nat) (fr:Fr),s.length-k=m→k≤s.length→getF fr 0= .s s→getF fr 14= .i .i64 (s.length:Int)→getF fr 15= .i .i64 (k:Int)→
  ∃fr',DC pE 44 (.loop c174_L1) ⟨fr,lh,sh⟩=some (if allC k (s.drop k)then .ext 0 else .ret,⟨fr',lh,sh⟩)∧(allC k (s.drop k)=false→getF fr' 2= .b false)
 |0,k,fr,hm,hk,h0,h14,h3=>by
  have:k=s.length:=by omega
  subst this
  rw[DC_loop]
  generalize hK:DC pE 44 (.loop c174_L1)=K
  simp only[qGO0,qGO1,qGO2,qGO4,qGO5,Nat.reduceLT,c174_L1,h3,h14,Int.lt_irrefl]
  simp[allC]
 |m+1,k,fr,hm,hk,h0,h14,h3=>by
  have hlt:k<s.length:=by omega
  have hlt':(k:Int)<s.length:=by omega
  have hdr:s.drop k=s[k]::s.drop (k+1):=List.drop_eq_getElem_cons hlt
  have hw:=wr_succ (k:=k) (by omega)
  rw[DC_loop,hdr,allC]
  generalize hK:DC pE 44 (.loop c174_L1)=K
  have good: ∀fr'':Fr,getF fr'' 0= .s s→getF fr'' 14= .i .i64 (s.length:Int)→getF fr'' 15= .i .i64 ((k+1:Nat):Int)→
   ∃fr',K ⟨fr'',lh,sh⟩=some (if allC (k+1) (s.drop (k+1))then .ext 0 else .ret,⟨fr',lh,sh⟩)∧(allC (k+1) (s.drop (k+1))=false→getF fr' 2= .b false):=fun fr'' a b c=>by
    rw[←hK];exact pname1 s hs lh sh m (k+1) fr'' (by omega) (by omega) a b c
  by_cases c1:(97:Int)≤s[k]∧(s[k]:Int)≤122
  ·have ht:chC k s[k]=true:=by simp[chC,lowC,c1]
   obtain⟨a1,a2⟩:=c1
   simp only[qGO0,qGO1,qGO2,qGO3,qGO4,reduceCtorEq,Nat.reduceLT,Nat.reduceEqDiff,c174_L1,h0,h3,h14,hlt',ix_at hlt,a1,a2,ht,hw]
   refine good _ ?_ ?_ ?_ <;> simp only[qGO2,qGO4,reduceCtorEq,Nat.reduceEqDiff,h0,h14]
  ·by_cases c0:0<k
   ·have c0':(0:Int)<k:=by omega
    by_cases c2:(48:Int)≤s[k]∧(s[k]:Int)≤57
    ·have ht:chC k s[k]=true:=by simp[chC,tailC,digC,c2,c0]
     obtain⟨a1,a2⟩:=c2
     have a3: ¬(97:Int)≤s[k]:=by omega
     simp only[qGO0,qGO1,qGO2,qGO3,qGO4,qGO5,reduceCtorEq,Nat.reduceLT,Nat.reduceEqDiff,c174_L1,h0,h3,h14,hlt',ix_at hlt,a1,a2,a3,c0',ht,hw]
     refine good _ ?_ ?_ ?_ <;> simp only[qGO2,qGO4,reduceCtorEq,Nat.reduceEqDiff,h0,h14]
    ·by_cases c3:(s[k]:Int)=95
     ·have ht:chC k s[k]=true:=by simp[chC,tailC,c3,c0]
      simp only[qGO0,qGO1,qGO2,qGO3,qGO4,qGO5,reduceCtorEq,Nat.reduceLT,Nat.reduceEqDiff,Int.reduceLE,c174_L1,h0,h3,h14,hlt',ix_at hlt,c3,c0',ht,hw]
      refine good _ ?_ ?_ ?_ <;> simp only[qGO2,qGO4,reduceCtorEq,Nat.reduceEqDiff,h0,h14]
     ·have ht:chC k s[k]=false:=by simp[chC,tailC,lowC,digC,c1,c2,c3]
      by_cases a1:(97:Int)≤s[k] <;> by_cases a2:(s[k]:Int)≤122 <;> by_cases a3:(48:Int)≤s[k] <;> by_cases a4:(s[k]:Int)≤57 <;> first|omega|(simp only[qGO0,qGO1,qGO2,qGO3,qGO4,qGO5,forall_const,reduceCtorEq,Nat.reduceLT,Nat.reduceEqDiff,c174_L1,h0,h3,h14,hlt',ix_at hlt,a1,a2,a3,a4,c3,c0',ht];exact⟨_,rfl,by simp only[qGO2]⟩)
   ·have c0': ¬(0:Int)<k:=by omega
    have ht:chC k s[k]=false:=by simp[chC,lowC,c1,c0]
    by_cases a1:(97:Int)≤s[k] <;> by_cases a2:(s[k]:Int)≤122 <;> first|omega|(simp only[qGO0,qGO1,qGO2,qGO3,qGO4,qGO5,forall_const,reduceCtorEq,Nat.reduceLT,Nat.reduceEqDiff,c174_L1,h0,h3,h14,hlt',ix_at hlt,a1,a2,c0',ht];exact⟨_,rfl,by simp only[qGO2]⟩)
theorem pname1'(s:List Nat)(hs:s.length≤16)(fr:Fr)(lh:Tri Ent)(sh:List Ent)(h0:getF fr 0= .s s)(h14:getF fr 14= .i .i64 (s.length:Int))(h3:getF fr 15= .i .i64 0):
  DC pE 44 (.loop c174_L1) ⟨fr,lh,sh⟩=some (if allC 0 s then .ext 0 else .ret,⟨frL pE 44 c174_L1 fr lh sh,lh,sh⟩)∧(allC 0 s=false→getF (frL pE 44 c174_L1 fr lh sh) 2= .b false):=by
 have:=loop_fix (pname1 s hs lh sh s.length 0 fr (by omega) (by omega) h0 h14 h3)
 simpa using this
theorem pname_ev(s:List Nat):DCall pE 174 [.s s] []=some (.b (nameS s),[]):=by
 rw[p_fun fn174 (by simp[c174])]
 by_cases h1:((s.length:Nat):Int)<1
 ·have:s= []:=by cases s with|nil=>rfl|cons c cs=>simp at h1;omega
  subst this
  simp only[qF,qGO0,qGO1,qGO2,qGO3,qGO4,reduceCtorEq,Nat.reduceLT,Nat.reduceEqDiff,Int.reduceLT,c174,nameS]
 ·by_cases h2:(16:Int)<((s.length:Nat):Int)
  ·have h3:nameS s=false:=by cases s with|nil=>simp at h2|cons c cs=>simp[nameS];intro h;simp at h2;omega
   simp only[qF,qGO0,qGO1,qGO2,qGO3,qGO4,qGO5,reduceCtorEq,Nat.reduceLT,Nat.reduceEqDiff,c174,h1,h2,h3]
  ·have h3:nameS s=allC 0 s:=by
    cases s with
    |nil=>simp at h1
    |cons c cs=>
     rw[allC,allC_pos cs 1 (by omega)]
     have:cs.length<16:=by simp at h2;omega
     simp[nameS,this,chC]
   have hL:=fun fr lh sh=>pname1' s (by omega) fr lh sh
   rw[h3]
   cases hall:allC 0 s with
   |true=>
    simp only[hall]at hL
    simp only[qF,qGO0,qGO1,qGO2,qGO3,qGO4,qGO5,reduceCtorEq,Nat.reduceLT,Nat.reduceEqDiff,c174,h1,h2,hL]
   |false=>
    simp only[hall]at hL
    simp only[qF,qGO0,qGO1,qGO2,qGO3,qGO4,qGO5,reduceCtorEq,Nat.reduceLT,Nat.reduceEqDiff,c174,h1,h2,hL]
end Go.Proofs.YtfenhjpkomldcaaGreat
namespace Go.Proofs.YtfenhjpkomldcaaGreat
open Go Go.Ev
def resW:List (List Nat):= [[97,110,100],[111,114],[110,111,116],[105,109,112,108,105,101,115],[105,110],[116,111],[116,114,117,101],[102,97,108,115,101],[109,105,110],[109,97,120],[105,102],[116,104,101,110],[101,108,115,101]]
def numW:List (List Nat):= [[108,101,103,115],[104,101,97,100,115],[116,121,112,101,115]]
def durW:List (List Nat):= [[98,108,111,99,107],[115,112,97,110],[110,105,103,104,116],[108,111,110,103,101,115,116],[115,104,111,114,116,101,115,116],[115,104,105,102,116]]
def clkW:List (List Nat):= [[115,116,97,114,116],[101,110,100]]
def pnumW:List (List Nat):= [[100,117,116,105,101,115],[108,101,103,115],[104,101,97,100,115],[100,97,121,115]]
def pdurW:List (List Nat):= [[98,108,111,99,107],[115,112,97,110],[99,114,101,100,105,116]]
def dutyW:List (List Nat):= [[108,101,103,115],[104,101,97,100,115],[116,121,112,101,115],[98,108,111,99,107],[115,112,97,110],[110,105,103,104,116],[108,111,110,103,101,115,116],[115,104,111,114,116,101,115,116],[115,104,105,102,116],[115,116,97,114,116],[101,110,100]]
def restW:List (List Nat):= [[114,101,115,116],[110,105,103,104,116,115],[104,111,109,101],[98,101,102,111,114,101,46,108,101,103,115],[98,101,102,111,114,101,46,104,101,97,100,115],[98,101,102,111,114,101,46,116,121,112,101,115],[98,101,102,111,114,101,46,98,108,111,99,107],[98,101,102,111,114,101,46,115,112,97,110],[98,101,102,111,114,101,46,110,105,103,104,116],[98,101,102,111,114,101,46,108,111,110,103,101,115,116],[98,101,102,111,114,101,46,115,104,111,114,116,101,115,116],[98,101,102,111,114,101,46,115,104,105,102,116],[98,101,102,111,114,101,46,115,116,97,114,116],[98,101,102,111,114,101,46,101,110,100],[97,102,116,101,114,46,108,101,103,115],[97,102,116,101,114,46,104,101,97,100,115],[97,102,116,101,114,46,116,121,112,101,115],[97,102,116,101,114,46,98,108,111,99,107],[97,102,116,101,114,46,115,112,97,110],[97,102,116,101,114,46,110,105,103,104,116],[97,102,116,101,114,46,108,111,110,103,101,115,116],[97,102,116,101,114,46,115,104,111,114,116,101,115,116],[97,102,116,101,114,46,115,104,105,102,116],[97,102,116,101,114,46,115,116,97,114,116],[97,102,116,101,114,46,101,110,100]]
def pairW:List (List Nat):= [[100,117,116,105,101,115],[108,101,103,115],[104,101,97,100,115],[100,97,121,115],[98,108,111,99,107],[115,112,97,110],[99,114,101,100,105,116]]
def resS(s:List Nat):Bool:=decide (s∈resW)
def dnameS(s:List Nat):Bool:=nameS s&& !resS s
def dutyK(s:List Nat):Int:=if s∈numW then 1 else if s∈durW then 2 else if s∈clkW then 3 else 0
def pairK(s:List Nat):Int:=if s∈pnumW then 1 else if s∈pdurW then 2 else 0
def bef:List Nat:= [98,101,102,111,114,101,46]
def aft:List Nat:= [97,102,116,101,114,46]
def hasP(p s:List Nat):Prop:=p.length≤s.length∧s.take p.length=p
instance (p s:List Nat):Decidable (hasP p s):=by unfold hasP;infer_instance
def restK(s:List Nat):Int:=if s= [114,101,115,116]then 2 else if s= [110,105,103,104,116,115]then 1 else if s= [104,111,109,101]then 4 else if hasP bef s then dutyK (s.drop 7)else if hasP aft s then dutyK (s.drop 6)else 0
def attrK(scope:Int)(s:List Nat):Int:=if scope=1 then dutyK s else if scope=2 then restK s else if scope=3 then pairK s else 0
theorem pres_ev(s:List Nat):DCall pE 251 [.s s] []=some (.b (resS s),[]):=by
 by_cases h:s∈resW
 ·rw[resS,decide_eq_true h]
  have h':=h
  simp only[resW,List.mem_cons,List.not_mem_nil,or_false]at h'
  rcases h' with rfl|rfl|rfl|rfl|rfl|rfl|rfl|rfl|rfl|rfl|rfl|rfl|rfl <;> exact dcall_of (m:=100) (by_callK (by kernel_rfl))
 ·rw[resS,decide_eq_false h]
  have h':=h
  simp only[resW,List.mem_cons,List.not_mem_nil,or_false,not_or]at h'
  obtain⟨e0,e1,e2,e3,e4,e5,e6,e7,e8,e9,e10,e11,e12⟩:=h'
  rw[p_fun fn251 (by simp[c251])]
  simp only[qF,qGO0,qGO1,qGO2,qGO3,qGO4,qGO5,reduceCtorEq,Nat.reduceLT,Nat.reduceEqDiff,c251,e0,e1,e2,e3,e4,e5,e6,e7,e8,e9,e10,e11,e12]
theorem pdname_ev(s:List Nat):DCall pE 218 [.s s] []=some (.b (dnameS s),[]):=by
 rw[p_fun fn218 (by simp[c218])]
 cases h:nameS s <;> simp only[qF,qGO0,qGO1,qGO2,qGO3,qGO4,reduceCtorEq,Nat.reduceLT,Nat.reduceEqDiff,c218,pname_ev,pres_ev,dc174,dc251,h,dnameS]
theorem pduty_ev(s:List Nat):DCall pE 133 [.s s] []=some (.i .i64 (dutyK s),[]):=by
 by_cases h1:s∈numW
 ·rw[dutyK,if_pos h1]
  have h1':=h1
  simp only[numW,List.mem_cons,List.not_mem_nil,or_false]at h1'
  rcases h1' with rfl|rfl|rfl <;> exact dcall_of (m:=100) (by_callK (by kernel_rfl))
 ·rw[dutyK,if_neg h1]
  by_cases h2:s∈durW
  ·rw[if_pos h2]
   have h2':=h2
   simp only[durW,List.mem_cons,List.not_mem_nil,or_false]at h2'
   rcases h2' with rfl|rfl|rfl|rfl|rfl|rfl <;> exact dcall_of (m:=100) (by_callK (by kernel_rfl))
  ·rw[if_neg h2]
   by_cases h3:s∈clkW
   ·rw[if_pos h3]
    have h3':=h3
    simp only[clkW,List.mem_cons,List.not_mem_nil,or_false]at h3'
    rcases h3' with rfl|rfl <;> exact dcall_of (m:=100) (by_callK (by kernel_rfl))
   ·rw[if_neg h3]
    have h1':=h1
    simp only[numW,List.mem_cons,List.not_mem_nil,or_false,not_or]at h1'
    obtain⟨a0,a1,a2⟩:=h1'
    have h2':=h2
    simp only[durW,List.mem_cons,List.not_mem_nil,or_false,not_or]at h2'
    obtain⟨b0,b1,b2,b3,b4,b5⟩:=h2'
    have h3':=h3
    simp only[clkW,List.mem_cons,List.not_mem_nil,or_false,not_or]at h3'
    obtain⟨d0,d1⟩:=h3'
    rw[p_fun fn133 (by simp[c133])]
    simp only[qF,qGO0,qGO1,qGO2,qGO3,qGO4,qGO5,reduceCtorEq,Nat.reduceLT,Nat.reduceEqDiff,c133,a0,a1,a2,b0,b1,b2,b3,b4,b5,d0,d1]
theorem ppair_ev(s:List Nat):DCall pE 135 [.s s] []=some (.i .i64 (pairK s),[]):=by
 by_cases h1:s∈pnumW
 ·rw[pairK,if_pos h1]
  have h1':=h1
  simp only[pnumW,List.mem_cons,List.not_mem_nil,or_false]at h1'
  rcases h1' with rfl|rfl|rfl|rfl <;> exact dcall_of (m:=100) (by_callK (by kernel_rfl))
 ·rw[pairK,if_neg h1]
  by_cases h2:s∈pdurW
  ·rw[if_pos h2]
   have h2':=h2
   simp only[pdurW,List.mem_cons,List.not_mem_nil,or_false]at h2'
   rcases h2' with rfl|rfl|rfl <;> exact dcall_of (m:=100) (by_callK (by kernel_rfl))
  ·rw[if_neg h2]
   have h1':=h1
   simp only[pnumW,List.mem_cons,List.not_mem_nil,or_false,not_or]at h1'
   obtain⟨a0,a1,a2,a3⟩:=h1'
   have h2':=h2
   simp only[pdurW,List.mem_cons,List.not_mem_nil,or_false,not_or]at h2'
   obtain⟨b0,b1,b2⟩:=h2'
   rw[p_fun fn135 (by simp[c135])]
   simp only[qF,qGO0,qGO1,qGO2,qGO3,qGO4,qGO5,reduceCtorEq,Nat.reduceLT,Nat.reduceEqDiff,c135,a0,a1,a2,a3,b0,b1,b2]
theorem hasPre_ev(s p:List Nat):DCall pE 266 [.s s,.s p] []=some (.b (decide (hasP p s)),[]):=by
 rw[p_fun fn266 (by simp[c266])]
 by_cases h:p.length≤s.length
 ·have h':(p.length:Int)≤s.length:=by omega
  simp only[qF,qGO0,qGO1,qGO2,qGO3,qGO4,qGO5,slSV,optVal,reduceCtorEq,Nat.reduceLT,Nat.reduceEqDiff,c266,h,h',hasP,Nat.sub_zero]
 ·have h': ¬(p.length:Int)≤s.length:=by omega
  simp only[qF,qGO0,qGO1,qGO2,qGO3,qGO4,qGO5,reduceCtorEq,Nat.reduceLT,Nat.reduceEqDiff,c266,h,h',hasP]
theorem cutPre_ev(s p:List Nat):DCall pE 212 [.s s,.s p] []=some (if hasP p s then .tup [.s (s.drop p.length),.b true]else .tup [.s s,.b false],[]):=by
 rw[p_fun fn212 (by simp[c212])]
 have h1:DCall pE 243 [.s s,.s p] []=some (if hasP p s then .tup [.s (s.drop p.length),.b true]else .tup [.s s,.b false],[]):=by
  rw[p_fun fn243 (by simp[c243])]
  by_cases h:hasP p s
  ·have hl:p.length≤s.length:=h.1
   have ht:List.take (s.length-p.length) (s.drop p.length)=s.drop p.length:=List.take_of_length_le (by simp)
   simp only[qF,qGO0,qGO1,qGO2,qGO3,qGO4,qGO5,slSV,optVal,reduceCtorEq,Nat.reduceLT,Nat.reduceEqDiff,c243,hasPre_ev,dc266,h,hl,ht]
  ·simp only[qF,qGO0,qGO1,qGO2,qGO3,qGO4,qGO5,reduceCtorEq,Nat.reduceLT,Nat.reduceEqDiff,c243,hasPre_ev,dc266,h]
 by_cases h:hasP p s <;> simp only[h]at h1 <;> simp only[qF,qGO0,qGO1,qGO2,qGO3,qGO4,reduceCtorEq,Nat.reduceLT,Nat.reduceEqDiff,c212,h1,dc243,h]
theorem prest_ev(s:List Nat):DCall pE 134 [.s s] []=some (.i .i64 (restK s),[]):=by
 by_cases h1:s= [114,101,115,116]
 ·subst h1;exact dcall_of (m:=100) (by_callK (by kernel_rfl))
 ·by_cases h2:s= [110,105,103,104,116,115]
  ·subst h2;exact dcall_of (m:=100) (by_callK (by kernel_rfl))
  ·by_cases h3:s= [104,111,109,101]
   ·subst h3;exact dcall_of (m:=100) (by_callK (by kernel_rfl))
   ·have b1:=cutPre_ev s bef
    have b2:=cutPre_ev s aft
    have l1:bef.length=7:=rfl
    have l2:aft.length=6:=rfl
    rw[restK,if_neg h1,if_neg h2,if_neg h3]
    rw[p_fun fn134 (by simp[c134])]
    rw[l1]at b1
    rw[l2]at b2
    by_cases h4:hasP bef s
    ·rw[if_pos h4]at b1
     unfold bef at b1
     simp only[qF,qGO0,qGO1,qGO2,qGO3,qGO4,qGO5,reduceCtorEq,Nat.reduceLT,Nat.reduceEqDiff,c134,h1,h2,h3,b1,pduty_ev,dc212,dc133,h4]
    ·rw[if_neg h4]at b1
     by_cases h5:hasP aft s
     ·rw[if_pos h5]at b2
      unfold bef at b1
      unfold aft at b2
      simp only[qF,qGO0,qGO1,qGO2,qGO3,qGO4,qGO5,reduceCtorEq,Nat.reduceLT,Nat.reduceEqDiff,c134,h1,h2,h3,b1,b2,pduty_ev,dc212,dc133,h4,h5]
     ·rw[if_neg h5]at b2
      unfold bef at b1
      unfold aft at b2
      simp only[qF,qGO0,qGO1,qGO2,qGO3,qGO4,qGO5,reduceCtorEq,Nat.reduceLT,Nat.reduceEqDiff,c134,h1,h2,h3,b1,b2,pduty_ev,dc212,dc133,h4,h5]
def attrE(scope:Int)(s:List Nat):Int:=if attrK scope s=0 then 6 else 0
theorem pattr_ev(scope:Int)(s:List Nat):DCall pE 89 [.i .i64 scope,.s s] []=some (.tup [.i .i64 (attrK scope s),.i .i64 (attrE scope s)],[]):=by
 rw[p_fun fn89 (by simp[c89])]
 by_cases h1:scope=1
 ·by_cases h:dutyK s=0 <;> simp only[qF,qGO0,qGO1,qGO2,qGO3,qGO4,qGO5,reduceCtorEq,Nat.reduceLT,Nat.reduceEqDiff,Int.reduceEq,c89,h1,attrE,attrK,pduty_ev,dc133,h]
 ·by_cases h2:scope=2
  ·by_cases h:restK s=0 <;> simp only[qF,qGO0,qGO1,qGO2,qGO3,qGO4,qGO5,reduceCtorEq,Nat.reduceLT,Nat.reduceEqDiff,Int.reduceEq,c89,h2,attrE,attrK,prest_ev,dc134,h]
  ·by_cases h3:scope=3
   ·by_cases h:pairK s=0 <;> simp only[qF,qGO0,qGO1,qGO2,qGO3,qGO4,qGO5,reduceCtorEq,Nat.reduceLT,Nat.reduceEqDiff,Int.reduceEq,c89,h3,attrE,attrK,ppair_ev,dc135,h]
   ·simp only[qF,qGO0,qGO1,qGO2,qGO3,qGO4,qGO5,reduceCtorEq,Nat.reduceLT,Nat.reduceEqDiff,c89,h1,h2,h3,attrE,attrK]
def strs(l:List (List Nat)):List T:=l.map T.s
theorem strs_len(l:List (List Nat)):(strs l).length=l.length:=by simp[strs]
theorem strs_drop(l:List (List Nat))(k:Nat)(hk:k<l.length):(strs l).drop k=T.s l[k]::(strs l).drop (k+1):=by
 rw[List.drop_eq_getElem_cons (by rw[strs_len];exact hk)];simp[strs]
theorem rnames1_ev:DCall pE 84 [.i .i64 1] []=some (.sl (strs dutyW) 11 true,[]):=dcall_of (m:=100) (by_callK (by kernel_rfl))
theorem rnames2_ev:DCall pE 84 [.i .i64 2] []=some (.sl (strs restW) 25 false,[]):=dcall_of (m:=100) (by_callK (by kernel_rfl))
theorem rnames3_ev:DCall pE 84 [.i .i64 3] []=some (.sl (strs pairW) 7 true,[]):=dcall_of (m:=100) (by_callK (by kernel_rfl))
theorem rnames0_ev(scope:Int)(h1:scope≠1)(h2:scope≠2)(h3:scope≠3):DCall pE 84 [.i .i64 scope] []=some (.nilsl,[]):=by
 rw[p_fun fn84 (by simp[c84])]
 simp only[qF,qGO0,qGO1,qGO2,qGO3,qGO4,qGO5,bslV,bslW,splice,fills,repl,Nat.reduceAdd,reduceCtorEq,Nat.reduceLT,Nat.reduceLeDiff,Nat.reduceEqDiff,c84,h1,h2,h3]
theorem rattr1(s:List Nat)(v:T)(l:List (List Nat))(hv:IsSl v l.length (strs l))(hb:l.length<1000)(hs:s∉l)(lh:Tri Ent)(sh:List Ent): ∀(m k:Nat) (fr:Fr),l.length-k=m→k≤l.length→getF fr 1= .s s→getF fr 6=v→getF fr 7= .i .i64 (k:Int)→
  ∃fr',DC pE 69 (.loop c85_L1) ⟨fr,lh,sh⟩=some (.ext 0,⟨fr',lh,sh⟩)∧getF fr' 1= .s s
 |0,k,fr,hm,hk,h1,h6,h7=>by
  have:k=l.length:=by omega
  subst this
  rw[DC_loop]
  generalize hK:DC pE 69 (.loop c85_L1)=K
  simp only[qGO0,qGO1,qGO2,qGO4,qGO5,Nat.reduceLT,Nat.reduceEqDiff,c85_L1,h6,h7,hv.lenI,Int.lt_irrefl]
  exact⟨_,rfl,by simp only[qGO2,qGO4,Nat.reduceEqDiff,h1]⟩
 |m+1,k,fr,hm,hk,h1,h6,h7=>by
  have hlt:k<l.length:=by omega
  have hlt':(k:Int)<l.length:=by omega
  have hw:=wr_succ (k:=k) (by omega)
  have hne: ¬l[k]=s:=fun e=>hs (e▸List.getElem_mem hlt)
  have hia: ∀kk,iaV v (.i kk (k:Int)) 1=some (.vp (T.s l[k]::(strs l).drop (k+1))):=fun kk=>by rw[hv.ia (sz:=1) (by rw[strs_len];omega) hlt,Nat.mul_one,strs_drop l k hlt]
  rw[DC_loop]
  generalize hK:DC pE 69 (.loop c85_L1)=K
  simp only[qGO0,qGO1,qGO2,qGO3,qGO4,qGO5,Nat.reduceLT,Nat.reduceEqDiff,c85_L1,h1,h6,h7,hv.lenI,hlt',hia,hne,hw]
  rw[←hK]
  refine rattr1 s v l hv hb hs lh sh m (k+1) _ (by omega) (by omega) ?_ ?_ ?_ <;> simp only[qGO2,qGO4,Nat.reduceEqDiff,h1,h6]
theorem rattr1'(s:List Nat)(v:T)(l:List (List Nat))(hv:IsSl v l.length (strs l))(hb:l.length<1000)(hs:s∉l)(fr:Fr)(lh:Tri Ent)(sh:List Ent)(h1:getF fr 1= .s s)(h6:getF fr 6=v)(h7:getF fr 7= .i .i64 0):
  DC pE 69 (.loop c85_L1) ⟨fr,lh,sh⟩=some (.ext 0,⟨frL pE 69 c85_L1 fr lh sh,lh,sh⟩):=
 (loop_fix (rattr1 s v l hv hb hs lh sh l.length 0 fr (by omega) (by omega) h1 h6 h7)).1
theorem rduty_ev(s:List Nat):DCall pE 85 [.i .i64 1,.s s] []=some (.tup [.i .i64 (dutyK s),.i .i64 (if dutyK s=0 then 6 else 0)],[]):=by
 by_cases h:s∈dutyW
 ·have h':=h
  simp only[dutyW,List.mem_cons,List.not_mem_nil,or_false]at h'
  rcases h' with rfl|rfl|rfl|rfl|rfl|rfl|rfl|rfl|rfl|rfl|rfl <;> exact dcall_of (m:=100) (by_callK (by kernel_rfl))
 ·have hk:dutyK s=0:=by
   simp only[dutyW,List.mem_cons,List.not_mem_nil,or_false,not_or]at h
   obtain⟨e0,e1,e2,e3,e4,e5,e6,e7,e8,e9,e10⟩:=h
   simp[dutyK,numW,durW,clkW,e0,e1,e2,e3,e4,e5,e6,e7,e8,e9,e10]
  rw[p_fun fn85 (by simp[c85])]
  have hL:=fun fr lh sh=>rattr1' s (.sl (strs dutyW) 11 true) dutyW (Or.inr ⟨true,rfl⟩) (by decide) h fr lh sh
  simp only[qF,qGO0,qGO1,qGO2,qGO3,qGO4,qGO5,slSV,optVal,reduceCtorEq,Nat.reduceLT,Nat.reduceEqDiff,Int.reduceToNat,Int.reduceLE,Int.reduceEq,c85,rnames1_ev,dc84,hL,hk]
theorem rpairA_ev(s:List Nat):DCall pE 85 [.i .i64 3,.s s] []=some (.tup [.i .i64 (pairK s),.i .i64 (if pairK s=0 then 6 else 0)],[]):=by
 by_cases h:s∈pairW
 ·have h':=h
  simp only[pairW,List.mem_cons,List.not_mem_nil,or_false]at h'
  rcases h' with rfl|rfl|rfl|rfl|rfl|rfl|rfl <;> exact dcall_of (m:=100) (by_callK (by kernel_rfl))
 ·have hk:pairK s=0:=by
   simp only[pairW,List.mem_cons,List.not_mem_nil,or_false,not_or]at h
   obtain⟨e0,e1,e2,e3,e4,e5,e6⟩:=h
   simp[pairK,pnumW,pdurW,e0,e1,e2,e3,e4,e5,e6]
  rw[p_fun fn85 (by simp[c85])]
  have hL:=fun fr lh sh=>rattr1' s (.sl (strs pairW) 7 true) pairW (Or.inr ⟨true,rfl⟩) (by decide) h fr lh sh
  simp only[qF,qGO0,qGO1,qGO2,qGO3,qGO4,qGO5,slSV,optVal,reduceCtorEq,Nat.reduceLT,Nat.reduceEqDiff,Int.reduceToNat,Int.reduceLE,Int.reduceEq,c85,rnames3_ev,dc84,hL,hk]
theorem restW_pre{s:List Nat}(hs:s∈restW):s= [114,101,115,116]∨s= [110,105,103,104,116,115]∨s= [104,111,109,101]∨(7<s.length∧s.take 7=bef)∨(6<s.length∧s.take 6=aft):=by
 simp only[restW,List.mem_cons,List.not_mem_nil,or_false]at hs
 rcases hs with rfl|rfl|rfl|rfl|rfl|rfl|rfl|rfl|rfl|rfl|rfl|rfl|rfl|rfl|rfl|rfl|rfl|rfl|rfl|rfl|rfl|rfl|rfl|rfl|rfl <;> decide
theorem hasP_bef(s:List Nat):hasP bef s↔(7≤s.length∧s.take 7=bef):=Iff.rfl
theorem hasP_aft(s:List Nat):hasP aft s↔(6≤s.length∧s.take 6=aft):=Iff.rfl
theorem rrestA_ev(s:List Nat):DCall pE 85 [.i .i64 2,.s s] []=some (.tup [.i .i64 (restK s),.i .i64 (if restK s=0 then 6 else 0)],[]):=by
 by_cases h1:s= [114,101,115,116]
 ·subst h1;exact dcall_of (m:=100) (by_callK (by kernel_rfl))
 by_cases h2:s= [110,105,103,104,116,115]
 ·subst h2;exact dcall_of (m:=100) (by_callK (by kernel_rfl))
 by_cases h3:s= [104,111,109,101]
 ·subst h3;exact dcall_of (m:=100) (by_callK (by kernel_rfl))
 rw[restK,if_neg h1,if_neg h2,if_neg h3]
 by_cases h4:hasP bef s
 ·rw[if_pos h4]
  have h4':=(hasP_bef s).1 h4
  by_cases h6:7<s.length
  ·have h6':(7:Int)<s.length:=by omega
   have hle:7≤s.length:=by omega
   have e:=h4'.2
   unfold bef at e
   have ht:List.take (s.length-7) (s.drop 7)=s.drop 7:=List.take_of_length_le (by simp)
   rw[p_fun fn85 (by simp[c85])]
   simp only[qF,qGO0,qGO1,qGO2,qGO3,qGO4,qGO5,slSV,optVal,reduceCtorEq,Nat.reduceLT,Nat.reduceEqDiff,Int.reduceToNat,Int.reduceLE,c85,h6',hle,Nat.sub_zero,e,rduty_ev,dc85,ht]
  ·have:s=bef:=by
    rw[←h4'.2,List.take_of_length_le (by omega)]
   subst this
   exact dcall_of (m:=100) (by_callK (by kernel_rfl))
 ·rw[if_neg h4]
  have b1: ¬((7:Int)<s.length∧s.take 7=bef):=fun⟨a,b⟩=>h4 ((hasP_bef s).2 ⟨by omega,b⟩)
  by_cases h5:hasP aft s
  ·rw[if_pos h5]
   have h5':=(hasP_aft s).1 h5
   by_cases h6:6<s.length
   ·have h6':(6:Int)<s.length:=by omega
    have hle:6≤s.length:=by omega
    have e:=h5'.2
    unfold aft at e
    have ht:List.take (s.length-6) (s.drop 6)=s.drop 6:=List.take_of_length_le (by simp)
    rw[p_fun fn85 (by simp[c85])]
    by_cases h7:(7:Int)<s.length
    ·have hle7:7≤s.length:=by omega
     have e7: ¬s.take 7= [98,101,102,111,114,101,46]:=fun b=>b1 ⟨h7,b⟩
     simp only[qF,qGO0,qGO1,qGO2,qGO3,qGO4,qGO5,slSV,optVal,reduceCtorEq,Nat.reduceLT,Nat.reduceEqDiff,Int.reduceToNat,Int.reduceLE,c85,h6',hle,h7,hle7,e7,Nat.sub_zero,e,rduty_ev,dc85,ht]
    ·simp only[qF,qGO0,qGO1,qGO2,qGO3,qGO4,qGO5,slSV,optVal,reduceCtorEq,Nat.reduceLT,Nat.reduceEqDiff,Int.reduceToNat,Int.reduceLE,c85,h6',hle,h7,Nat.sub_zero,e,rduty_ev,dc85,ht]
   ·have:s=aft:=by
     rw[←h5'.2,List.take_of_length_le (by omega)]
    subst this
    exact dcall_of (m:=100) (by_callK (by kernel_rfl))
  ·rw[if_neg h5]
   have b2: ¬((6:Int)<s.length∧s.take 6=aft):=fun⟨a,b⟩=>h5 ((hasP_aft s).2 ⟨by omega,b⟩)
   have hs:s∉restW:=fun hm=>by
    rcases restW_pre hm with h|h|h|⟨a,b⟩|⟨a,b⟩
    ·exact h1 h
    ·exact h2 h
    ·exact h3 h
    ·exact b1 ⟨by omega,b⟩
    ·exact b2 ⟨by omega,b⟩
   have hL:=fun fr lh sh=>rattr1' s (.sl (strs restW) 25 false) restW (Or.inr ⟨false,rfl⟩) (by decide) hs fr lh sh
   rw[p_fun fn85 (by simp[c85])]
   by_cases h7:(7:Int)<s.length
   ·have h6:(6:Int)<s.length:=by omega
    have hle7:7≤s.length:=by omega
    have hle:6≤s.length:=by omega
    have e7: ¬s.take 7= [98,101,102,111,114,101,46]:=fun b=>b1 ⟨h7,b⟩
    have e6: ¬s.take 6= [97,102,116,101,114,46]:=fun b=>b2 ⟨h6,b⟩
    simp only[qF,qGO0,qGO1,qGO2,qGO3,qGO4,qGO5,slSV,optVal,reduceCtorEq,Nat.reduceLT,Nat.reduceEqDiff,Int.reduceToNat,Int.reduceLE,c85,h6,h7,hle,hle7,e7,e6,Nat.sub_zero,rnames2_ev,dc84,hL]
   ·by_cases h6:(6:Int)<s.length
    ·have hle:6≤s.length:=by omega
     have e6: ¬s.take 6= [97,102,116,101,114,46]:=fun b=>b2 ⟨h6,b⟩
     simp only[qF,qGO0,qGO1,qGO2,qGO3,qGO4,qGO5,slSV,optVal,reduceCtorEq,Nat.reduceLT,Nat.reduceEqDiff,Int.reduceToNat,Int.reduceLE,c85,h6,h7,hle,e6,Nat.sub_zero,rnames2_ev,dc84,hL]
    ·simp only[qF,qGO0,qGO1,qGO2,qGO3,qGO4,qGO5,slSV,optVal,reduceCtorEq,Nat.reduceLT,Nat.reduceEqDiff,Int.reduceToNat,Int.reduceLE,c85,h6,h7,rnames2_ev,dc84,hL]
theorem rattr_ev(scope:Int)(s:List Nat):DCall pE 85 [.i .i64 scope,.s s] []=some (.tup [.i .i64 (attrK scope s),.i .i64 (attrE scope s)],[]):=by
 unfold attrE attrK
 by_cases h1:scope=1
 ·subst h1;exact rduty_ev s
 ·by_cases h2:scope=2
  ·subst h2;exact rrestA_ev s
  ·by_cases h3:scope=3
   ·subst h3;exact rpairA_ev s
   ·simp only[h1,h2,h3,if_false,if_true]
    rw[p_fun fn85 (by simp[c85])]
    have hL:=fun fr lh sh=>rattr1' s .nilsl [] (Or.inl ⟨rfl,rfl,rfl⟩) (by decide) (by simp) fr lh sh
    simp only[qF,qGO0,qGO1,qGO2,qGO3,qGO4,qGO5,slSV,optVal,reduceCtorEq,Nat.reduceLT,Nat.reduceEqDiff,Int.reduceToNat,Int.reduceLE,c85,h2,rnames0_ev scope h1 h2 h3,dc84,hL]
end Go.Proofs.YtfenhjpkomldcaaGreat
