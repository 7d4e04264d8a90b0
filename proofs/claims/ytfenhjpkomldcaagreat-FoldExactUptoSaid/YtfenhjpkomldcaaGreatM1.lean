/- Expressions as trees, and what stands for them. Names: what the program and the reference take for one. Reserved words and names of attributes. Conditions: the theorems' own. -/
import Derived.Test.YtfenhjpkomldcaaGreatGS
import Derived.KernelRfl
set_option maxRecDepth 100000
set_option linter.unusedSimpArgs false
set_option linter.unusedVariables false
set_option maxHeartbeats 16000000
namespace Go.Proofs.YtfenhjpkomldcaaGreat
open Go Go.Ev
theorem bW{m f:Nat}{args:List T}{r:T×List aA}(h:cm pE m f args []=some r):aa pE f args []=some r:=DCall_iff.2 ⟨m,h⟩
theorem K5{m f:Nat}{args:List T}{v:T}(h:(cm pE m f args []).map (·.1)=some v): ∃s,aa pE f args []=some (v,s):=by
 cases hc:cm pE m f args []with
 |none=>rw[hc]at h;cases h
 |some r=>
  rw[hc]at h
  obtain⟨a,s⟩:=r
  simp at h
  subst h
  exact⟨s,DCall_iff.2 ⟨m,hc⟩⟩
inductive Ex where
 |mk (op num:Int) (name:List Nat) (args:List Ex)
def Ex.op:Ex→Int| .mk o _ _ _=>o
def Ex.num:Ex→Int| .mk _ n _ _=>n
def Ex.name:Ex→List Nat| .mk _ _ s _=>s
def Ex.args:Ex→List Ex| .mk _ _ _ a=>a
mutual
def bj:Ex→List T→Prop
 | .mk op num name args,cs=> ∃a cc,cs= [.i .i64 op,.i .i64 num,.s name,a]∧aN a args.length cc∧aL args cc
def aL:List Ex→List T→Prop
 | [],cs=>cs= []
 |x::xs,cs=> ∃c r,cs=c++r∧bj x c∧aL xs r
end
theorem bj.cells{x:Ex}{cs:List T}(h:bj x cs): ∃a cc,cs= [.i .i64 x.op,.i .i64 x.num,.s x.name,a]∧aN a x.args.length cc∧aL x.args cc:=by
 obtain⟨o,n,s,a⟩:=x
 rw[bj]at h
 exact h
theorem bj.of{x:Ex}{a:T}{cc:List T}(h1:aN a x.args.length cc)(h2:aL x.args cc):bj x [.i .i64 x.op,.i .i64 x.num,.s x.name,a]:=by
 obtain⟨o,n,s,l⟩:=x
 rw[bj]
 exact⟨a,cc,rfl,h1,h2⟩
theorem bj.len{x:Ex}{cs:List T}(h:bj x cs):cs.length=4:=by
 obtain⟨a,cc,rfl,_⟩:=h.cells;rfl
theorem aL.len: ∀{xs:List Ex} {cs:List T},aL xs cs→cs.length=xs.length*4
 | [],cs,h=>by rw[aL]at h;rw[h];rfl
 |x::xs,cs,h=>by
  rw[aL]at h
  obtain⟨c,r,rfl,h1,h2⟩:=h
  rw[List.length_append,h1.len,h2.len,List.length_cons];omega
theorem aL.nil:aL [] []:=by rw[aL]
theorem aL.cons{x:Ex}{xs:List Ex}{c r:List T}(h1:bj x c)(h2:aL xs r):aL (x::xs) (c++r):=by
 rw[aL];exact⟨c,r,rfl,h1,h2⟩
theorem aL.append: ∀{xs ys:List Ex} {c r:List T},aL xs c→aL ys r→aL (xs++ys) (c++r)
 | [],ys,c,r,h1,h2=>by rw[aL]at h1;subst h1;exact h2
 |x::xs,ys,c,r,h1,h2=>by
  rw[aL]at h1
  obtain⟨c1,r1,rfl,h3,h4⟩:=h1
  rw[List.append_assoc]
  exact aL.cons h3 (aL.append h4 h2)
theorem aL.one{x:Ex}{c:List T}(h:bj x c):aL [x] c:=by
 have:=aL.cons h aL.nil
 rwa [List.append_nil]at this
theorem aL.drop: ∀{xs:List Ex} {cs:List T} (k:Nat) (hk:k<xs.length),aL xs cs→ ∃c r,cs.drop (k*4)=c++r∧bj xs[k] c∧aL (xs.drop (k+1)) r
 | [],cs,k,hk,h=>by simp at hk
 |x::xs,cs,0,hk,h=>by
  rw[aL]at h
  obtain⟨c,r,rfl,h1,h2⟩:=h
  exact⟨c,r,by simp,h1,by simpa using h2⟩
 |x::xs,cs,k+1,hk,h=>by
  rw[aL]at h
  obtain⟨c,r,rfl,h1,h2⟩:=h
  obtain⟨c',r',e,h3,h4⟩:=aL.drop k (by simpa using hk) h2
  refine⟨c',r', ?_,h3,by simpa using h4⟩
  have:(k+1)*4=c.length+k*4:=by rw[h1.len];omega
  rw[this,List.drop_append,Nat.add_sub_cancel_left,List.drop_eq_nil_of_le (by omega),e];rfl
theorem dV{xs:List Ex}{a:T}{cc:List T}(h1:aN a xs.length cc)(h2:aL xs cc)(k:Nat)(hk:k<xs.length):
  ∃b cb r,(∀kk,tJ a (.i kk (k:Int)) 4=some (.vp (.i .i64 xs[k].op:: .i .i64 xs[k].num:: .s xs[k].name::b::r)))∧aN b xs[k].args.length cb∧aL xs[k].args cb∧bj xs[k] [.i .i64 xs[k].op,.i .i64 xs[k].num,.s xs[k].name,b]:=by
 obtain⟨c,r,e,h3,h4⟩:=aL.drop k hk h2
 obtain⟨b,cb,rfl,h5,h6⟩:=h3.cells
 refine⟨b,cb,r,fun kk=> ?_,h5,h6,h3⟩
 rw[h1.ia (sz:=4) h2.len hk,e];rfl
mutual
def Ex.nodes:Ex→Nat
 | .mk _ _ _ args=>1+aR args
def aR:List Ex→Nat
 | []=>0
 |x::xs=>x.nodes+aR xs
end
mutual
def Ex.depth:Ex→Nat
 | .mk _ _ _ args=>1+eG args
def eG:List Ex→Nat
 | []=>0
 |x::xs=>max x.depth (eG xs)
end
theorem Ex.nodes_eq(x:Ex):x.nodes=1+aR x.args:=by obtain⟨_,_,_,_⟩:=x;rw[Ex.nodes];rfl
theorem Ex.depth_eq(x:Ex):x.depth=1+eG x.args:=by obtain⟨_,_,_,_⟩:=x;rw[Ex.depth];rfl
theorem bE: ∀xs:List Ex,xs.length≤aR xs
 | []=>by simp
 |x::xs=>by
  have:=bE xs
  rw[aR,List.length_cons,x.nodes_eq];omega
theorem cB: ∀{xs:List Ex} {x:Ex},x∈xs→x.nodes≤aR xs
 |y::xs,x,h=>by
  rw[aR]
  rcases List.mem_cons.1 h with rfl|h
  ·omega
  ·have:=cB h;omega
theorem sa: ∀{xs:List Ex} {x:Ex},x∈xs→x.depth≤eG xs
 |y::xs,x,h=>by
  rw[eG]
  rcases List.mem_cons.1 h with rfl|h
  ·omega
  ·have:=sa h;omega
theorem Ex.ind{P:Ex→Prop}(h: ∀x:Ex,(∀y∈x.args,P y)→P x)(x:Ex):P x:=by
 have: ∀n (x:Ex),x.nodes≤n→P x:=by
  intro n
  induction n with
  |zero=>intro x hx;rw[x.nodes_eq]at hx;omega
  |succ n ih=>
   intro x hx
   refine h x fun y hy=>ih y ?_
   have:=cB hy
   rw[x.nodes_eq]at hx;omega
 exact this _ x (Nat.le_refl _)
end Go.Proofs.YtfenhjpkomldcaaGreat
namespace Go.Proofs.YtfenhjpkomldcaaGreat
open Go Go.Ev
def nZ(c:Nat):Prop:=(97:Int)≤c∧(c:Int)≤122
def vB(c:Nat):Prop:=(48:Int)≤c∧(c:Int)≤57
instance (c:Nat):Decidable (nZ c):=by unfold nZ;infer_instance
instance (c:Nat):Decidable (vB c):=by unfold vB;infer_instance
def eV(c:Nat):Bool:=decide (nZ c∨vB c∨(c:Int)=95)
def fm:List Nat→Bool
 | []=>false
 |c::cs=>decide (cs.length<16)&&(decide (nZ c)&&cs.all eV)
theorem jc(c:Nat):aa pE 228 [.i .u8 c] []=some (.b (decide (nZ c)),[]):=by
 rw[aD Na (by simp[Cu])]
 by_cases h1:(97:Int)≤c
 ·by_cases h2:(c:Int)≤122 <;> simp only[qF,ah,ai,ab,aj,ae,ak,reduceCtorEq,Nat.reduceLT,Nat.reduceEqDiff,Cu,h1,h2,nZ]
 ·simp only[qF,ah,ai,ab,aj,ae,ak,reduceCtorEq,Nat.reduceLT,Nat.reduceEqDiff,Cu,h1,nZ]
theorem pg(c:Nat):aa pE 229 [.i .u8 c] []=some (.b (decide (vB c)),[]):=by
 rw[aD Nb (by simp[Cv])]
 by_cases h1:(48:Int)≤c
 ·by_cases h2:(c:Int)≤57 <;> simp only[qF,ah,ai,ab,aj,ae,ak,reduceCtorEq,Nat.reduceLT,Nat.reduceEqDiff,Cv,h1,h2,vB]
 ·simp only[qF,ah,ai,ab,aj,ae,ak,reduceCtorEq,Nat.reduceLT,Nat.reduceEqDiff,Cv,h1,vB]
theorem lI{s:List Nat}{k:Nat}(hk:k<s.length)(kk:IntKind):zL (.s s) (.i kk (k:Int))=some (.i .u8 (s[k]:Int)):=by
 rw[zV,if_pos (Int.natCast_nonneg k),Int.toNat_natCast,List.getElem?_eq_getElem hk];rfl
theorem n4{k:Nat}(h:k<4611686018427387904):wr .i64 ((k:Int)+1)=((k+1:Nat):Int):=by rw[lg (by omega)];omega
theorem vC(s:List Nat)(hs:s.length≤16)(lh:aQ aA)(sh:List aA): ∀(m k:Nat) (fr:Fr),s.length-k=m→k≤s.length→an fr 0= .s s→an fr 3= .i .i64 (k:Int)→
  ∃g7,DC pE 42 (.loop ft) ⟨fr,lh,sh⟩=some (if(s.drop k).all eV then .ext 0 else .ret,⟨g7,lh,sh⟩)∧((s.drop k).all eV=false→an g7 2= .b false)
 |0,k,fr,hm,hk,h0,h3=>by
  have:k=s.length:=by omega
  subst this
  rw[fU]
  generalize hK:DC pE 42 (.loop ft)=K
  simp only[ah,ai,ab,ae,ak,reduceCtorEq,Nat.reduceLT,Nat.reduceEqDiff,ft,h0,h3,Int.lt_irrefl]
  simp
 |m+1,k,fr,hm,hk,h0,h3=>by
  have dG:k<s.length:=by omega
  have nw:(k:Int)<s.length:=by omega
  have Zh:s.drop k=s[k]::s.drop (k+1):=List.drop_eq_getElem_cons dG
  have hw:=n4 (k:=k) (by omega)
  rw[fU,Zh,List.all_cons]
  generalize hK:DC pE 42 (.loop ft)=K
  by_cases c1:nZ s[k]
  ·have ht:eV s[k]=true:=by simp[eV,c1]
   simp only[qF,ah,ai,ab,aj,ae,reduceCtorEq,Nat.reduceLT,Nat.reduceEqDiff,ft,h0,h3,nw,lI dG,jc,qY,c1,ht,hw]
   rw[←hK]
   refine vC s hs lh sh m (k+1) _ (by omega) (by omega) ?_ ?_ <;> simp only[ab,ae,reduceCtorEq,h0]
  ·by_cases c2:vB s[k]
   ·have ht:eV s[k]=true:=by simp[eV,c2]
    simp only[qF,ah,ai,ab,aj,ae,ak,reduceCtorEq,Nat.reduceLT,Nat.reduceEqDiff,ft,h0,h3,nw,lI dG,jc,pg,qY,Fh,c1,c2,ht,hw]
    rw[←hK]
    refine vC s hs lh sh m (k+1) _ (by omega) (by omega) ?_ ?_ <;> simp only[ab,ae,reduceCtorEq,h0]
   ·by_cases c3:(s[k]:Int)=95
    ·have ht:eV s[k]=true:=by simp[eV,c3]
     have l1:=jc s[k]
     have l2:=pg s[k]
     rw[c3,decide_eq_false c1]at l1
     rw[c3,decide_eq_false c2]at l2
     simp only[qF,ah,ai,ab,aj,ae,reduceCtorEq,Nat.reduceLT,Nat.reduceEqDiff,ft,h0,h3,nw,lI dG,l1,l2,qY,Fh,c3,ht,hw]
     rw[←hK]
     refine vC s hs lh sh m (k+1) _ (by omega) (by omega) ?_ ?_ <;> simp only[ab,ae,reduceCtorEq,h0]
    ·have ht:eV s[k]=false:=by simp[eV,c1,c2,c3]
     simp only[qF,ah,ai,ab,aj,ae,ak,forall_const,reduceCtorEq,Nat.reduceLT,Nat.reduceEqDiff,ft,h0,h3,nw,lI dG,jc,pg,qY,Fh,c1,c2,c3,ht]
     exact⟨_,rfl,by simp only[ab]⟩
theorem K6(s:List Nat)(hs:s.length≤16)(fr:Fr)(lh:aQ aA)(sh:List aA)(h0:an fr 0= .s s)(h3:an fr 3= .i .i64 0):
  DC pE 42 (.loop ft) ⟨fr,lh,sh⟩=some (if s.all eV then .ext 0 else .ret,⟨ev pE 42 ft fr lh sh,lh,sh⟩)∧(s.all eV=false→an (ev pE 42 ft fr lh sh) 2= .b false):=by
 have:=rQ (vC s hs lh sh s.length 0 fr (by omega) (by omega) h0 h3)
 simpa using this
theorem xT(s:List Nat):aa pE 182 [.s s] []=some (.b (fm s),[]):=by
 rw[aD MO (by simp[uL])]
 cases s with
 |nil=>simp only[qF,ah,ai,ab,aj,ae,reduceCtorEq,Nat.reduceLT,Nat.reduceEqDiff,Int.reduceLT,uL,fm]
 |cons c cs=>
  have h1: ¬((cs.length+1:Nat):Int)<1:=by omega
  by_cases h2:(16:Int)<((cs.length+1:Nat):Int)
  ·have h3: ¬cs.length<16:=by omega
   simp only[qF,ah,ai,ab,aj,ae,ak,reduceCtorEq,Nat.reduceLT,Nat.reduceEqDiff,uL,fm,h1,h2,h3]
  ·have h3:cs.length<16:=by omega
   have Ri:zL (.s (c::cs)) (.i .i64 0)=some (.i .u8 (c:Int)):=by rw[zV];rfl
   by_cases c1:nZ c
   ·have ht:eV c=true:=by simp[eV,c1]
    have hL:=fun fr lh sh=>K6 (c::cs) (by simp;omega) fr lh sh
    simp only[List.all_cons,ht,Bool.true_and]at hL
    cases aU:cs.all eV with
    |true=>
     simp only[aU]at hL
     simp only[qF,ah,ai,ab,aj,ae,ak,reduceCtorEq,Nat.reduceLT,Nat.reduceEqDiff,uL,fm,h1,h2,h3,Ri,jc,qY,c1,hL,aU]
    |false=>
     simp only[aU]at hL
     simp only[qF,ah,ai,ab,aj,ae,ak,reduceCtorEq,Nat.reduceLT,Nat.reduceEqDiff,uL,fm,h1,h2,h3,Ri,jc,qY,c1,hL,aU]
   ·simp only[qF,ah,ai,ab,aj,ae,ak,reduceCtorEq,Nat.reduceLT,Nat.reduceEqDiff,uL,fm,h1,h2,h3,Ri,jc,qY,c1]
def DA(k:Nat)(c:Nat):Bool:=decide (nZ c)||(decide (0<k)&&eV c)
def od:Nat→List Nat→Bool
 |_,[]=>true
 |k,c::cs=>DA k c&&od (k+1) cs
theorem xU: ∀(cs:List Nat) (k:Nat),0<k→od k cs=cs.all eV
 | [],k,h=>rfl
 |c::cs,k,h=>by
  rw[od,List.all_cons,xU cs (k+1) (by omega)]
  congr 1
  unfold DA
  by_cases h1:nZ c <;> simp[h,h1,eV]
theorem Hh(s:List Nat)(hs:s.length≤16)(lh:aQ aA)(sh:List aA): ∀(m k:Nat) (fr:Fr),s.length-k=m→k≤s.length→an fr 0= .s s→an fr 14= .i .i64 (s.length:Int)→an fr 15= .i .i64 (k:Int)→
  ∃g7,DC pE 44 (.loop eM) ⟨fr,lh,sh⟩=some (if od k (s.drop k)then .ext 0 else .ret,⟨g7,lh,sh⟩)∧(od k (s.drop k)=false→an g7 2= .b false)
 |0,k,fr,hm,hk,h0,ep,h3=>by
  have:k=s.length:=by omega
  subst this
  rw[fU]
  generalize hK:DC pE 44 (.loop eM)=K
  simp only[ah,ai,ab,ae,ak,Nat.reduceLT,eM,h3,ep,Int.lt_irrefl]
  simp[od]
 |m+1,k,fr,hm,hk,h0,ep,h3=>by
  have dG:k<s.length:=by omega
  have nw:(k:Int)<s.length:=by omega
  have Zh:s.drop k=s[k]::s.drop (k+1):=List.drop_eq_getElem_cons dG
  have hw:=n4 (k:=k) (by omega)
  rw[fU,Zh,od]
  generalize hK:DC pE 44 (.loop eM)=K
  have P8: ∀DB:Fr,an DB 0= .s s→an DB 14= .i .i64 (s.length:Int)→an DB 15= .i .i64 ((k+1:Nat):Int)→
   ∃g7,K ⟨DB,lh,sh⟩=some (if od (k+1) (s.drop (k+1))then .ext 0 else .ret,⟨g7,lh,sh⟩)∧(od (k+1) (s.drop (k+1))=false→an g7 2= .b false):=fun DB a b c=>by
    rw[←hK];exact Hh s hs lh sh m (k+1) DB (by omega) (by omega) a b c
  by_cases c1:(97:Int)≤s[k]∧(s[k]:Int)≤122
  ·have ht:DA k s[k]=true:=by simp[DA,nZ,c1]
   obtain⟨a1,a2⟩:=c1
   simp only[ah,ai,ab,aj,ae,reduceCtorEq,Nat.reduceLT,Nat.reduceEqDiff,eM,h0,h3,ep,nw,lI dG,a1,a2,ht,hw]
   refine P8 _ ?_ ?_ ?_ <;> simp only[ab,ae,reduceCtorEq,Nat.reduceEqDiff,h0,ep]
  ·by_cases c0:0<k
   ·have UD:(0:Int)<k:=by omega
    by_cases c2:(48:Int)≤s[k]∧(s[k]:Int)≤57
    ·have ht:DA k s[k]=true:=by simp[DA,eV,vB,c2,c0]
     obtain⟨a1,a2⟩:=c2
     have a3: ¬(97:Int)≤s[k]:=by omega
     simp only[ah,ai,ab,aj,ae,ak,reduceCtorEq,Nat.reduceLT,Nat.reduceEqDiff,eM,h0,h3,ep,nw,lI dG,a1,a2,a3,UD,ht,hw]
     refine P8 _ ?_ ?_ ?_ <;> simp only[ab,ae,reduceCtorEq,Nat.reduceEqDiff,h0,ep]
    ·by_cases c3:(s[k]:Int)=95
     ·have ht:DA k s[k]=true:=by simp[DA,eV,c3,c0]
      simp only[ah,ai,ab,aj,ae,ak,reduceCtorEq,Nat.reduceLT,Nat.reduceEqDiff,Int.reduceLE,eM,h0,h3,ep,nw,lI dG,c3,UD,ht,hw]
      refine P8 _ ?_ ?_ ?_ <;> simp only[ab,ae,reduceCtorEq,Nat.reduceEqDiff,h0,ep]
     ·have ht:DA k s[k]=false:=by simp[DA,eV,nZ,vB,c1,c2,c3]
      by_cases a1:(97:Int)≤s[k] <;> by_cases a2:(s[k]:Int)≤122 <;> by_cases a3:(48:Int)≤s[k] <;> by_cases a4:(s[k]:Int)≤57 <;> first|omega|(simp only[ah,ai,ab,aj,ae,ak,forall_const,reduceCtorEq,Nat.reduceLT,Nat.reduceEqDiff,eM,h0,h3,ep,nw,lI dG,a1,a2,a3,a4,c3,UD,ht];exact⟨_,rfl,by simp only[ab]⟩)
   ·have UD: ¬(0:Int)<k:=by omega
    have ht:DA k s[k]=false:=by simp[DA,nZ,c1,c0]
    by_cases a1:(97:Int)≤s[k] <;> by_cases a2:(s[k]:Int)≤122 <;> first|omega|(simp only[ah,ai,ab,aj,ae,ak,forall_const,reduceCtorEq,Nat.reduceLT,Nat.reduceEqDiff,eM,h0,h3,ep,nw,lI dG,a1,a2,UD,ht];exact⟨_,rfl,by simp only[ab]⟩)
theorem K7(s:List Nat)(hs:s.length≤16)(fr:Fr)(lh:aQ aA)(sh:List aA)(h0:an fr 0= .s s)(ep:an fr 14= .i .i64 (s.length:Int))(h3:an fr 15= .i .i64 0):
  DC pE 44 (.loop eM) ⟨fr,lh,sh⟩=some (if od 0 s then .ext 0 else .ret,⟨ev pE 44 eM fr lh sh,lh,sh⟩)∧(od 0 s=false→an (ev pE 44 eM fr lh sh) 2= .b false):=by
 have:=rQ (Hh s hs lh sh s.length 0 fr (by omega) (by omega) h0 ep h3)
 simpa using this
theorem xV(s:List Nat):aa pE 174 [.s s] []=some (.b (fm s),[]):=by
 rw[aD MM (by simp[wH])]
 by_cases h1:((s.length:Nat):Int)<1
 ·have:s= []:=by cases s with|nil=>rfl|cons c cs=>simp at h1;omega
  subst this
  simp only[qF,ah,ai,ab,aj,ae,reduceCtorEq,Nat.reduceLT,Nat.reduceEqDiff,Int.reduceLT,wH,fm]
 ·by_cases h2:(16:Int)<((s.length:Nat):Int)
  ·have h3:fm s=false:=by cases s with|nil=>simp at h2|cons c cs=>simp[fm];intro h;simp at h2;omega
   simp only[qF,ah,ai,ab,aj,ae,ak,reduceCtorEq,Nat.reduceLT,Nat.reduceEqDiff,wH,h1,h2,h3]
  ·have h3:fm s=od 0 s:=by
    cases s with
    |nil=>simp at h1
    |cons c cs=>
     rw[od,xU cs 1 (by omega)]
     have:cs.length<16:=by simp at h2;omega
     simp[fm,this,DA]
   have hL:=fun fr lh sh=>K7 s (by omega) fr lh sh
   rw[h3]
   cases aU:od 0 s with
   |true=>
    simp only[aU]at hL
    simp only[qF,ah,ai,ab,aj,ae,ak,reduceCtorEq,Nat.reduceLT,Nat.reduceEqDiff,wH,h1,h2,hL]
   |false=>
    simp only[aU]at hL
    simp only[qF,ah,ai,ab,aj,ae,ak,reduceCtorEq,Nat.reduceLT,Nat.reduceEqDiff,wH,h1,h2,hL]
end Go.Proofs.YtfenhjpkomldcaaGreat
namespace Go.Proofs.YtfenhjpkomldcaaGreat
open Go Go.Ev
def Al:List (List Nat):= [[97,110,100],[111,114],[110,111,116],[105,109,112,108,105,101,115],[105,110],[116,111],[116,114,117,101],[102,97,108,115,101],[109,105,110],[109,97,120],[105,102],[116,104,101,110],[101,108,115,101]]
def Hi:List (List Nat):= [[108,101,103,115],[104,101,97,100,115],[116,121,112,101,115]]
def Hj:List (List Nat):= [[98,108,111,99,107],[115,112,97,110],[110,105,103,104,116],[108,111,110,103,101,115,116],[115,104,111,114,116,101,115,116],[115,104,105,102,116]]
def Hk:List (List Nat):= [[115,116,97,114,116],[101,110,100]]
def xW:List (List Nat):= [[100,117,116,105,101,115],[108,101,103,115],[104,101,97,100,115],[100,97,121,115]]
def xX:List (List Nat):= [[98,108,111,99,107],[115,112,97,110],[99,114,101,100,105,116]]
def tW:List (List Nat):= [[108,101,103,115],[104,101,97,100,115],[116,121,112,101,115],[98,108,111,99,107],[115,112,97,110],[110,105,103,104,116],[108,111,110,103,101,115,116],[115,104,111,114,116,101,115,116],[115,104,105,102,116],[115,116,97,114,116],[101,110,100]]
def tX:List (List Nat):= [[114,101,115,116],[110,105,103,104,116,115],[104,111,109,101],[98,101,102,111,114,101,46,108,101,103,115],[98,101,102,111,114,101,46,104,101,97,100,115],[98,101,102,111,114,101,46,116,121,112,101,115],[98,101,102,111,114,101,46,98,108,111,99,107],[98,101,102,111,114,101,46,115,112,97,110],[98,101,102,111,114,101,46,110,105,103,104,116],[98,101,102,111,114,101,46,108,111,110,103,101,115,116],[98,101,102,111,114,101,46,115,104,111,114,116,101,115,116],[98,101,102,111,114,101,46,115,104,105,102,116],[98,101,102,111,114,101,46,115,116,97,114,116],[98,101,102,111,114,101,46,101,110,100],[97,102,116,101,114,46,108,101,103,115],[97,102,116,101,114,46,104,101,97,100,115],[97,102,116,101,114,46,116,121,112,101,115],[97,102,116,101,114,46,98,108,111,99,107],[97,102,116,101,114,46,115,112,97,110],[97,102,116,101,114,46,110,105,103,104,116],[97,102,116,101,114,46,108,111,110,103,101,115,116],[97,102,116,101,114,46,115,104,111,114,116,101,115,116],[97,102,116,101,114,46,115,104,105,102,116],[97,102,116,101,114,46,115,116,97,114,116],[97,102,116,101,114,46,101,110,100]]
def tY:List (List Nat):= [[100,117,116,105,101,115],[108,101,103,115],[104,101,97,100,115],[100,97,121,115],[98,108,111,99,107],[115,112,97,110],[99,114,101,100,105,116]]
def Am(s:List Nat):Bool:=decide (s∈Al)
def ph(s:List Nat):Bool:=fm s&& !Am s
def lJ(s:List Nat):Int:=if s∈Hi then 1 else if s∈Hj then 2 else if s∈Hk then 3 else 0
def og(s:List Nat):Int:=if s∈xW then 1 else if s∈xX then 2 else 0
def BI:List Nat:= [98,101,102,111,114,101,46]
def DD:List Nat:= [97,102,116,101,114,46]
def lK(p s:List Nat):Prop:=p.length≤s.length∧s.take p.length=p
instance (p s:List Nat):Decidable (lK p s):=by unfold lK;infer_instance
def sb(s:List Nat):Int:=if s= [114,101,115,116]then 2 else if s= [110,105,103,104,116,115]then 1 else if s= [104,111,109,101]then 4 else if lK BI s then lJ (s.drop 7)else if lK DD s then lJ (s.drop 6)else 0
def dE(scope:Int)(s:List Nat):Int:=if scope=1 then lJ s else if scope=2 then sb s else if scope=3 then og s else 0
theorem K8(s:List Nat):aa pE 251 [.s s] []=some (.b (Am s),[]):=by
 by_cases h:s∈Al
 ·rw[Am,decide_eq_true h]
  have h':=h
  simp only[Al,List.mem_cons,List.not_mem_nil,or_false]at h'
  rcases h' with rfl|rfl|rfl|rfl|rfl|rfl|rfl|rfl|rfl|rfl|rfl|rfl|rfl <;> exact bW (m:=100) (bU (by kernel_rfl))
 ·rw[Am,decide_eq_false h]
  have h':=h
  simp only[Al,List.mem_cons,List.not_mem_nil,or_false,not_or]at h'
  obtain⟨e0,e1,e2,e3,e4,e5,e6,e7,e8,e9,UE,Zi,Zj⟩:=h'
  rw[aD Nm (by simp[EP])]
  simp only[qF,ah,ai,ab,aj,ae,ak,reduceCtorEq,Nat.reduceLT,Nat.reduceEqDiff,EP,e0,e1,e2,e3,e4,e5,e6,e7,e8,e9,UE,Zi,Zj]
theorem K9(s:List Nat):aa pE 197 [.s s] []=some (.b (Am s),[]):=by
 by_cases h:s∈Al
 ·rw[Am,decide_eq_true h]
  have h':=h
  simp only[Al,List.mem_cons,List.not_mem_nil,or_false]at h'
  rcases h' with rfl|rfl|rfl|rfl|rfl|rfl|rfl|rfl|rfl|rfl|rfl|rfl|rfl <;> exact bW (m:=100) (bU (by kernel_rfl))
 ·rw[Am,decide_eq_false h]
  have h':=h
  simp only[Al,List.mem_cons,List.not_mem_nil,or_false,not_or]at h'
  obtain⟨e0,e1,e2,e3,e4,e5,e6,e7,e8,e9,UE,Zi,Zj⟩:=h'
  rw[aD MQ (by simp[EH])]
  have hs: ∀w:List Nat,(¬s=w)→((w=s)=False):=fun w hw=>eq_false fun e=>hw e.symm
  simp only[qF,ah,ai,ab,aj,ae,ak,Int.reduceAdd,Int.reduceNeg,bA,dH,dQ,splice,aF,repl,Nat.reduceAdd,reduceCtorEq,Nat.reduceLT,Nat.reduceLeDiff,Nat.reduceEqDiff,Int.reduceToNat,Int.reduceLE,Int.reduceLT,EH,fU,AR,hs _ e0,hs _ e1,hs _ e2,hs _ e3,hs _ e4,hs _ e5,hs _ e6,hs _ e7,hs _ e8,hs _ e9,hs _ UE,hs _ Zi,hs _ Zj]
theorem DE(s:List Nat):aa pE 218 [.s s] []=some (.b (ph s),[]):=by
 rw[aD MZ (by simp[EJ])]
 cases h:fm s <;> simp only[qF,ah,ai,ab,aj,ae,reduceCtorEq,Nat.reduceLT,Nat.reduceEqDiff,EJ,xV,K8,MN,SQ,h,ph]
theorem DF(s:List Nat):aa pE 126 [.s s] []=some (.b (ph s),[]):=by
 rw[aD Mf (by simp[Er])]
 cases h:fm s <;> simp only[qF,ah,ai,ab,aj,ae,reduceCtorEq,Nat.reduceLT,Nat.reduceEqDiff,Er,xT,K9,MP,SJ,h,ph]
theorem oh(s:List Nat):aa pE 133 [.s s] []=some (.i .i64 (lJ s),[]):=by
 by_cases h1:s∈Hi
 ·rw[lJ,if_pos h1]
  have lq:=h1
  simp only[Hi,List.mem_cons,List.not_mem_nil,or_false]at lq
  rcases lq with rfl|rfl|rfl <;> exact bW (m:=100) (bU (by kernel_rfl))
 ·rw[lJ,if_neg h1]
  by_cases h2:s∈Hj
  ·rw[if_pos h2]
   have wY:=h2
   simp only[Hj,List.mem_cons,List.not_mem_nil,or_false]at wY
   rcases wY with rfl|rfl|rfl|rfl|rfl|rfl <;> exact bW (m:=100) (bU (by kernel_rfl))
  ·rw[if_neg h2]
   by_cases h3:s∈Hk
   ·rw[if_pos h3]
    have UF:=h3
    simp only[Hk,List.mem_cons,List.not_mem_nil,or_false]at UF
    rcases UF with rfl|rfl <;> exact bW (m:=100) (bU (by kernel_rfl))
   ·rw[if_neg h3]
    have lq:=h1
    simp only[Hi,List.mem_cons,List.not_mem_nil,or_false,not_or]at lq
    obtain⟨a0,a1,a2⟩:=lq
    have wY:=h2
    simp only[Hj,List.mem_cons,List.not_mem_nil,or_false,not_or]at wY
    obtain⟨b0,b1,b2,b3,b4,b5⟩:=wY
    have UF:=h3
    simp only[Hk,List.mem_cons,List.not_mem_nil,or_false,not_or]at UF
    obtain⟨d0,d1⟩:=UF
    rw[aD Mg (by simp[Es])]
    simp only[qF,ah,ai,ab,aj,ae,ak,reduceCtorEq,Nat.reduceLT,Nat.reduceEqDiff,Es,a0,a1,a2,b0,b1,b2,b3,b4,b5,d0,d1]
theorem Hl(s:List Nat):aa pE 135 [.s s] []=some (.i .i64 (og s),[]):=by
 by_cases h1:s∈xW
 ·rw[og,if_pos h1]
  have lq:=h1
  simp only[xW,List.mem_cons,List.not_mem_nil,or_false]at lq
  rcases lq with rfl|rfl|rfl|rfl <;> exact bW (m:=100) (bU (by kernel_rfl))
 ·rw[og,if_neg h1]
  by_cases h2:s∈xX
  ·rw[if_pos h2]
   have wY:=h2
   simp only[xX,List.mem_cons,List.not_mem_nil,or_false]at wY
   rcases wY with rfl|rfl|rfl <;> exact bW (m:=100) (bU (by kernel_rfl))
  ·rw[if_neg h2]
   have lq:=h1
   simp only[xW,List.mem_cons,List.not_mem_nil,or_false,not_or]at lq
   obtain⟨a0,a1,a2,a3⟩:=lq
   have wY:=h2
   simp only[xX,List.mem_cons,List.not_mem_nil,or_false,not_or]at wY
   obtain⟨b0,b1,b2⟩:=wY
   rw[aD Mi (by simp[Et])]
   simp only[qF,ah,ai,ab,aj,ae,ak,reduceCtorEq,Nat.reduceLT,Nat.reduceEqDiff,Et,a0,a1,a2,a3,b0,b1,b2]
theorem tZ(s p:List Nat):aa pE 266 [.s s,.s p] []=some (.b (decide (lK p s)),[]):=by
 rw[aD Nn (by simp[Cz])]
 by_cases h:p.length≤s.length
 ·have h':(p.length:Int)≤s.length:=by omega
  simp only[qF,ah,ai,ab,aj,ae,ak,kE,bk,reduceCtorEq,Nat.reduceLT,Nat.reduceEqDiff,Cz,h,h',lK,Nat.sub_zero]
 ·have h': ¬(p.length:Int)≤s.length:=by omega
  simp only[qF,ah,ai,ab,aj,ae,ak,reduceCtorEq,Nat.reduceLT,Nat.reduceEqDiff,Cz,h,h',lK]
theorem ua(s p:List Nat):aa pE 212 [.s s,.s p] []=some (if lK p s then .tup [.s (s.drop p.length),.b true]else .tup [.s s,.b false],[]):=by
 rw[aD MR (by simp[EI])]
 have h1:aa pE 243 [.s s,.s p] []=some (if lK p s then .tup [.s (s.drop p.length),.b true]else .tup [.s s,.b false],[]):=by
  rw[aD Nc (by simp[Cw])]
  by_cases h:lK p s
  ·have hl:p.length≤s.length:=h.1
   have ht:List.take (s.length-p.length) (s.drop p.length)=s.drop p.length:=List.take_of_length_le (by simp)
   simp only[qF,ah,ai,ab,aj,ae,ak,kE,bk,reduceCtorEq,Nat.reduceLT,Nat.reduceEqDiff,Cw,tZ,No,h,hl,ht]
  ·simp only[qF,ah,ai,ab,aj,ae,ak,reduceCtorEq,Nat.reduceLT,Nat.reduceEqDiff,Cw,tZ,No,h]
 by_cases h:lK p s <;> simp only[h]at h1 <;> simp only[qF,ah,ai,ab,aj,ae,reduceCtorEq,Nat.reduceLT,Nat.reduceEqDiff,EI,h1,SO,h]
theorem Hm(s:List Nat):aa pE 134 [.s s] []=some (.i .i64 (sb s),[]):=by
 by_cases h1:s= [114,101,115,116]
 ·subst h1;exact bW (m:=100) (bU (by kernel_rfl))
 ·by_cases h2:s= [110,105,103,104,116,115]
  ·subst h2;exact bW (m:=100) (bU (by kernel_rfl))
  ·by_cases h3:s= [104,111,109,101]
   ·subst h3;exact bW (m:=100) (bU (by kernel_rfl))
   ·have b1:=ua s BI
    have b2:=ua s DD
    have l1:BI.length=7:=rfl
    have l2:DD.length=6:=rfl
    rw[sb,if_neg h1,if_neg h2,if_neg h3]
    rw[aD Mh (by simp[zb])]
    rw[l1]at b1
    rw[l2]at b2
    by_cases h4:lK BI s
    ·rw[if_pos h4]at b1
     unfold BI at b1
     simp only[qF,ah,ai,ab,aj,ae,ak,reduceCtorEq,Nat.reduceLT,Nat.reduceEqDiff,zb,h1,h2,h3,b1,oh,Ff,AW,h4]
    ·rw[if_neg h4]at b1
     by_cases h5:lK DD s
     ·rw[if_pos h5]at b2
      unfold BI at b1
      unfold DD at b2
      simp only[qF,ah,ai,ab,aj,ae,ak,reduceCtorEq,Nat.reduceLT,Nat.reduceEqDiff,zb,h1,h2,h3,b1,b2,oh,Ff,AW,h4,h5]
     ·rw[if_neg h5]at b2
      unfold BI at b1
      unfold DD at b2
      simp only[qF,ah,ai,ab,aj,ae,ak,reduceCtorEq,Nat.reduceLT,Nat.reduceEqDiff,zb,h1,h2,h3,b1,b2,oh,Ff,AW,h4,h5]
def k6(scope:Int)(s:List Nat):Int:=if dE scope s=0 then 6 else 0
theorem xY(scope:Int)(s:List Nat):aa pE 89 [.i .i64 scope,.s s] []=some (.tup [.i .i64 (dE scope s),.i .i64 (k6 scope s)],[]):=by
 rw[aD R2 (by simp[L4])]
 by_cases h1:scope=1
 ·by_cases h:lJ s=0 <;> simp only[qF,ah,ai,ab,aj,ae,ak,reduceCtorEq,Nat.reduceLT,Nat.reduceEqDiff,Int.reduceEq,L4,h1,k6,dE,oh,AW,h]
 ·by_cases h2:scope=2
  ·by_cases h:sb s=0 <;> simp only[qF,ah,ai,ab,aj,ae,ak,reduceCtorEq,Nat.reduceLT,Nat.reduceEqDiff,Int.reduceEq,L4,h2,k6,dE,Hm,Sl,h]
  ·by_cases h3:scope=3
   ·by_cases h:og s=0 <;> simp only[qF,ah,ai,ab,aj,ae,ak,reduceCtorEq,Nat.reduceLT,Nat.reduceEqDiff,Int.reduceEq,L4,h3,k6,dE,Hl,Sm,h]
   ·simp only[qF,ah,ai,ab,aj,ae,ak,reduceCtorEq,Nat.reduceLT,Nat.reduceEqDiff,L4,h1,h2,h3,k6,dE]
def strs(l:List (List Nat)):List T:=l.map T.s
theorem xZ(l:List (List Nat)):(strs l).length=l.length:=by simp[strs]
theorem DG(l:List (List Nat))(k:Nat)(hk:k<l.length):(strs l).drop k=T.s l[k]::(strs l).drop (k+1):=by
 rw[List.drop_eq_getElem_cons (by rw[xZ];exact hk)];simp[strs]
theorem An:aa pE 84 [.i .i64 1] []=some (.sl (strs tW) 11 true,[]):=bW (m:=100) (bU (by kernel_rfl))
theorem mY:aa pE 84 [.i .i64 2] []=some (.sl (strs tX) 25 false,[]):=bW (m:=100) (bU (by kernel_rfl))
theorem Ao:aa pE 84 [.i .i64 3] []=some (.sl (strs tY) 7 true,[]):=bW (m:=100) (bU (by kernel_rfl))
theorem Ap(scope:Int)(h1:scope≠1)(h2:scope≠2)(h3:scope≠3):aa pE 84 [.i .i64 scope] []=some (.nilsl,[]):=by
 rw[aD R1 (by simp[RA])]
 simp only[qF,ah,ai,ab,aj,ae,ak,dH,dQ,splice,aF,repl,Nat.reduceAdd,reduceCtorEq,Nat.reduceLT,Nat.reduceLeDiff,Nat.reduceEqDiff,RA,h1,h2,h3]
theorem Hn(s:List Nat)(v:T)(l:List (List Nat))(hv:aN v l.length (strs l))(hb:l.length<1000)(hs:s∉l)(lh:aQ aA)(sh:List aA): ∀(m k:Nat) (fr:Fr),l.length-k=m→k≤l.length→an fr 1= .s s→an fr 6=v→an fr 7= .i .i64 (k:Int)→
  ∃g7,DC pE 69 (.loop lz) ⟨fr,lh,sh⟩=some (.ext 0,⟨g7,lh,sh⟩)∧an g7 1= .s s
 |0,k,fr,hm,hk,h1,h6,h7=>by
  have:k=l.length:=by omega
  subst this
  rw[fU]
  generalize hK:DC pE 69 (.loop lz)=K
  simp only[ah,ai,ab,ae,ak,Nat.reduceLT,Nat.reduceEqDiff,lz,h6,h7,hv.lenI,Int.lt_irrefl]
  exact⟨_,rfl,by simp only[ab,ae,Nat.reduceEqDiff,h1]⟩
 |m+1,k,fr,hm,hk,h1,h6,h7=>by
  have dG:k<l.length:=by omega
  have nw:(k:Int)<l.length:=by omega
  have hw:=n4 (k:=k) (by omega)
  have dr: ¬l[k]=s:=fun e=>hs (e▸List.getElem_mem dG)
  have cQ: ∀kk,tJ v (.i kk (k:Int)) 1=some (.vp (T.s l[k]::(strs l).drop (k+1))):=fun kk=>by rw[hv.ia (sz:=1) (by rw[xZ];omega) dG,Nat.mul_one,DG l k dG]
  rw[fU]
  generalize hK:DC pE 69 (.loop lz)=K
  simp only[ah,ai,ab,aj,ae,ak,Nat.reduceLT,Nat.reduceEqDiff,lz,h1,h6,h7,hv.lenI,nw,cQ,dr,hw]
  rw[←hK]
  refine Hn s v l hv hb hs lh sh m (k+1) _ (by omega) (by omega) ?_ ?_ ?_ <;> simp only[ab,ae,Nat.reduceEqDiff,h1,h6]
theorem qK(s:List Nat)(v:T)(l:List (List Nat))(hv:aN v l.length (strs l))(hb:l.length<1000)(hs:s∉l)(fr:Fr)(lh:aQ aA)(sh:List aA)(h1:an fr 1= .s s)(h6:an fr 6=v)(h7:an fr 7= .i .i64 0):
  DC pE 69 (.loop lz) ⟨fr,lh,sh⟩=some (.ext 0,⟨ev pE 69 lz fr lh sh,lh,sh⟩):=
 (rQ (Hn s v l hv hb hs lh sh l.length 0 fr (by omega) (by omega) h1 h6 h7)).1
theorem oj(s:List Nat):aa pE 85 [.i .i64 1,.s s] []=some (.tup [.i .i64 (lJ s),.i .i64 (if lJ s=0 then 6 else 0)],[]):=by
 by_cases h:s∈tW
 ·have h':=h
  simp only[tW,List.mem_cons,List.not_mem_nil,or_false]at h'
  rcases h' with rfl|rfl|rfl|rfl|rfl|rfl|rfl|rfl|rfl|rfl|rfl <;> exact bW (m:=100) (bU (by kernel_rfl))
 ·have hk:lJ s=0:=by
   simp only[tW,List.mem_cons,List.not_mem_nil,or_false,not_or]at h
   obtain⟨e0,e1,e2,e3,e4,e5,e6,e7,e8,e9,UE⟩:=h
   simp[lJ,Hi,Hj,Hk,e0,e1,e2,e3,e4,e5,e6,e7,e8,e9,UE]
  rw[aD zg (by simp[wq])]
  have hL:=fun fr lh sh=>qK s (.sl (strs tW) 11 true) tW (Or.inr ⟨true,rfl⟩) (by decide) h fr lh sh
  simp only[qF,ah,ai,ab,aj,ae,ak,kE,bk,reduceCtorEq,Nat.reduceLT,Nat.reduceEqDiff,Int.reduceToNat,Int.reduceLE,Int.reduceEq,wq,An,CB,hL,hk]
theorem DH(s:List Nat):aa pE 85 [.i .i64 3,.s s] []=some (.tup [.i .i64 (og s),.i .i64 (if og s=0 then 6 else 0)],[]):=by
 by_cases h:s∈tY
 ·have h':=h
  simp only[tY,List.mem_cons,List.not_mem_nil,or_false]at h'
  rcases h' with rfl|rfl|rfl|rfl|rfl|rfl|rfl <;> exact bW (m:=100) (bU (by kernel_rfl))
 ·have hk:og s=0:=by
   simp only[tY,List.mem_cons,List.not_mem_nil,or_false,not_or]at h
   obtain⟨e0,e1,e2,e3,e4,e5,e6⟩:=h
   simp[og,xW,xX,e0,e1,e2,e3,e4,e5,e6]
  rw[aD zg (by simp[wq])]
  have hL:=fun fr lh sh=>qK s (.sl (strs tY) 7 true) tY (Or.inr ⟨true,rfl⟩) (by decide) h fr lh sh
  simp only[qF,ah,ai,ab,aj,ae,ak,kE,bk,reduceCtorEq,Nat.reduceLT,Nat.reduceEqDiff,Int.reduceToNat,Int.reduceLE,Int.reduceEq,wq,Ao,CB,hL,hk]
theorem DI{s:List Nat}(hs:s∈tX):s= [114,101,115,116]∨s= [110,105,103,104,116,115]∨s= [104,111,109,101]∨(7<s.length∧s.take 7=BI)∨(6<s.length∧s.take 6=DD):=by
 simp only[tX,List.mem_cons,List.not_mem_nil,or_false]at hs
 rcases hs with rfl|rfl|rfl|rfl|rfl|rfl|rfl|rfl|rfl|rfl|rfl|rfl|rfl|rfl|rfl|rfl|rfl|rfl|rfl|rfl|rfl|rfl|rfl|rfl|rfl <;> decide
theorem x7(s:List Nat):lK BI s↔(7≤s.length∧s.take 7=BI):=Iff.rfl
theorem x8(s:List Nat):lK DD s↔(6≤s.length∧s.take 6=DD):=Iff.rfl
theorem DJ(s:List Nat):aa pE 85 [.i .i64 2,.s s] []=some (.tup [.i .i64 (sb s),.i .i64 (if sb s=0 then 6 else 0)],[]):=by
 by_cases h1:s= [114,101,115,116]
 ·subst h1;exact bW (m:=100) (bU (by kernel_rfl))
 by_cases h2:s= [110,105,103,104,116,115]
 ·subst h2;exact bW (m:=100) (bU (by kernel_rfl))
 by_cases h3:s= [104,111,109,101]
 ·subst h3;exact bW (m:=100) (bU (by kernel_rfl))
 rw[sb,if_neg h1,if_neg h2,if_neg h3]
 by_cases h4:lK BI s
 ·rw[if_pos h4]
  have h4':=(x7 s).1 h4
  by_cases h6:7<s.length
  ·have V8:(7:Int)<s.length:=by omega
   have hle:7≤s.length:=by omega
   have e:=h4'.2
   unfold BI at e
   have ht:List.take (s.length-7) (s.drop 7)=s.drop 7:=List.take_of_length_le (by simp)
   rw[aD zg (by simp[wq])]
   simp only[qF,ah,ai,ab,aj,ae,ak,kE,bk,reduceCtorEq,Nat.reduceLT,Nat.reduceEqDiff,Int.reduceToNat,Int.reduceLE,wq,V8,hle,Nat.sub_zero,e,oj,uN,ht]
  ·have:s=BI:=by
    rw[←h4'.2,List.take_of_length_le (by omega)]
   subst this
   exact bW (m:=100) (bU (by kernel_rfl))
 ·rw[if_neg h4]
  have b1: ¬((7:Int)<s.length∧s.take 7=BI):=fun⟨a,b⟩=>h4 ((x7 s).2 ⟨by omega,b⟩)
  by_cases h5:lK DD s
  ·rw[if_pos h5]
   have Bc:=(x8 s).1 h5
   by_cases h6:6<s.length
   ·have V8:(6:Int)<s.length:=by omega
    have hle:6≤s.length:=by omega
    have e:=Bc.2
    unfold DD at e
    have ht:List.take (s.length-6) (s.drop 6)=s.drop 6:=List.take_of_length_le (by simp)
    rw[aD zg (by simp[wq])]
    by_cases h7:(7:Int)<s.length
    ·have P9:7≤s.length:=by omega
     have e7: ¬s.take 7= [98,101,102,111,114,101,46]:=fun b=>b1 ⟨h7,b⟩
     simp only[qF,ah,ai,ab,aj,ae,ak,kE,bk,reduceCtorEq,Nat.reduceLT,Nat.reduceEqDiff,Int.reduceToNat,Int.reduceLE,wq,V8,hle,h7,P9,e7,Nat.sub_zero,e,oj,uN,ht]
    ·simp only[qF,ah,ai,ab,aj,ae,ak,kE,bk,reduceCtorEq,Nat.reduceLT,Nat.reduceEqDiff,Int.reduceToNat,Int.reduceLE,wq,V8,hle,h7,Nat.sub_zero,e,oj,uN,ht]
   ·have:s=DD:=by
     rw[←Bc.2,List.take_of_length_le (by omega)]
    subst this
    exact bW (m:=100) (bU (by kernel_rfl))
  ·rw[if_neg h5]
   have b2: ¬((6:Int)<s.length∧s.take 6=DD):=fun⟨a,b⟩=>h5 ((x8 s).2 ⟨by omega,b⟩)
   have hs:s∉tX:=fun hm=>by
    rcases DI hm with h|h|h|⟨a,b⟩|⟨a,b⟩
    ·exact h1 h
    ·exact h2 h
    ·exact h3 h
    ·exact b1 ⟨by omega,b⟩
    ·exact b2 ⟨by omega,b⟩
   have hL:=fun fr lh sh=>qK s (.sl (strs tX) 25 false) tX (Or.inr ⟨false,rfl⟩) (by decide) hs fr lh sh
   rw[aD zg (by simp[wq])]
   by_cases h7:(7:Int)<s.length
   ·have h6:(6:Int)<s.length:=by omega
    have P9:7≤s.length:=by omega
    have hle:6≤s.length:=by omega
    have e7: ¬s.take 7= [98,101,102,111,114,101,46]:=fun b=>b1 ⟨h7,b⟩
    have e6: ¬s.take 6= [97,102,116,101,114,46]:=fun b=>b2 ⟨h6,b⟩
    simp only[qF,ah,ai,ab,aj,ae,ak,kE,bk,reduceCtorEq,Nat.reduceLT,Nat.reduceEqDiff,Int.reduceToNat,Int.reduceLE,wq,h6,h7,hle,P9,e7,e6,Nat.sub_zero,mY,CB,hL]
   ·by_cases h6:(6:Int)<s.length
    ·have hle:6≤s.length:=by omega
     have e6: ¬s.take 6= [97,102,116,101,114,46]:=fun b=>b2 ⟨h6,b⟩
     simp only[qF,ah,ai,ab,aj,ae,ak,kE,bk,reduceCtorEq,Nat.reduceLT,Nat.reduceEqDiff,Int.reduceToNat,Int.reduceLE,wq,h6,h7,hle,e6,Nat.sub_zero,mY,CB,hL]
    ·simp only[qF,ah,ai,ab,aj,ae,ak,kE,bk,reduceCtorEq,Nat.reduceLT,Nat.reduceEqDiff,Int.reduceToNat,Int.reduceLE,wq,h6,h7,mY,CB,hL]
theorem sd(scope:Int)(s:List Nat):aa pE 85 [.i .i64 scope,.s s] []=some (.tup [.i .i64 (dE scope s),.i .i64 (k6 scope s)],[]):=by
 unfold k6 dE
 by_cases h1:scope=1
 ·subst h1;exact oj s
 ·by_cases h2:scope=2
  ·subst h2;exact DJ s
  ·by_cases h3:scope=3
   ·subst h3;exact DH s
   ·simp only[h1,h2,h3,if_false,if_true]
    rw[aD zg (by simp[wq])]
    have hL:=fun fr lh sh=>qK s .nilsl [] (Or.inl ⟨rfl,rfl,rfl⟩) (by decide) (by simp) fr lh sh
    simp only[qF,ah,ai,ab,aj,ae,ak,kE,bk,reduceCtorEq,Nat.reduceLT,Nat.reduceEqDiff,Int.reduceToNat,Int.reduceLE,wq,h2,Ap scope h1 h2 h3,CB,hL]
end Go.Proofs.YtfenhjpkomldcaaGreat
