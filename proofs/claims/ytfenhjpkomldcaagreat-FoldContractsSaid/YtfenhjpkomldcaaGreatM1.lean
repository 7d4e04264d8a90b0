/- Expressions as trees, and what stands for them. Names: what the program and the reference take for one. Reserved words and names of attributes. Conditions: the theorems' own. -/
import Derived.Test.YtfenhjpkomldcaaGreatGS
import Derived.KernelRfl
set_option maxRecDepth 100000
set_option linter.unusedSimpArgs false
set_option linter.unusedVariables false
set_option maxHeartbeats 16000000
namespace Go.Proofs.YtfenhjpkomldcaaGreat
open Go Go.Ev
theorem cd{m f:Nat}{args:List T}{r:T×List aB}(h:cL pE m f args []=some r):ai pE f args []=some r:=DCall_iff.2 ⟨m,h⟩
theorem OA{m f:Nat}{args:List T}{v:T}(h:(cL pE m f args []).map (·.1)=some v): ∃s,ai pE f args []=some (v,s):=by
 cases hc:cL pE m f args []with
 |none=>rw[hc]at h;cases h
 |some r=>
  rw[hc]at h
  obtain⟨a,s⟩:=r
  simp at h
  subst h
  exact⟨s,DCall_iff.2 ⟨m,hc⟩⟩
inductive Ex where
 |mk (op num:Int) (name:List Nat) (args:List Ex)
def Ex.op:Ex→Int| .mk o _ _ _=>o
def Ex.num:Ex→Int| .mk _ n _ _=>n
def Ex.name:Ex→List Nat| .mk _ _ s _=>s
def Ex.args:Ex→List Ex| .mk _ _ _ a=>a
mutual
def bE:Ex→List T→Prop
 | .mk op num name args,cs=> ∃a cc,cs= [.i .i64 op,.i .i64 num,.s name,a]∧aR a args.length cc∧aK args cc
def aK:List Ex→List T→Prop
 | [],cs=>cs= []
 |x::xs,cs=> ∃c r,cs=c++r∧bE x c∧aK xs r
end
theorem bE.cells{x:Ex}{cs:List T}(h:bE x cs): ∃a cc,cs= [.i .i64 x.op,.i .i64 x.num,.s x.name,a]∧aR a x.args.length cc∧aK x.args cc:=by
 obtain⟨o,n,s,a⟩:=x
 rw[bE]at h
 exact h
theorem bE.of{x:Ex}{a:T}{cc:List T}(h1:aR a x.args.length cc)(h2:aK x.args cc):bE x [.i .i64 x.op,.i .i64 x.num,.s x.name,a]:=by
 obtain⟨o,n,s,l⟩:=x
 rw[bE]
 exact⟨a,cc,rfl,h1,h2⟩
theorem bE.len{x:Ex}{cs:List T}(h:bE x cs):cs.length=4:=by
 obtain⟨a,cc,rfl,_⟩:=h.cells;rfl
theorem aK.len: ∀{xs:List Ex} {cs:List T},aK xs cs→cs.length=xs.length*4
 | [],cs,h=>by rw[aK]at h;rw[h];rfl
 |x::xs,cs,h=>by
  rw[aK]at h
  obtain⟨c,r,rfl,h1,h2⟩:=h
  rw[List.length_append,h1.len,h2.len,List.length_cons];omega
theorem aK.nil:aK [] []:=by rw[aK]
theorem aK.cons{x:Ex}{xs:List Ex}{c r:List T}(h1:bE x c)(h2:aK xs r):aK (x::xs) (c++r):=by
 rw[aK];exact⟨c,r,rfl,h1,h2⟩
theorem aK.append: ∀{xs ys:List Ex} {c r:List T},aK xs c→aK ys r→aK (xs++ys) (c++r)
 | [],ys,c,r,h1,h2=>by rw[aK]at h1;subst h1;exact h2
 |x::xs,ys,c,r,h1,h2=>by
  rw[aK]at h1
  obtain⟨c1,r1,rfl,h3,h4⟩:=h1
  rw[List.append_assoc]
  exact aK.cons h3 (aK.append h4 h2)
theorem aK.one{x:Ex}{c:List T}(h:bE x c):aK [x] c:=by
 have:=aK.cons h aK.nil
 rwa [List.append_nil]at this
theorem aK.drop: ∀{xs:List Ex} {cs:List T} (k:Nat) (hk:k<xs.length),aK xs cs→ ∃c r,cs.drop (k*4)=c++r∧bE xs[k] c∧aK (xs.drop (k+1)) r
 | [],cs,k,hk,h=>by simp at hk
 |x::xs,cs,0,hk,h=>by
  rw[aK]at h
  obtain⟨c,r,rfl,h1,h2⟩:=h
  exact⟨c,r,by simp,h1,by simpa using h2⟩
 |x::xs,cs,k+1,hk,h=>by
  rw[aK]at h
  obtain⟨c,r,rfl,h1,h2⟩:=h
  obtain⟨c',r',e,h3,h4⟩:=aK.drop k (by simpa using hk) h2
  refine⟨c',r', ?_,h3,by simpa using h4⟩
  have:(k+1)*4=c.length+k*4:=by rw[h1.len];omega
  rw[this,List.drop_append,Nat.add_sub_cancel_left,List.drop_eq_nil_of_le (by omega),e];rfl
theorem dm{xs:List Ex}{a:T}{cc:List T}(h1:aR a xs.length cc)(h2:aK xs cc)(k:Nat)(hk:k<xs.length):
  ∃b cb r,(∀kk,uW a (.i kk (k:Int)) 4=some (.vp (.i .i64 xs[k].op:: .i .i64 xs[k].num:: .s xs[k].name::b::r)))∧aR b xs[k].args.length cb∧aK xs[k].args cb∧bE xs[k] [.i .i64 xs[k].op,.i .i64 xs[k].num,.s xs[k].name,b]:=by
 obtain⟨c,r,e,h3,h4⟩:=aK.drop k hk h2
 obtain⟨b,cb,rfl,h5,h6⟩:=h3.cells
 refine⟨b,cb,r,fun kk=> ?_,h5,h6,h3⟩
 rw[h1.ia (sz:=4) h2.len hk,e];rfl
mutual
def Ex.nodes:Ex→Nat
 | .mk _ _ _ args=>1+a6 args
def a6:List Ex→Nat
 | []=>0
 |x::xs=>x.nodes+a6 xs
end
mutual
def Ex.depth:Ex→Nat
 | .mk _ _ _ args=>1+fC args
def fC:List Ex→Nat
 | []=>0
 |x::xs=>max x.depth (fC xs)
end
theorem Ex.nodes_eq(x:Ex):x.nodes=1+a6 x.args:=by obtain⟨_,_,_,_⟩:=x;rw[Ex.nodes];rfl
theorem Ex.depth_eq(x:Ex):x.depth=1+fC x.args:=by obtain⟨_,_,_,_⟩:=x;rw[Ex.depth];rfl
theorem bX: ∀xs:List Ex,xs.length≤a6 xs
 | []=>by simp
 |x::xs=>by
  have:=bX xs
  rw[a6,List.length_cons,x.nodes_eq];omega
theorem cT: ∀{xs:List Ex} {x:Ex},x∈xs→x.nodes≤a6 xs
 |y::xs,x,h=>by
  rw[a6]
  rcases List.mem_cons.1 h with rfl|h
  ·omega
  ·have:=cT h;omega
theorem vi: ∀{xs:List Ex} {x:Ex},x∈xs→x.depth≤fC xs
 |y::xs,x,h=>by
  rw[fC]
  rcases List.mem_cons.1 h with rfl|h
  ·omega
  ·have:=vi h;omega
theorem Ex.ind{P:Ex→Prop}(h: ∀x:Ex,(∀y∈x.args,P y)→P x)(x:Ex):P x:=by
 have: ∀n (x:Ex),x.nodes≤n→P x:=by
  intro n
  induction n with
  |zero=>intro x hx;rw[x.nodes_eq]at hx;omega
  |succ n ih=>
   intro x hx
   refine h x fun y hy=>ih y ?_
   have:=cT hy
   rw[x.nodes_eq]at hx;omega
 exact this _ x (Nat.le_refl _)
end Go.Proofs.YtfenhjpkomldcaaGreat
namespace Go.Proofs.YtfenhjpkomldcaaGreat
open Go Go.Ev
def qR(c:Nat):Prop:=(97:Int)≤c∧(c:Int)≤122
def yN(c:Nat):Prop:=(48:Int)≤c∧(c:Int)≤57
instance (c:Nat):Decidable (qR c):=by unfold qR;infer_instance
instance (c:Nat):Decidable (yN c):=by unfold yN;infer_instance
def fQ(c:Nat):Bool:=decide (qR c∨yN c∨(c:Int)=95)
def gm:List Nat→Bool
 | []=>false
 |c::cs=>decide (cs.length<16)&&(decide (qR c)&&cs.all fQ)
theorem kM(c:Nat):ai pE 228 [.i .u8 c] []=some (.b (decide (qR c)),[]):=by
 rw[aG QU (by simp[FD])]
 by_cases h1:(97:Int)≤c
 ·by_cases h2:(c:Int)≤122 <;> simp only[qF,ae,ah,aa,aj,ab,an,reduceCtorEq,Nat.reduceLT,Nat.reduceEqDiff,FD,h1,h2,qR]
 ·simp only[qF,ae,ah,aa,aj,ab,an,reduceCtorEq,Nat.reduceLT,Nat.reduceEqDiff,FD,h1,qR]
theorem rV(c:Nat):ai pE 229 [.i .u8 c] []=some (.b (decide (yN c)),[]):=by
 rw[aG QV (by simp[FE])]
 by_cases h1:(48:Int)≤c
 ·by_cases h2:(c:Int)≤57 <;> simp only[qF,ae,ah,aa,aj,ab,an,reduceCtorEq,Nat.reduceLT,Nat.reduceEqDiff,FE,h1,h2,yN]
 ·simp only[qF,ae,ah,aa,aj,ab,an,reduceCtorEq,Nat.reduceLT,Nat.reduceEqDiff,FE,h1,yN]
theorem nY{s:List Nat}{k:Nat}(hk:k<s.length)(kk:IntKind):CQ (.s s) (.i kk (k:Int))=some (.i .u8 (s[k]:Int)):=by
 rw[C0,if_pos (Int.natCast_nonneg k),Int.toNat_natCast,List.getElem?_eq_getElem hk];rfl
theorem qS{k:Nat}(h:k<4611686018427387904):wr .i64 ((k:Int)+1)=((k+1:Nat):Int):=by rw[nX (by omega)];omega
theorem yO(s:List Nat)(hs:s.length≤16)(lh:aQ aB)(sh:List aB): ∀(m k:Nat) (fr:Fr),s.length-k=m→k≤s.length→ak fr 0= .s s→ak fr 3= .i .i64 (k:Int)→
  ∃cO,DC pE 42 (.loop gC) ⟨fr,lh,sh⟩=some (if(s.drop k).all fQ then .ext 0 else .ret,⟨cO,lh,sh⟩)∧((s.drop k).all fQ=false→ak cO 2= .b false)
 |0,k,fr,hm,hk,h0,h3=>by
  have:k=s.length:=by omega
  subst this
  rw[im]
  generalize hK:DC pE 42 (.loop gC)=K
  simp only[ae,ah,aa,ab,an,reduceCtorEq,Nat.reduceLT,Nat.reduceEqDiff,gC,h0,h3,Int.lt_irrefl]
  simp
 |m+1,k,fr,hm,hk,h0,h3=>by
  have eo:k<s.length:=by omega
  have qo:(k:Int)<s.length:=by omega
  have hdr:s.drop k=s[k]::s.drop (k+1):=List.drop_eq_getElem_cons eo
  have hw:=qS (k:=k) (by omega)
  rw[im,hdr,List.all_cons]
  generalize hK:DC pE 42 (.loop gC)=K
  by_cases c1:qR s[k]
  ·have ht:fQ s[k]=true:=by simp[fQ,c1]
   simp only[qF,ae,ah,aa,aj,ab,reduceCtorEq,Nat.reduceLT,Nat.reduceEqDiff,gC,h0,h3,qo,nY eo,kM,uo,c1,ht,hw]
   rw[←hK]
   refine yO s hs lh sh m (k+1) _ (by omega) (by omega) ?_ ?_ <;> simp only[aa,ab,reduceCtorEq,h0]
  ·by_cases c2:yN s[k]
   ·have ht:fQ s[k]=true:=by simp[fQ,c2]
    simp only[qF,ae,ah,aa,aj,ab,an,reduceCtorEq,Nat.reduceLT,Nat.reduceEqDiff,gC,h0,h3,qo,nY eo,kM,rV,uo,IP,c1,c2,ht,hw]
    rw[←hK]
    refine yO s hs lh sh m (k+1) _ (by omega) (by omega) ?_ ?_ <;> simp only[aa,ab,reduceCtorEq,h0]
   ·by_cases c3:(s[k]:Int)=95
    ·have ht:fQ s[k]=true:=by simp[fQ,c3]
     have l1:=kM s[k]
     have l2:=rV s[k]
     rw[c3,decide_eq_false c1]at l1
     rw[c3,decide_eq_false c2]at l2
     simp only[qF,ae,ah,aa,aj,ab,reduceCtorEq,Nat.reduceLT,Nat.reduceEqDiff,gC,h0,h3,qo,nY eo,l1,l2,uo,IP,c3,ht,hw]
     rw[←hK]
     refine yO s hs lh sh m (k+1) _ (by omega) (by omega) ?_ ?_ <;> simp only[aa,ab,reduceCtorEq,h0]
    ·have ht:fQ s[k]=false:=by simp[fQ,c1,c2,c3]
     simp only[qF,ae,ah,aa,aj,ab,an,forall_const,reduceCtorEq,Nat.reduceLT,Nat.reduceEqDiff,gC,h0,h3,qo,nY eo,kM,rV,uo,IP,c1,c2,c3,ht]
     exact⟨_,rfl,by simp only[aa]⟩
theorem OB(s:List Nat)(hs:s.length≤16)(fr:Fr)(lh:aQ aB)(sh:List aB)(h0:ak fr 0= .s s)(h3:ak fr 3= .i .i64 0):
  DC pE 42 (.loop gC) ⟨fr,lh,sh⟩=some (if s.all fQ then .ext 0 else .ret,⟨cz pE 42 gC fr lh sh,lh,sh⟩)∧(s.all fQ=false→ak (cz pE 42 gC fr lh sh) 2= .b false):=by
 have:=u9 (yO s hs lh sh s.length 0 fr (by omega) (by omega) h0 h3)
 simpa using this
theorem Bb(s:List Nat):ai pE 182 [.s s] []=some (.b (gm s),[]):=by
 rw[aG QA (by simp[xY])]
 cases s with
 |nil=>simp only[qF,ae,ah,aa,aj,ab,reduceCtorEq,Nat.reduceLT,Nat.reduceEqDiff,Int.reduceLT,xY,gm]
 |cons c cs=>
  have h1: ¬((cs.length+1:Nat):Int)<1:=by omega
  by_cases h2:(16:Int)<((cs.length+1:Nat):Int)
  ·have h3: ¬cs.length<16:=by omega
   simp only[qF,ae,ah,aa,aj,ab,an,reduceCtorEq,Nat.reduceLT,Nat.reduceEqDiff,xY,gm,h1,h2,h3]
  ·have h3:cs.length<16:=by omega
   have Va:CQ (.s (c::cs)) (.i .i64 0)=some (.i .u8 (c:Int)):=by rw[C0];rfl
   by_cases c1:qR c
   ·have ht:fQ c=true:=by simp[fQ,c1]
    have hL:=fun fr lh sh=>OB (c::cs) (by simp;omega) fr lh sh
    simp only[List.all_cons,ht,Bool.true_and]at hL
    cases bl:cs.all fQ with
    |true=>
     simp only[bl]at hL
     simp only[qF,ae,ah,aa,aj,ab,an,reduceCtorEq,Nat.reduceLT,Nat.reduceEqDiff,xY,gm,h1,h2,h3,Va,kM,uo,c1,hL,bl]
    |false=>
     simp only[bl]at hL
     simp only[qF,ae,ah,aa,aj,ab,an,reduceCtorEq,Nat.reduceLT,Nat.reduceEqDiff,xY,gm,h1,h2,h3,Va,kM,uo,c1,hL,bl]
   ·simp only[qF,ae,ah,aa,aj,ab,an,reduceCtorEq,Nat.reduceLT,Nat.reduceEqDiff,xY,gm,h1,h2,h3,Va,kM,uo,c1]
def GL(k:Nat)(c:Nat):Bool:=decide (qR c)||(decide (0<k)&&fQ c)
def qT:Nat→List Nat→Bool
 |_,[]=>true
 |k,c::cs=>GL k c&&qT (k+1) cs
theorem Bc: ∀(cs:List Nat) (k:Nat),0<k→qT k cs=cs.all fQ
 | [],k,h=>rfl
 |c::cs,k,h=>by
  rw[qT,List.all_cons,Bc cs (k+1) (by omega)]
  congr 1
  unfold GL
  by_cases h1:qR c <;> simp[h,h1,fQ]
theorem Kz(s:List Nat)(hs:s.length≤16)(lh:aQ aB)(sh:List aB): ∀(m k:Nat) (fr:Fr),s.length-k=m→k≤s.length→ak fr 0= .s s→ak fr 14= .i .i64 (s.length:Int)→ak fr 15= .i .i64 (k:Int)→
  ∃cO,DC pE 44 (.loop fL) ⟨fr,lh,sh⟩=some (if qT k (s.drop k)then .ext 0 else .ret,⟨cO,lh,sh⟩)∧(qT k (s.drop k)=false→ak cO 2= .b false)
 |0,k,fr,hm,hk,h0,fj,h3=>by
  have:k=s.length:=by omega
  subst this
  rw[im]
  generalize hK:DC pE 44 (.loop fL)=K
  simp only[ae,ah,aa,ab,an,Nat.reduceLT,fL,h3,fj,Int.lt_irrefl]
  simp[qT]
 |m+1,k,fr,hm,hk,h0,fj,h3=>by
  have eo:k<s.length:=by omega
  have qo:(k:Int)<s.length:=by omega
  have hdr:s.drop k=s[k]::s.drop (k+1):=List.drop_eq_getElem_cons eo
  have hw:=qS (k:=k) (by omega)
  rw[im,hdr,qT]
  generalize hK:DC pE 44 (.loop fL)=K
  have TS: ∀GM:Fr,ak GM 0= .s s→ak GM 14= .i .i64 (s.length:Int)→ak GM 15= .i .i64 ((k+1:Nat):Int)→
   ∃cO,K ⟨GM,lh,sh⟩=some (if qT (k+1) (s.drop (k+1))then .ext 0 else .ret,⟨cO,lh,sh⟩)∧(qT (k+1) (s.drop (k+1))=false→ak cO 2= .b false):=fun GM a b c=>by
    rw[←hK];exact Kz s hs lh sh m (k+1) GM (by omega) (by omega) a b c
  by_cases c1:(97:Int)≤s[k]∧(s[k]:Int)≤122
  ·have ht:GL k s[k]=true:=by simp[GL,qR,c1]
   obtain⟨a1,a2⟩:=c1
   simp only[ae,ah,aa,aj,ab,reduceCtorEq,Nat.reduceLT,Nat.reduceEqDiff,fL,h0,h3,fj,qo,nY eo,a1,a2,ht,hw]
   refine TS _ ?_ ?_ ?_ <;> simp only[aa,ab,reduceCtorEq,Nat.reduceEqDiff,h0,fj]
  ·by_cases c0:0<k
   ·have Ym:(0:Int)<k:=by omega
    by_cases c2:(48:Int)≤s[k]∧(s[k]:Int)≤57
    ·have ht:GL k s[k]=true:=by simp[GL,fQ,yN,c2,c0]
     obtain⟨a1,a2⟩:=c2
     have a3: ¬(97:Int)≤s[k]:=by omega
     simp only[ae,ah,aa,aj,ab,an,reduceCtorEq,Nat.reduceLT,Nat.reduceEqDiff,fL,h0,h3,fj,qo,nY eo,a1,a2,a3,Ym,ht,hw]
     refine TS _ ?_ ?_ ?_ <;> simp only[aa,ab,reduceCtorEq,Nat.reduceEqDiff,h0,fj]
    ·by_cases c3:(s[k]:Int)=95
     ·have ht:GL k s[k]=true:=by simp[GL,fQ,c3,c0]
      simp only[ae,ah,aa,aj,ab,an,reduceCtorEq,Nat.reduceLT,Nat.reduceEqDiff,Int.reduceLE,fL,h0,h3,fj,qo,nY eo,c3,Ym,ht,hw]
      refine TS _ ?_ ?_ ?_ <;> simp only[aa,ab,reduceCtorEq,Nat.reduceEqDiff,h0,fj]
     ·have ht:GL k s[k]=false:=by simp[GL,fQ,qR,yN,c1,c2,c3]
      by_cases a1:(97:Int)≤s[k] <;> by_cases a2:(s[k]:Int)≤122 <;> by_cases a3:(48:Int)≤s[k] <;> by_cases a4:(s[k]:Int)≤57 <;> first|omega|(simp only[ae,ah,aa,aj,ab,an,forall_const,reduceCtorEq,Nat.reduceLT,Nat.reduceEqDiff,fL,h0,h3,fj,qo,nY eo,a1,a2,a3,a4,c3,Ym,ht];exact⟨_,rfl,by simp only[aa]⟩)
   ·have Ym: ¬(0:Int)<k:=by omega
    have ht:GL k s[k]=false:=by simp[GL,qR,c1,c0]
    by_cases a1:(97:Int)≤s[k] <;> by_cases a2:(s[k]:Int)≤122 <;> first|omega|(simp only[ae,ah,aa,aj,ab,an,forall_const,reduceCtorEq,Nat.reduceLT,Nat.reduceEqDiff,fL,h0,h3,fj,qo,nY eo,a1,a2,Ym,ht];exact⟨_,rfl,by simp only[aa]⟩)
theorem OC(s:List Nat)(hs:s.length≤16)(fr:Fr)(lh:aQ aB)(sh:List aB)(h0:ak fr 0= .s s)(fj:ak fr 14= .i .i64 (s.length:Int))(h3:ak fr 15= .i .i64 0):
  DC pE 44 (.loop fL) ⟨fr,lh,sh⟩=some (if qT 0 s then .ext 0 else .ret,⟨cz pE 44 fL fr lh sh,lh,sh⟩)∧(qT 0 s=false→ak (cz pE 44 fL fr lh sh) 2= .b false):=by
 have:=u9 (Kz s hs lh sh s.length 0 fr (by omega) (by omega) h0 fj h3)
 simpa using this
theorem Bd(s:List Nat):ai pE 174 [.s s] []=some (.b (gm s),[]):=by
 rw[aG Qy (by simp[zZ])]
 by_cases h1:((s.length:Nat):Int)<1
 ·have:s= []:=by cases s with|nil=>rfl|cons c cs=>simp at h1;omega
  subst this
  simp only[qF,ae,ah,aa,aj,ab,reduceCtorEq,Nat.reduceLT,Nat.reduceEqDiff,Int.reduceLT,zZ,gm]
 ·by_cases h2:(16:Int)<((s.length:Nat):Int)
  ·have h3:gm s=false:=by cases s with|nil=>simp at h2|cons c cs=>simp[gm];intro h;simp at h2;omega
   simp only[qF,ae,ah,aa,aj,ab,an,reduceCtorEq,Nat.reduceLT,Nat.reduceEqDiff,zZ,h1,h2,h3]
  ·have h3:gm s=qT 0 s:=by
    cases s with
    |nil=>simp at h1
    |cons c cs=>
     rw[qT,Bc cs 1 (by omega)]
     have:cs.length<16:=by simp at h2;omega
     simp[gm,this,GL]
   have hL:=fun fr lh sh=>OC s (by omega) fr lh sh
   rw[h3]
   cases bl:qT 0 s with
   |true=>
    simp only[bl]at hL
    simp only[qF,ae,ah,aa,aj,ab,an,reduceCtorEq,Nat.reduceLT,Nat.reduceEqDiff,zZ,h1,h2,hL]
   |false=>
    simp only[bl]at hL
    simp only[qF,ae,ah,aa,aj,ab,an,reduceCtorEq,Nat.reduceLT,Nat.reduceEqDiff,zZ,h1,h2,hL]
end Go.Proofs.YtfenhjpkomldcaaGreat
namespace Go.Proofs.YtfenhjpkomldcaaGreat
open Go Go.Ev
def De:List (List Nat):= [[97,110,100],[111,114],[110,111,116],[105,109,112,108,105,101,115],[105,110],[116,111],[116,114,117,101],[102,97,108,115,101],[109,105,110],[109,97,120],[105,102],[116,104,101,110],[101,108,115,101]]
def KA:List (List Nat):= [[108,101,103,115],[104,101,97,100,115],[116,121,112,101,115]]
def KB:List (List Nat):= [[98,108,111,99,107],[115,112,97,110],[110,105,103,104,116],[108,111,110,103,101,115,116],[115,104,111,114,116,101,115,116],[115,104,105,102,116]]
def KC:List (List Nat):= [[115,116,97,114,116],[101,110,100]]
def Be:List (List Nat):= [[100,117,116,105,101,115],[108,101,103,115],[104,101,97,100,115],[100,97,121,115]]
def Bf:List (List Nat):= [[98,108,111,99,107],[115,112,97,110],[99,114,101,100,105,116]]
def xt:List (List Nat):= [[108,101,103,115],[104,101,97,100,115],[116,121,112,101,115],[98,108,111,99,107],[115,112,97,110],[110,105,103,104,116],[108,111,110,103,101,115,116],[115,104,111,114,116,101,115,116],[115,104,105,102,116],[115,116,97,114,116],[101,110,100]]
def xu:List (List Nat):= [[114,101,115,116],[110,105,103,104,116,115],[104,111,109,101],[98,101,102,111,114,101,46,108,101,103,115],[98,101,102,111,114,101,46,104,101,97,100,115],[98,101,102,111,114,101,46,116,121,112,101,115],[98,101,102,111,114,101,46,98,108,111,99,107],[98,101,102,111,114,101,46,115,112,97,110],[98,101,102,111,114,101,46,110,105,103,104,116],[98,101,102,111,114,101,46,108,111,110,103,101,115,116],[98,101,102,111,114,101,46,115,104,111,114,116,101,115,116],[98,101,102,111,114,101,46,115,104,105,102,116],[98,101,102,111,114,101,46,115,116,97,114,116],[98,101,102,111,114,101,46,101,110,100],[97,102,116,101,114,46,108,101,103,115],[97,102,116,101,114,46,104,101,97,100,115],[97,102,116,101,114,46,116,121,112,101,115],[97,102,116,101,114,46,98,108,111,99,107],[97,102,116,101,114,46,115,112,97,110],[97,102,116,101,114,46,110,105,103,104,116],[97,102,116,101,114,46,108,111,110,103,101,115,116],[97,102,116,101,114,46,115,104,111,114,116,101,115,116],[97,102,116,101,114,46,115,104,105,102,116],[97,102,116,101,114,46,115,116,97,114,116],[97,102,116,101,114,46,101,110,100]]
def xw:List (List Nat):= [[100,117,116,105,101,115],[108,101,103,115],[104,101,97,100,115],[100,97,121,115],[98,108,111,99,107],[115,112,97,110],[99,114,101,100,105,116]]
def Df(s:List Nat):Bool:=decide (s∈De)
def eF(s:List Nat):Bool:=gm s&& !Df s
def nZ(s:List Nat):Int:=if s∈KA then 1 else if s∈KB then 2 else if s∈KC then 3 else 0
def qU(s:List Nat):Int:=if s∈Be then 1 else if s∈Bf then 2 else 0
def EL:List Nat:= [98,101,102,111,114,101,46]
def GN:List Nat:= [97,102,116,101,114,46]
def n6(p s:List Nat):Prop:=p.length≤s.length∧s.take p.length=p
instance (p s:List Nat):Decidable (n6 p s):=by unfold n6;infer_instance
def vn(s:List Nat):Int:=if s= [114,101,115,116]then 2 else if s= [110,105,103,104,116,115]then 1 else if s= [104,111,109,101]then 4 else if n6 EL s then nZ (s.drop 7)else if n6 GN s then nZ (s.drop 6)else 0
def dI(scope:Int)(s:List Nat):Int:=if scope=1 then nZ s else if scope=2 then vn s else if scope=3 then qU s else 0
theorem OD(s:List Nat):ai pE 251 [.s s] []=some (.b (Df s),[]):=by
 by_cases h:s∈De
 ·rw[Df,decide_eq_true h]
  have h':=h
  simp only[De,List.mem_cons,List.not_mem_nil,or_false]at h'
  rcases h' with rfl|rfl|rfl|rfl|rfl|rfl|rfl|rfl|rfl|rfl|rfl|rfl|rfl <;> exact cd (m:=100) (bZ (by kernel_rfl))
 ·rw[Df,decide_eq_false h]
  have h':=h
  simp only[De,List.mem_cons,List.not_mem_nil,or_false,not_or]at h'
  obtain⟨e0,e1,e2,e3,e4,e5,e6,e7,e8,e9,KD,OE,OF⟩:=h'
  rw[aG Q5 (by simp[Ij])]
  simp only[qF,ae,ah,aa,aj,ab,an,reduceCtorEq,Nat.reduceLT,Nat.reduceEqDiff,Ij,e0,e1,e2,e3,e4,e5,e6,e7,e8,e9,KD,OE,OF]
theorem OG(s:List Nat):ai pE 197 [.s s] []=some (.b (Df s),[]):=by
 by_cases h:s∈De
 ·rw[Df,decide_eq_true h]
  have h':=h
  simp only[De,List.mem_cons,List.not_mem_nil,or_false]at h'
  rcases h' with rfl|rfl|rfl|rfl|rfl|rfl|rfl|rfl|rfl|rfl|rfl|rfl|rfl <;> exact cd (m:=100) (bZ (by kernel_rfl))
 ·rw[Df,decide_eq_false h]
  have h':=h
  simp only[De,List.mem_cons,List.not_mem_nil,or_false,not_or]at h'
  obtain⟨e0,e1,e2,e3,e4,e5,e6,e7,e8,e9,KD,OE,OF⟩:=h'
  rw[aG QD (by simp[Ia])]
  have hs: ∀w:List Nat,(¬s=w)→((w=s)=False):=fun w hw=>eq_false fun e=>hw e.symm
  simp only[qF,ae,ah,aa,aj,ab,an,Int.reduceAdd,Int.reduceNeg,bW,dq,dw,splice,aH,repl,Nat.reduceAdd,reduceCtorEq,Nat.reduceLT,Nat.reduceLeDiff,Nat.reduceEqDiff,Int.reduceToNat,Int.reduceLE,Int.reduceLT,Ia,im,DQ,hs _ e0,hs _ e1,hs _ e2,hs _ e3,hs _ e4,hs _ e5,hs _ e6,hs _ e7,hs _ e8,hs _ e9,hs _ KD,hs _ OE,hs _ OF]
theorem mn(s:List Nat):ai pE 218 [.s s] []=some (.b (eF s),[]):=by
 rw[aG QM (by simp[Ic])]
 cases h:gm s <;> simp only[qF,ae,ah,aa,aj,ab,reduceCtorEq,Nat.reduceLT,Nat.reduceEqDiff,Ic,Bd,OD,Qz,WH,h,eF]
theorem mq(s:List Nat):ai pE 126 [.s s] []=some (.b (eF s),[]):=by
 rw[aG PV (by simp[HQ])]
 cases h:gm s <;> simp only[qF,ae,ah,aa,aj,ab,reduceCtorEq,Nat.reduceLT,Nat.reduceEqDiff,HQ,Bb,OG,QB,WA,h,eF]
theorem qV(s:List Nat):ai pE 133 [.s s] []=some (.i .i64 (nZ s),[]):=by
 by_cases h1:s∈KA
 ·rw[nZ,if_pos h1]
  have px:=h1
  simp only[KA,List.mem_cons,List.not_mem_nil,or_false]at px
  rcases px with rfl|rfl|rfl <;> exact cd (m:=100) (bZ (by kernel_rfl))
 ·rw[nZ,if_neg h1]
  by_cases h2:s∈KB
  ·rw[if_pos h2]
   have Au:=h2
   simp only[KB,List.mem_cons,List.not_mem_nil,or_false]at Au
   rcases Au with rfl|rfl|rfl|rfl|rfl|rfl <;> exact cd (m:=100) (bZ (by kernel_rfl))
  ·rw[if_neg h2]
   by_cases h3:s∈KC
   ·rw[if_pos h3]
    have Yn:=h3
    simp only[KC,List.mem_cons,List.not_mem_nil,or_false]at Yn
    rcases Yn with rfl|rfl <;> exact cd (m:=100) (bZ (by kernel_rfl))
   ·rw[if_neg h3]
    have px:=h1
    simp only[KA,List.mem_cons,List.not_mem_nil,or_false,not_or]at px
    obtain⟨a0,a1,a2⟩:=px
    have Au:=h2
    simp only[KB,List.mem_cons,List.not_mem_nil,or_false,not_or]at Au
    obtain⟨b0,b1,b2,b3,b4,b5⟩:=Au
    have Yn:=h3
    simp only[KC,List.mem_cons,List.not_mem_nil,or_false,not_or]at Yn
    obtain⟨d0,d1⟩:=Yn
    rw[aG PX (by simp[HR])]
    simp only[qF,ae,ah,aa,aj,ab,an,reduceCtorEq,Nat.reduceLT,Nat.reduceEqDiff,HR,a0,a1,a2,b0,b1,b2,b3,b4,b5,d0,d1]
theorem KE(s:List Nat):ai pE 135 [.s s] []=some (.i .i64 (qU s),[]):=by
 by_cases h1:s∈Be
 ·rw[qU,if_pos h1]
  have px:=h1
  simp only[Be,List.mem_cons,List.not_mem_nil,or_false]at px
  rcases px with rfl|rfl|rfl|rfl <;> exact cd (m:=100) (bZ (by kernel_rfl))
 ·rw[qU,if_neg h1]
  by_cases h2:s∈Bf
  ·rw[if_pos h2]
   have Au:=h2
   simp only[Bf,List.mem_cons,List.not_mem_nil,or_false]at Au
   rcases Au with rfl|rfl|rfl <;> exact cd (m:=100) (bZ (by kernel_rfl))
  ·rw[if_neg h2]
   have px:=h1
   simp only[Be,List.mem_cons,List.not_mem_nil,or_false,not_or]at px
   obtain⟨a0,a1,a2,a3⟩:=px
   have Au:=h2
   simp only[Bf,List.mem_cons,List.not_mem_nil,or_false,not_or]at Au
   obtain⟨b0,b1,b2⟩:=Au
   rw[aG PZ (by simp[HS])]
   simp only[qF,ae,ah,aa,aj,ab,an,reduceCtorEq,Nat.reduceLT,Nat.reduceEqDiff,HS,a0,a1,a2,a3,b0,b1,b2]
theorem xx(s p:List Nat):ai pE 266 [.s s,.s p] []=some (.b (decide (n6 p s)),[]):=by
 rw[aG Q6 (by simp[FI])]
 by_cases h:p.length≤s.length
 ·have h':(p.length:Int)≤s.length:=by omega
  simp only[qF,ae,ah,aa,aj,ab,an,mZ,bH,reduceCtorEq,Nat.reduceLT,Nat.reduceEqDiff,FI,h,h',n6,Nat.sub_zero]
 ·have h': ¬(p.length:Int)≤s.length:=by omega
  simp only[qF,ae,ah,aa,aj,ab,an,reduceCtorEq,Nat.reduceLT,Nat.reduceEqDiff,FI,h,h',n6]
theorem xy(s p:List Nat):ai pE 212 [.s s,.s p] []=some (if n6 p s then .tup [.s (s.drop p.length),.b true]else .tup [.s s,.b false],[]):=by
 rw[aG QE (by simp[Ib])]
 have h1:ai pE 243 [.s s,.s p] []=some (if n6 p s then .tup [.s (s.drop p.length),.b true]else .tup [.s s,.b false],[]):=by
  rw[aG QW (by simp[FF])]
  by_cases h:n6 p s
  ·have hl:p.length≤s.length:=h.1
   have ht:List.take (s.length-p.length) (s.drop p.length)=s.drop p.length:=List.take_of_length_le (by simp)
   simp only[qF,ae,ah,aa,aj,ab,an,mZ,bH,reduceCtorEq,Nat.reduceLT,Nat.reduceEqDiff,FF,xx,Q7,h,hl,ht]
  ·simp only[qF,ae,ah,aa,aj,ab,an,reduceCtorEq,Nat.reduceLT,Nat.reduceEqDiff,FF,xx,Q7,h]
 by_cases h:n6 p s <;> simp only[h]at h1 <;> simp only[qF,ae,ah,aa,aj,ab,reduceCtorEq,Nat.reduceLT,Nat.reduceEqDiff,Ib,h1,WE,h]
theorem KF(s:List Nat):ai pE 134 [.s s] []=some (.i .i64 (vn s),[]):=by
 by_cases h1:s= [114,101,115,116]
 ·subst h1;exact cd (m:=100) (bZ (by kernel_rfl))
 ·by_cases h2:s= [110,105,103,104,116,115]
  ·subst h2;exact cd (m:=100) (bZ (by kernel_rfl))
  ·by_cases h3:s= [104,111,109,101]
   ·subst h3;exact cd (m:=100) (bZ (by kernel_rfl))
   ·have b1:=xy s EL
    have b2:=xy s GN
    have l1:EL.length=7:=rfl
    have l2:GN.length=6:=rfl
    rw[vn,if_neg h1,if_neg h2,if_neg h3]
    rw[aG PY (by simp[Ce])]
    rw[l1]at b1
    rw[l2]at b2
    by_cases h4:n6 EL s
    ·rw[if_pos h4]at b1
     unfold EL at b1
     simp only[qF,ae,ah,aa,aj,ab,an,reduceCtorEq,Nat.reduceLT,Nat.reduceEqDiff,Ce,h1,h2,h3,b1,qV,IM,DV,h4]
    ·rw[if_neg h4]at b1
     by_cases h5:n6 GN s
     ·rw[if_pos h5]at b2
      unfold EL at b1
      unfold GN at b2
      simp only[qF,ae,ah,aa,aj,ab,an,reduceCtorEq,Nat.reduceLT,Nat.reduceEqDiff,Ce,h1,h2,h3,b1,b2,qV,IM,DV,h4,h5]
     ·rw[if_neg h5]at b2
      unfold EL at b1
      unfold GN at b2
      simp only[qF,ae,ah,aa,aj,ab,an,reduceCtorEq,Nat.reduceLT,Nat.reduceEqDiff,Ce,h1,h2,h3,b1,b2,qV,IM,DV,h4,h5]
def lC(scope:Int)(s:List Nat):Int:=if dI scope s=0 then 6 else 0
theorem vo(scope:Int)(s:List Nat):ai pE 89 [.i .i64 scope,.s s] []=some (.tup [.i .i64 (dI scope s),.i .i64 (lC scope s)],[]):=by
 rw[aG VW (by simp[PH])]
 by_cases h1:scope=1
 ·by_cases h:nZ s=0 <;> simp only[qF,ae,ah,aa,aj,ab,an,reduceCtorEq,Nat.reduceLT,Nat.reduceEqDiff,Int.reduceEq,PH,h1,lC,dI,qV,DV,h]
 ·by_cases h2:scope=2
  ·by_cases h:vn s=0 <;> simp only[qF,ae,ah,aa,aj,ab,an,reduceCtorEq,Nat.reduceLT,Nat.reduceEqDiff,Int.reduceEq,PH,h2,lC,dI,KF,Wf,h]
  ·by_cases h3:scope=3
   ·by_cases h:qU s=0 <;> simp only[qF,ae,ah,aa,aj,ab,an,reduceCtorEq,Nat.reduceLT,Nat.reduceEqDiff,Int.reduceEq,PH,h3,lC,dI,KE,Wg,h]
   ·simp only[qF,ae,ah,aa,aj,ab,an,reduceCtorEq,Nat.reduceLT,Nat.reduceEqDiff,PH,h1,h2,h3,lC,dI]
def strs(l:List (List Nat)):List T:=l.map T.s
theorem Bg(l:List (List Nat)):(strs l).length=l.length:=by simp[strs]
theorem GO(l:List (List Nat))(k:Nat)(hk:k<l.length):(strs l).drop k=T.s l[k]::(strs l).drop (k+1):=by
 rw[List.drop_eq_getElem_cons (by rw[Bg];exact hk)];simp[strs]
theorem Dg:ai pE 84 [.i .i64 1] []=some (.sl (strs xt) 11 true,[]):=cd (m:=100) (bZ (by kernel_rfl))
theorem pN:ai pE 84 [.i .i64 2] []=some (.sl (strs xu) 25 false,[]):=cd (m:=100) (bZ (by kernel_rfl))
theorem Dh:ai pE 84 [.i .i64 3] []=some (.sl (strs xw) 7 true,[]):=cd (m:=100) (bZ (by kernel_rfl))
theorem Di(scope:Int)(h1:scope≠1)(h2:scope≠2)(h3:scope≠3):ai pE 84 [.i .i64 scope] []=some (.nilsl,[]):=by
 rw[aG VV (by simp[Vv])]
 simp only[qF,ae,ah,aa,aj,ab,an,dq,dw,splice,aH,repl,Nat.reduceAdd,reduceCtorEq,Nat.reduceLT,Nat.reduceLeDiff,Nat.reduceEqDiff,Vv,h1,h2,h3]
theorem KG(s:List Nat)(v:T)(l:List (List Nat))(hv:aR v l.length (strs l))(hb:l.length<1000)(hs:s∉l)(lh:aQ aB)(sh:List aB): ∀(m k:Nat) (fr:Fr),l.length-k=m→k≤l.length→ak fr 1= .s s→ak fr 6=v→ak fr 7= .i .i64 (k:Int)→
  ∃cO,DC pE 69 (.loop nQ) ⟨fr,lh,sh⟩=some (.ext 0,⟨cO,lh,sh⟩)∧ak cO 1= .s s
 |0,k,fr,hm,hk,h1,h6,h7=>by
  have:k=l.length:=by omega
  subst this
  rw[im]
  generalize hK:DC pE 69 (.loop nQ)=K
  simp only[ae,ah,aa,ab,an,Nat.reduceLT,Nat.reduceEqDiff,nQ,h6,h7,hv.lenI,Int.lt_irrefl]
  exact⟨_,rfl,by simp only[aa,ab,Nat.reduceEqDiff,h1]⟩
 |m+1,k,fr,hm,hk,h1,h6,h7=>by
  have eo:k<l.length:=by omega
  have qo:(k:Int)<l.length:=by omega
  have hw:=qS (k:=k) (by omega)
  have ev: ¬l[k]=s:=fun e=>hs (e▸List.getElem_mem eo)
  have bh: ∀kk,uW v (.i kk (k:Int)) 1=some (.vp (T.s l[k]::(strs l).drop (k+1))):=fun kk=>by rw[hv.ia (sz:=1) (by rw[Bg];omega) eo,Nat.mul_one,GO l k eo]
  rw[im]
  generalize hK:DC pE 69 (.loop nQ)=K
  simp only[ae,ah,aa,aj,ab,an,Nat.reduceLT,Nat.reduceEqDiff,nQ,h1,h6,h7,hv.lenI,qo,bh,ev,hw]
  rw[←hK]
  refine KG s v l hv hb hs lh sh m (k+1) _ (by omega) (by omega) ?_ ?_ ?_ <;> simp only[aa,ab,Nat.reduceEqDiff,h1,h6]
theorem tL(s:List Nat)(v:T)(l:List (List Nat))(hv:aR v l.length (strs l))(hb:l.length<1000)(hs:s∉l)(fr:Fr)(lh:aQ aB)(sh:List aB)(h1:ak fr 1= .s s)(h6:ak fr 6=v)(h7:ak fr 7= .i .i64 0):
  DC pE 69 (.loop nQ) ⟨fr,lh,sh⟩=some (.ext 0,⟨cz pE 69 nQ fr lh sh,lh,sh⟩):=
 (u9 (KG s v l hv hb hs lh sh l.length 0 fr (by omega) (by omega) h1 h6 h7)).1
theorem qW(s:List Nat):ai pE 85 [.i .i64 1,.s s] []=some (.tup [.i .i64 (nZ s),.i .i64 (if nZ s=0 then 6 else 0)],[]):=by
 by_cases h:s∈xt
 ·have h':=h
  simp only[xt,List.mem_cons,List.not_mem_nil,or_false]at h'
  rcases h' with rfl|rfl|rfl|rfl|rfl|rfl|rfl|rfl|rfl|rfl|rfl <;> exact cd (m:=100) (bZ (by kernel_rfl))
 ·have hk:nZ s=0:=by
   simp only[xt,List.mem_cons,List.not_mem_nil,or_false,not_or]at h
   obtain⟨e0,e1,e2,e3,e4,e5,e6,e7,e8,e9,KD⟩:=h
   simp[nZ,KA,KB,KC,e0,e1,e2,e3,e4,e5,e6,e7,e8,e9,KD]
  rw[aG Ck (by simp[zy])]
  have hL:=fun fr lh sh=>tL s (.sl (strs xt) 11 true) xt (Or.inr ⟨true,rfl⟩) (by decide) h fr lh sh
  simp only[qF,ae,ah,aa,aj,ab,an,mZ,bH,reduceCtorEq,Nat.reduceLT,Nat.reduceEqDiff,Int.reduceToNat,Int.reduceLE,Int.reduceEq,zy,Dg,FO,hL,hk]
theorem GP(s:List Nat):ai pE 85 [.i .i64 3,.s s] []=some (.tup [.i .i64 (qU s),.i .i64 (if qU s=0 then 6 else 0)],[]):=by
 by_cases h:s∈xw
 ·have h':=h
  simp only[xw,List.mem_cons,List.not_mem_nil,or_false]at h'
  rcases h' with rfl|rfl|rfl|rfl|rfl|rfl|rfl <;> exact cd (m:=100) (bZ (by kernel_rfl))
 ·have hk:qU s=0:=by
   simp only[xw,List.mem_cons,List.not_mem_nil,or_false,not_or]at h
   obtain⟨e0,e1,e2,e3,e4,e5,e6⟩:=h
   simp[qU,Be,Bf,e0,e1,e2,e3,e4,e5,e6]
  rw[aG Ck (by simp[zy])]
  have hL:=fun fr lh sh=>tL s (.sl (strs xw) 7 true) xw (Or.inr ⟨true,rfl⟩) (by decide) h fr lh sh
  simp only[qF,ae,ah,aa,aj,ab,an,mZ,bH,reduceCtorEq,Nat.reduceLT,Nat.reduceEqDiff,Int.reduceToNat,Int.reduceLE,Int.reduceEq,zy,Dh,FO,hL,hk]
theorem GQ{s:List Nat}(hs:s∈xu):s= [114,101,115,116]∨s= [110,105,103,104,116,115]∨s= [104,111,109,101]∨(7<s.length∧s.take 7=EL)∨(6<s.length∧s.take 6=GN):=by
 simp only[xu,List.mem_cons,List.not_mem_nil,or_false]at hs
 rcases hs with rfl|rfl|rfl|rfl|rfl|rfl|rfl|rfl|rfl|rfl|rfl|rfl|rfl|rfl|rfl|rfl|rfl|rfl|rfl|rfl|rfl|rfl|rfl|rfl|rfl <;> decide
theorem Bh(s:List Nat):n6 EL s↔(7≤s.length∧s.take 7=EL):=Iff.rfl
theorem Bi(s:List Nat):n6 GN s↔(6≤s.length∧s.take 6=GN):=Iff.rfl
theorem GR(s:List Nat):ai pE 85 [.i .i64 2,.s s] []=some (.tup [.i .i64 (vn s),.i .i64 (if vn s=0 then 6 else 0)],[]):=by
 by_cases h1:s= [114,101,115,116]
 ·subst h1;exact cd (m:=100) (bZ (by kernel_rfl))
 by_cases h2:s= [110,105,103,104,116,115]
 ·subst h2;exact cd (m:=100) (bZ (by kernel_rfl))
 by_cases h3:s= [104,111,109,101]
 ·subst h3;exact cd (m:=100) (bZ (by kernel_rfl))
 rw[vn,if_neg h1,if_neg h2,if_neg h3]
 by_cases h4:n6 EL s
 ·rw[if_pos h4]
  have h4':=(Bh s).1 h4
  by_cases h6:7<s.length
  ·have ZZ:(7:Int)<s.length:=by omega
   have hle:7≤s.length:=by omega
   have e:=h4'.2
   unfold EL at e
   have ht:List.take (s.length-7) (s.drop 7)=s.drop 7:=List.take_of_length_le (by simp)
   rw[aG Ck (by simp[zy])]
   simp only[qF,ae,ah,aa,aj,ab,an,mZ,bH,reduceCtorEq,Nat.reduceLT,Nat.reduceEqDiff,Int.reduceToNat,Int.reduceLE,zy,ZZ,hle,Nat.sub_zero,e,qW,uj,ht]
  ·have:s=EL:=by
    rw[←h4'.2,List.take_of_length_le (by omega)]
   subst this
   exact cd (m:=100) (bZ (by kernel_rfl))
 ·rw[if_neg h4]
  have b1: ¬((7:Int)<s.length∧s.take 7=EL):=fun⟨a,b⟩=>h4 ((Bh s).2 ⟨by omega,b⟩)
  by_cases h5:n6 GN s
  ·rw[if_pos h5]
   have Ef:=(Bi s).1 h5
   by_cases h6:6<s.length
   ·have ZZ:(6:Int)<s.length:=by omega
    have hle:6≤s.length:=by omega
    have e:=Ef.2
    unfold GN at e
    have ht:List.take (s.length-6) (s.drop 6)=s.drop 6:=List.take_of_length_le (by simp)
    rw[aG Ck (by simp[zy])]
    by_cases h7:(7:Int)<s.length
    ·have TT:7≤s.length:=by omega
     have e7: ¬s.take 7= [98,101,102,111,114,101,46]:=fun b=>b1 ⟨h7,b⟩
     simp only[qF,ae,ah,aa,aj,ab,an,mZ,bH,reduceCtorEq,Nat.reduceLT,Nat.reduceEqDiff,Int.reduceToNat,Int.reduceLE,zy,ZZ,hle,h7,TT,e7,Nat.sub_zero,e,qW,uj,ht]
    ·simp only[qF,ae,ah,aa,aj,ab,an,mZ,bH,reduceCtorEq,Nat.reduceLT,Nat.reduceEqDiff,Int.reduceToNat,Int.reduceLE,zy,ZZ,hle,h7,Nat.sub_zero,e,qW,uj,ht]
   ·have:s=GN:=by
     rw[←Ef.2,List.take_of_length_le (by omega)]
    subst this
    exact cd (m:=100) (bZ (by kernel_rfl))
  ·rw[if_neg h5]
   have b2: ¬((6:Int)<s.length∧s.take 6=GN):=fun⟨a,b⟩=>h5 ((Bi s).2 ⟨by omega,b⟩)
   have hs:s∉xu:=fun hm=>by
    rcases GQ hm with h|h|h|⟨a,b⟩|⟨a,b⟩
    ·exact h1 h
    ·exact h2 h
    ·exact h3 h
    ·exact b1 ⟨by omega,b⟩
    ·exact b2 ⟨by omega,b⟩
   have hL:=fun fr lh sh=>tL s (.sl (strs xu) 25 false) xu (Or.inr ⟨false,rfl⟩) (by decide) hs fr lh sh
   rw[aG Ck (by simp[zy])]
   by_cases h7:(7:Int)<s.length
   ·have h6:(6:Int)<s.length:=by omega
    have TT:7≤s.length:=by omega
    have hle:6≤s.length:=by omega
    have e7: ¬s.take 7= [98,101,102,111,114,101,46]:=fun b=>b1 ⟨h7,b⟩
    have e6: ¬s.take 6= [97,102,116,101,114,46]:=fun b=>b2 ⟨h6,b⟩
    simp only[qF,ae,ah,aa,aj,ab,an,mZ,bH,reduceCtorEq,Nat.reduceLT,Nat.reduceEqDiff,Int.reduceToNat,Int.reduceLE,zy,h6,h7,hle,TT,e7,e6,Nat.sub_zero,pN,FO,hL]
   ·by_cases h6:(6:Int)<s.length
    ·have hle:6≤s.length:=by omega
     have e6: ¬s.take 6= [97,102,116,101,114,46]:=fun b=>b2 ⟨h6,b⟩
     simp only[qF,ae,ah,aa,aj,ab,an,mZ,bH,reduceCtorEq,Nat.reduceLT,Nat.reduceEqDiff,Int.reduceToNat,Int.reduceLE,zy,h6,h7,hle,e6,Nat.sub_zero,pN,FO,hL]
    ·simp only[qF,ae,ah,aa,aj,ab,an,mZ,bH,reduceCtorEq,Nat.reduceLT,Nat.reduceEqDiff,Int.reduceToNat,Int.reduceLE,zy,h6,h7,pN,FO,hL]
theorem qX(scope:Int)(s:List Nat):ai pE 85 [.i .i64 scope,.s s] []=some (.tup [.i .i64 (dI scope s),.i .i64 (lC scope s)],[]):=by
 unfold lC dI
 by_cases h1:scope=1
 ·subst h1;exact qW s
 ·by_cases h2:scope=2
  ·subst h2;exact GR s
  ·by_cases h3:scope=3
   ·subst h3;exact GP s
   ·simp only[h1,h2,h3,if_false,if_true]
    rw[aG Ck (by simp[zy])]
    have hL:=fun fr lh sh=>tL s .nilsl [] (Or.inl ⟨rfl,rfl,rfl⟩) (by decide) (by simp) fr lh sh
    simp only[qF,ae,ah,aa,aj,ab,an,mZ,bH,reduceCtorEq,Nat.reduceLT,Nat.reduceEqDiff,Int.reduceToNat,Int.reduceLE,zy,h2,Di scope h1 h2 h3,FO,hL]
end Go.Proofs.YtfenhjpkomldcaaGreat
