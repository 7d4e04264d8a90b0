/- Walks of functions of the program and of the reference, and their plain laws, part 1. Conditions: the theorems' own. -/
import Derived.Test.YtblcbheipjeoeaaGreatGS
import Derived.KernelRfl
set_option maxRecDepth 100000
set_option linter.unusedSimpArgs false
set_option linter.unusedVariables false
set_option maxHeartbeats 16000000
namespace Go.Proofs.YtblcbheipjeoeaaGreat
open Go Go.Ev
theorem je{m f:Nat}{args:List T}{r:T×List gR}(h:jY pE m f args []=some r):gS pE f args []=some r:=DCall_iff.2 ⟨m,h⟩
inductive Ex where
 |mk (op num:Int) (name:List Nat) (args:List Ex)
def Ex.op:Ex→Int| .mk o _ _ _=>o
def Ex.num:Ex→Int| .mk _ n _ _=>n
def Ex.name:Ex→List Nat| .mk _ _ s _=>s
def Ex.args:Ex→List Ex| .mk _ _ _ a=>a
mutual
def lK:Ex→List T→Prop
 | .mk op num name args,cs=> ∃a r,cs= [.i .i64 op,.i .i64 num,.s name,a]∧g8 a args.length r∧jN args r
def jN:List Ex→List T→Prop
 | [],cs=>cs= []
 |x::xs,cs=> ∃c r,cs=c++r∧lK x c∧jN xs r
end
theorem lK.cells{x:Ex}{cs:List T}(h:lK x cs): ∃a r,cs= [.i .i64 x.op,.i .i64 x.num,.s x.name,a]∧g8 a x.args.length r∧jN x.args r:=by
 obtain⟨o,n,s,a⟩:=x
 rw[lK]at h
 exact h
theorem lK.of{x:Ex}{a:T}{r:List T}(C:g8 a x.args.length r)(D:jN x.args r):lK x [.i .i64 x.op,.i .i64 x.num,.s x.name,a]:=by
 obtain⟨o,n,s,l⟩:=x
 rw[lK]
 exact⟨a,r,rfl,C,D⟩
theorem lK.len{x:Ex}{cs:List T}(h:lK x cs):cs.length=4:=by
 obtain⟨a,i,rfl,_⟩:=h.cells;rfl
theorem jN.len: ∀{xs:List Ex} {cs:List T},jN xs cs→cs.length=xs.length*4
 | [],cs,h=>by rw[jN]at h;rw[h];rfl
 |x::xs,cs,h=>by
  rw[jN]at h
  obtain⟨c,r,rfl,i,C⟩:=h
  rw[List.length_append,i.len,C.len,List.length_cons];omega
theorem jN.cons{x:Ex}{xs:List Ex}{c r:List T}(i:lK x c)(C:jN xs r):jN (x::xs) (c++r):=by
 rw[jN];exact⟨c,r,rfl,i,C⟩
theorem jN.drop: ∀{xs:List Ex} {cs:List T} (k:Nat) (i:k<xs.length),jN xs cs→ ∃c r,cs.drop (k*4)=c++r∧lK xs[k] c∧jN (xs.drop (k+1)) r
 | [],cs,k,i,h=>by simp at i
 |x::xs,cs,0,i,h=>by
  rw[jN]at h
  obtain⟨c,r,rfl,C,D⟩:=h
  exact⟨c,r,by simp,C,by simpa using D⟩
 |x::xs,cs,k+1,i,h=>by
  rw[jN]at h
  obtain⟨c,r,rfl,C,D⟩:=h
  obtain⟨E,F,e,H,I⟩:=jN.drop k (by simpa using i) D
  refine⟨E,F, ?_,H,by simpa using I⟩
  have:(k+1)*4=c.length+k*4:=by rw[C.len];omega
  rw[this,List.drop_append,Nat.add_sub_cancel_left,List.drop_eq_nil_of_le (by omega),e];rfl
theorem mY{xs:List Ex}{a:T}{D:List T}(I:g8 a xs.length D)(E:jN xs D)(k:Nat)(F:k<xs.length):
  ∃b C r,(∀kk,sH a (.i kk (k:Int)) 4=some (.vp (.i .i64 xs[k].op:: .i .i64 xs[k].num:: .s xs[k].name::b::r)))∧g8 b xs[k].args.length C∧jN xs[k].args C∧lK xs[k] [.i .i64 xs[k].op,.i .i64 xs[k].num,.s xs[k].name,b]:=by
 obtain⟨c,r,e,H,N⟩:=jN.drop k F E
 obtain⟨b,C,rfl,J,K⟩:=H.cells
 refine⟨b,C,r,fun kk=> ?_,J,K,H⟩
 rw[I.ia (sz:=4) E.len F,e];rfl
mutual
def Ex.nodes:Ex→Nat
 | .mk _ _ _ args=>1+jt args
def jt:List Ex→Nat
 | []=>0
 |x::xs=>x.nodes+jt xs
end
mutual
def Ex.depth:Ex→Nat
 | .mk _ _ _ args=>1+oC args
def oC:List Ex→Nat
 | []=>0
 |x::xs=>max x.depth (oC xs)
end
theorem Ex.nodes_eq(x:Ex):x.nodes=1+jt x.args:=by obtain⟨_,_,_,_⟩:=x;rw[Ex.nodes];rfl
theorem Ex.depth_eq(x:Ex):x.depth=1+oC x.args:=by obtain⟨_,_,_,_⟩:=x;rw[Ex.depth];rfl
theorem jR: ∀xs:List Ex,xs.length≤jt xs
 | []=>by simp
 |x::xs=>by
  have:=jR xs
  rw[jt,List.length_cons,x.nodes_eq];omega
theorem mj: ∀{xs:List Ex} {x:Ex},x∈xs→x.nodes≤jt xs
 |y::xs,x,h=>by
  rw[jt]
  rcases List.mem_cons.1 h with rfl|h
  ·omega
  ·have:=mj h;omega
theorem Ex.ind{P:Ex→Prop}(h: ∀x:Ex,(∀y∈x.args,P y)→P x)(x:Ex):P x:=by
 have: ∀n (x:Ex),x.nodes≤n→P x:=by
  intro n
  induction n with
  |zero=>intro x i;rw[x.nodes_eq]at i;omega
  |succ n ih=>
   intro x i
   refine h x fun y r=>ih y ?_
   have:=mj r
   rw[x.nodes_eq]at i;omega
 exact this _ x (Nat.le_refl _)
def Au(c:Nat):Prop:=(97:Int)≤c∧(c:Int)≤122
def CB(c:Nat):Prop:=(48:Int)≤c∧(c:Int)≤57
instance (c:Nat):Decidable (Au c):=by unfold Au;infer_instance
instance (c:Nat):Decidable (CB c):=by unfold CB;infer_instance
def nB(c:Nat):Bool:=decide (Au c∨CB c∨(c:Int)=95)
def lQ:List Nat→Bool
 | []=>false
 |c::cs=>decide (cs.length<16)&&(decide (Au c)&&cs.all nB)
theorem rM(c:Nat):gS pE 158 [.i .u8 c] []=some (.b (decide (Au c)),[]):=by
 rw[gX aeq (by simp[QE])]
 by_cases r:(97:Int)≤c
 ·by_cases C:(c:Int)≤122 <;> simp only[qA,seval,QE,r,C,Au]
 ·simp only[qA,seval,QE,r,Au]
theorem xD(c:Nat):gS pE 159 [.i .u8 c] []=some (.b (decide (CB c)),[]):=by
 rw[gX aer (by simp[QF])]
 by_cases r:(48:Int)≤c
 ·by_cases C:(c:Int)≤57 <;> simp only[qA,seval,QF,r,C,CB]
 ·simp only[qA,seval,QF,r,CB]
theorem qd{s:List Nat}{k:Nat}(r:k<s.length)(kk:IntKind):FF (.s s) (.i kk (k:Int))=some (.i .u8 (s[k]:Int)):=by
 rw[MV,if_pos (Int.natCast_nonneg k),Int.toNat_natCast,List.getElem?_eq_getElem r];rfl
theorem iG{k:Nat}(h:k<4611686018427387904):wr .i64 ((k:Int)+1)=((k+1:Nat):Int):=by rw[jL (by omega)];omega
theorem Im(s:List Nat)(hs:s.length≤16)(lh:hJ gR)(sh:List gR): ∀(m k:Nat) (fr:Fr),s.length-k=m→k≤s.length→an fr 0= .s s→an fr 3= .i .i64 (k:Int)→
  ∃V,DC pE 42 (.loop qo) ⟨fr,lh,sh⟩=some (if(s.drop k).all nB then .ext 0 else .ret,⟨V,lh,sh⟩)∧((s.drop k).all nB=false→an V 2= .b false)
 |0,k,fr,Y,Z,r,D=>by
  have:k=s.length:=by omega
  subst this
  rw[qZ]
  generalize J:DC pE 42 (.loop qo)=K
  simp only[qA,seval,qo,r,D,Int.lt_irrefl]
  simp
 |m+1,k,fr,Y,Z,r,D=>by
  have H:k<s.length:=by omega
  have N:(k:Int)<s.length:=by omega
  have O:s.drop k=s[k]::s.drop (k+1):=List.drop_eq_getElem_cons H
  have U:=iG (k:=k) (by omega)
  rw[qZ,O,List.all_cons]
  generalize J:DC pE 42 (.loop qo)=K
  by_cases E:Au s[k]
  ·have C:nB s[k]=true:=by simp[nB,E]
   simp only[qA,seval,qo,r,D,N,qd H,rM,Ds,E,C,U]
   rw[←J]
   refine Im s hs lh sh m (k+1) _ (by omega) (by omega) ?_ ?_ <;> simp only[qA,seval,r]
  ·by_cases I:CB s[k]
   ·have C:nB s[k]=true:=by simp[nB,I]
    simp only[qA,seval,qo,r,D,N,qd H,rM,xD,Ds,JJ,E,I,C,U]
    rw[←J]
    refine Im s hs lh sh m (k+1) _ (by omega) (by omega) ?_ ?_ <;> simp only[qA,seval,r]
   ·by_cases F:(s[k]:Int)=95
    ·have C:nB s[k]=true:=by simp[nB,F]
     have W:=rM s[k]
     have X:=xD s[k]
     rw[F,decide_eq_false E]at W
     rw[F,decide_eq_false I]at X
     simp only[qA,seval,qo,r,D,N,qd H,W,X,Ds,JJ,F,C,U]
     rw[←J]
     refine Im s hs lh sh m (k+1) _ (by omega) (by omega) ?_ ?_ <;> simp only[qA,seval,r]
    ·have C:nB s[k]=false:=by simp[nB,E,I,F]
     simp only[qA,seval,forall_const,qo,r,D,N,qd H,rM,xD,Ds,JJ,E,I,F,C]
     exact⟨_,rfl,by simp only[qA,seval]⟩
theorem acu(s:List Nat)(hs:s.length≤16)(fr:Fr)(lh:hJ gR)(sh:List gR)(r:an fr 0= .s s)(C:an fr 3= .i .i64 0):
  DC pE 42 (.loop qo) ⟨fr,lh,sh⟩=some (if s.all nB then .ext 0 else .ret,⟨kh pE 42 qo fr lh sh,lh,sh⟩)∧(s.all nB=false→an (kh pE 42 qo fr lh sh) 2= .b false):=by
 have:=D6 (Im s hs lh sh s.length 0 fr (by omega) (by omega) r C)
 simpa using this
theorem Av(s:List Nat):gS pE 97 [.s s] []=some (.b (lQ s),[]):=by
 rw[gX aoO (by simp[c97])]
 cases s with
 |nil=>simp only[qA,seval,c97,lQ]
 |cons c cs=>
  have D: ¬((cs.length+1:Nat):Int)<1:=by omega
  by_cases E:(16:Int)<((cs.length+1:Nat):Int)
  ·have r: ¬cs.length<16:=by omega
   simp only[qA,seval,c97,lQ,D,E,r]
  ·have r:cs.length<16:=by omega
   have L5:FF (.s (c::cs)) (.i .i64 0)=some (.i .u8 (c:Int)):=by rw[MV];rfl
   by_cases F:Au c
   ·have I:nB c=true:=by simp[nB,F]
    have C:=fun fr lh sh=>acu (c::cs) (by simp;omega) fr lh sh
    simp only[List.all_cons,I,Bool.true_and]at C
    cases H:cs.all nB with
    |true=>
     simp only[H]at C
     simp only[qA,seval,c97,lQ,D,E,r,L5,rM,Ds,F,C,H]
    |false=>
     simp only[H]at C
     simp only[qA,seval,c97,lQ,D,E,r,L5,rM,Ds,F,C,H]
   ·simp only[qA,seval,c97,lQ,D,E,r,L5,rM,Ds,F]
def Sg(k:Nat)(c:Nat):Bool:=decide (Au c)||(decide (0<k)&&nB c)
def Aw:Nat→List Nat→Bool
 |_,[]=>true
 |k,c::cs=>Sg k c&&Aw (k+1) cs
theorem KD: ∀(cs:List Nat) (k:Nat),0<k→Aw k cs=cs.all nB
 | [],k,h=>rfl
 |c::cs,k,h=>by
  rw[Aw,List.all_cons,KD cs (k+1) (by omega)]
  congr 1
  unfold Sg
  by_cases i:Au c <;> simp[h,i,nB]
theorem XK(s:List Nat)(hs:s.length≤16)(lh:hJ gR)(sh:List gR): ∀(m k:Nat) (fr:Fr),s.length-k=m→k≤s.length→an fr 0= .s s→an fr 14= .i .i64 (s.length:Int)→an fr 15= .i .i64 (k:Int)→
  ∃J,DC pE 44 (.loop pc) ⟨fr,lh,sh⟩=some (if Aw k (s.drop k)then .ext 0 else .ret,⟨J,lh,sh⟩)∧(Aw k (s.drop k)=false→an J 2= .b false)
 |0,k,fr,hm,hk,D,C,F=>by
  have:k=s.length:=by omega
  subst this
  rw[qZ]
  generalize hK:DC pE 44 (.loop pc)=K
  simp only[qA,seval,pc,F,C,Int.lt_irrefl]
  simp[Aw]
 |m+1,k,fr,hm,hk,D,C,F=>by
  have I:k<s.length:=by omega
  have N:(k:Int)<s.length:=by omega
  have V:s.drop k=s[k]::s.drop (k+1):=List.drop_eq_getElem_cons I
  have W:=iG (k:=k) (by omega)
  rw[qZ,V,Aw]
  generalize hK:DC pE 44 (.loop pc)=K
  have H: ∀Sh:Fr,an Sh 0= .s s→an Sh 14= .i .i64 (s.length:Int)→an Sh 15= .i .i64 ((k+1:Nat):Int)→
   ∃J,K ⟨Sh,lh,sh⟩=some (if Aw (k+1) (s.drop (k+1))then .ext 0 else .ret,⟨J,lh,sh⟩)∧(Aw (k+1) (s.drop (k+1))=false→an J 2= .b false):=fun Sh a b c=>by
    rw[←hK];exact XK s hs lh sh m (k+1) Sh (by omega) (by omega) a b c
  by_cases O:(97:Int)≤s[k]∧(s[k]:Int)≤122
  ·have E:Sg k s[k]=true:=by simp[Sg,Au,O]
   obtain⟨a1,a2⟩:=O
   simp only[qA,seval,pc,D,F,C,N,qd I,a1,a2,E,W]
   refine H _ ?_ ?_ ?_ <;> simp only[qA,seval,D,C]
  ·by_cases X:0<k
   ·have r:(0:Int)<k:=by omega
    by_cases Y:(48:Int)≤s[k]∧(s[k]:Int)≤57
    ·have E:Sg k s[k]=true:=by simp[Sg,nB,CB,Y,X]
     obtain⟨a1,a2⟩:=Y
     have Z: ¬(97:Int)≤s[k]:=by omega
     simp only[qA,seval,pc,D,F,C,N,qd I,a1,a2,Z,r,E,W]
     refine H _ ?_ ?_ ?_ <;> simp only[qA,seval,D,C]
    ·by_cases U:(s[k]:Int)=95
     ·have E:Sg k s[k]=true:=by simp[Sg,nB,U,X]
      simp only[qA,seval,pc,D,F,C,N,qd I,U,r,E,W]
      refine H _ ?_ ?_ ?_ <;> simp only[qA,seval,D,C]
     ·have E:Sg k s[k]=false:=by simp[Sg,nB,Au,CB,O,Y,U]
      by_cases a1:(97:Int)≤s[k] <;> by_cases a2:(s[k]:Int)≤122 <;> by_cases Z:(48:Int)≤s[k] <;> by_cases a4:(s[k]:Int)≤57 <;> first|omega|(simp only[qA,seval,forall_const,pc,D,F,C,N,qd I,a1,a2,Z,a4,U,r,E];exact⟨_,rfl,by simp only[qA,seval]⟩)
   ·have r: ¬(0:Int)<k:=by omega
    have E:Sg k s[k]=false:=by simp[Sg,Au,O,X]
    by_cases a1:(97:Int)≤s[k] <;> by_cases a2:(s[k]:Int)≤122 <;> first|omega|(simp only[qA,seval,forall_const,pc,D,F,C,N,qd I,a1,a2,r,E];exact⟨_,rfl,by simp only[qA,seval]⟩)
theorem acv(s:List Nat)(hs:s.length≤16)(fr:Fr)(lh:hJ gR)(sh:List gR)(r:an fr 0= .s s)(C:an fr 14= .i .i64 (s.length:Int))(D:an fr 15= .i .i64 0):
  DC pE 44 (.loop pc) ⟨fr,lh,sh⟩=some (if Aw 0 s then .ext 0 else .ret,⟨kh pE 44 pc fr lh sh,lh,sh⟩)∧(Aw 0 s=false→an (kh pE 44 pc fr lh sh) 2= .b false):=by
 have:=D6 (XK s hs lh sh s.length 0 fr (by omega) (by omega) r C D)
 simpa using this
theorem Ax(s:List Nat):gS pE 94 [.s s] []=some (.b (lQ s),[]):=by
 rw[gX aoN (by simp[c94])]
 by_cases r:((s.length:Nat):Int)<1
 ·have:s= []:=by cases s with|nil=>rfl|cons c cs=>simp at r;omega
  subst this
  simp only[qA,seval,c94,lQ]
 ·by_cases i:(16:Int)<((s.length:Nat):Int)
  ·have D:lQ s=false:=by cases s with|nil=>simp at i|cons c cs=>simp[lQ];intro h;simp at i;omega
   simp only[qA,seval,c94,r,i,D]
  ·have D:lQ s=Aw 0 s:=by
    cases s with
    |nil=>simp at r
    |cons c cs=>
     rw[Aw,KD cs 1 (by omega)]
     have:cs.length<16:=by simp at i;omega
     simp[lQ,this,Sg]
   have C:=fun fr lh sh=>acv s (by omega) fr lh sh
   rw[D]
   cases E:Aw 0 s with
   |true=>
    simp only[E]at C
    simp only[qA,seval,c94,r,i,C]
   |false=>
    simp only[E]at C
    simp only[qA,seval,c94,r,i,C]
def Ng:List (List Nat):= [[97,110,100],[111,114],[110,111,116],[105,109,112,108,105,101,115],[105,110],[116,111],[116,114,117,101],[102,97,108,115,101],[109,105,110],[109,97,120],[105,102],[116,104,101,110],[101,108,115,101]]
def Si:List (List Nat):= [[108,101,103,115],[104,101,97,100,115],[116,121,112,101,115]]
def Sj:List (List Nat):= [[98,108,111,99,107],[115,112,97,110],[110,105,103,104,116],[108,111,110,103,101,115,116],[115,104,111,114,116,101,115,116],[115,104,105,102,116]]
def Sk:List (List Nat):= [[115,116,97,114,116],[101,110,100]]
def GQ:List (List Nat):= [[100,117,116,105,101,115],[108,101,103,115],[104,101,97,100,115],[100,97,121,115]]
def GR:List (List Nat):= [[98,108,111,99,107],[115,112,97,110],[99,114,101,100,105,116]]
def jb:List (List Nat):= [[108,101,103,115],[104,101,97,100,115],[116,121,112,101,115],[98,108,111,99,107],[115,112,97,110],[110,105,103,104,116],[108,111,110,103,101,115,116],[115,104,111,114,116,101,115,116],[115,104,105,102,116],[115,116,97,114,116],[101,110,100]]
def lr:List (List Nat):= [[114,101,115,116],[110,105,103,104,116,115],[104,111,109,101],[98,101,102,111,114,101,46,108,101,103,115],[98,101,102,111,114,101,46,104,101,97,100,115],[98,101,102,111,114,101,46,116,121,112,101,115],[98,101,102,111,114,101,46,98,108,111,99,107],[98,101,102,111,114,101,46,115,112,97,110],[98,101,102,111,114,101,46,110,105,103,104,116],[98,101,102,111,114,101,46,108,111,110,103,101,115,116],[98,101,102,111,114,101,46,115,104,111,114,116,101,115,116],[98,101,102,111,114,101,46,115,104,105,102,116],[98,101,102,111,114,101,46,115,116,97,114,116],[98,101,102,111,114,101,46,101,110,100],[97,102,116,101,114,46,108,101,103,115],[97,102,116,101,114,46,104,101,97,100,115],[97,102,116,101,114,46,116,121,112,101,115],[97,102,116,101,114,46,98,108,111,99,107],[97,102,116,101,114,46,115,112,97,110],[97,102,116,101,114,46,110,105,103,104,116],[97,102,116,101,114,46,108,111,110,103,101,115,116],[97,102,116,101,114,46,115,104,111,114,116,101,115,116],[97,102,116,101,114,46,115,104,105,102,116],[97,102,116,101,114,46,115,116,97,114,116],[97,102,116,101,114,46,101,110,100]]
def mZ:List (List Nat):= [[100,117,116,105,101,115],[108,101,103,115],[104,101,97,100,115],[100,97,121,115],[98,108,111,99,107],[115,112,97,110],[99,114,101,100,105,116]]
def Nh(s:List Nat):Bool:=decide (s∈Ng)
def qw(s:List Nat):Bool:=lQ s&& !Nh s
def oU(s:List Nat):Int:=if s∈Si then 1 else if s∈Sj then 2 else if s∈Sk then 3 else 0
def wO(s:List Nat):Int:=if s∈GQ then 1 else if s∈GR then 2 else 0
def L6:List Nat:= [98,101,102,111,114,101,46]
def Ni:List Nat:= [97,102,116,101,114,46]
def vn(p s:List Nat):Prop:=p.length≤s.length∧s.take p.length=p
instance (p s:List Nat):Decidable (vn p s):=by unfold vn;infer_instance
def Ay(s:List Nat):Int:=if s= [114,101,115,116]then 2 else if s= [110,105,103,104,116,115]then 1 else if s= [104,111,109,101]then 4 else if vn L6 s then oU (s.drop 7)else if vn Ni s then oU (s.drop 6)else 0
def ki(scope:Int)(s:List Nat):Int:=if scope=1 then oU s else if scope=2 then Ay s else if scope=3 then wO s else 0
theorem acw(s:List Nat):gS pE 299 [.s s] []=some (.b (Nh s),[]):=by
 by_cases h:s∈Ng
 ·rw[Nh,decide_eq_true h]
  have i:=h
  simp only[Ng,List.mem_cons,List.not_mem_nil,or_false]at i
  rcases i with rfl|rfl|rfl|rfl|rfl|rfl|rfl|rfl|rfl|rfl|rfl|rfl|rfl <;> exact je (m:=100) (jd (by kernel_rfl))
 ·rw[Nh,decide_eq_false h]
  have i:=h
  simp only[Ng,List.mem_cons,List.not_mem_nil,or_false,not_or]at i
  obtain⟨E,F,H,I,J,K,N,O,U,V,r,C,D⟩:=i
  rw[gX afK (by simp[UQ])]
  simp only[qA,seval,UQ,E,F,H,I,J,K,N,O,U,V,r,C,D]
theorem acx(s:List Nat):gS pE 278 [.s s] []=some (.b (Nh s),[]):=by
 by_cases h:s∈Ng
 ·rw[Nh,decide_eq_true h]
  have i:=h
  simp only[Ng,List.mem_cons,List.not_mem_nil,or_false]at i
  rcases i with rfl|rfl|rfl|rfl|rfl|rfl|rfl|rfl|rfl|rfl|rfl|rfl|rfl <;> exact je (m:=100) (jd (by kernel_rfl))
 ·rw[Nh,decide_eq_false h]
  have i:=h
  simp only[Ng,List.mem_cons,List.not_mem_nil,or_false,not_or]at i
  obtain⟨E,F,H,I,J,K,N,O,U,V,r,C,D⟩:=i
  rw[gX afw (by simp[UH])]
  have hs: ∀w:List Nat,(¬s=w)→((w=s)=False):=fun w W=>eq_false fun e=>W e.symm
  simp only[qA,seval,jm,repl,UH,qZ,Ol,hs _ E,hs _ F,hs _ H,hs _ I,hs _ J,hs _ K,hs _ N,hs _ O,hs _ U,hs _ V,hs _ r,hs _ C,hs _ D]
theorem tU(s:List Nat):gS pE 271 [.s s] []=some (.b (qw s),[]):=by
 rw[gX afq (by simp[UF])]
 cases h:lQ s <;> simp only[qA,seval,UF,Ax,acw,vR,apU,h,qw]
theorem tV(s:List Nat):gS pE 241 [.s s] []=some (.b (qw s),[]):=by
 rw[gX ae5 (by simp[Uv])]
 cases h:lQ s <;> simp only[qA,seval,Uv,Av,acx,tg,apM,h,qw]
theorem Az(s:List Nat):gS pE 208 [.s s] []=some (.i .i64 (oU s),[]):=by
 by_cases C:s∈Si
 ·rw[oU,if_pos C]
  have r:=C
  simp only[Si,List.mem_cons,List.not_mem_nil,or_false]at r
  rcases r with rfl|rfl|rfl <;> exact je (m:=100) (jd (by kernel_rfl))
 ·rw[oU,if_neg C]
  by_cases D:s∈Sj
  ·rw[if_pos D]
   have B6:=D
   simp only[Sj,List.mem_cons,List.not_mem_nil,or_false]at B6
   rcases B6 with rfl|rfl|rfl|rfl|rfl|rfl <;> exact je (m:=100) (jd (by kernel_rfl))
  ·rw[if_neg D]
   by_cases E:s∈Sk
   ·rw[if_pos E]
    have Sl:=E
    simp only[Sk,List.mem_cons,List.not_mem_nil,or_false]at Sl
    rcases Sl with rfl|rfl <;> exact je (m:=100) (jd (by kernel_rfl))
   ·rw[if_neg E]
    have r:=C
    simp only[Si,List.mem_cons,List.not_mem_nil,or_false,not_or]at r
    obtain⟨a0,a1,a2⟩:=r
    have B6:=D
    simp only[Sj,List.mem_cons,List.not_mem_nil,or_false,not_or]at B6
    obtain⟨F,H,I,J,K,N⟩:=B6
    have Sl:=E
    simp only[Sk,List.mem_cons,List.not_mem_nil,or_false,not_or]at Sl
    obtain⟨O,U⟩:=Sl
    rw[gX aeM (by simp[Un])]
    simp only[qA,seval,Un,a0,a1,a2,F,H,I,J,K,N,O,U]
theorem XL(s:List Nat):gS pE 210 [.s s] []=some (.i .i64 (wO s),[]):=by
 by_cases C:s∈GQ
 ·rw[wO,if_pos C]
  have r:=C
  simp only[GQ,List.mem_cons,List.not_mem_nil,or_false]at r
  rcases r with rfl|rfl|rfl|rfl <;> exact je (m:=100) (jd (by kernel_rfl))
 ·rw[wO,if_neg C]
  by_cases D:s∈GR
  ·rw[if_pos D]
   have B6:=D
   simp only[GR,List.mem_cons,List.not_mem_nil,or_false]at B6
   rcases B6 with rfl|rfl|rfl <;> exact je (m:=100) (jd (by kernel_rfl))
  ·rw[if_neg D]
   have r:=C
   simp only[GQ,List.mem_cons,List.not_mem_nil,or_false,not_or]at r
   obtain⟨a0,a1,a2,E⟩:=r
   have B6:=D
   simp only[GR,List.mem_cons,List.not_mem_nil,or_false,not_or]at B6
   obtain⟨F,H,I⟩:=B6
   rw[gX aeO (by simp[Uo])]
   simp only[qA,seval,Uo,a0,a1,a2,E,F,H,I]
theorem GS(s p:List Nat):gS pE 317 [.s s,.s p] []=some (.b (decide (vn p s)),[]):=by
 rw[gX afS (by simp[Q7])]
 by_cases h:p.length≤s.length
 ·have i:(p.length:Int)≤s.length:=by omega
  simp only[qA,seval,uZ,Q7,h,i,vn,Nat.sub_zero]
 ·have i: ¬(p.length:Int)≤s.length:=by omega
  simp only[qA,seval,Q7,h,i,vn]
theorem GU(s p:List Nat):gS pE 266 [.s s,.s p] []=some (if vn p s then .tup [.s (s.drop p.length),.b true]else .tup [.s s,.b false],[]):=by
 rw[gX afp (by simp[UE])]
 have i:gS pE 294 [.s s,.s p] []=some (if vn p s then .tup [.s (s.drop p.length),.b true]else .tup [.s s,.b false],[]):=by
  rw[gX afJ (by simp[Q4])]
  by_cases h:vn p s
  ·have r:p.length≤s.length:=h.1
   have C:List.take (s.length-p.length) (s.drop p.length)=s.drop p.length:=List.take_of_length_le (by simp)
   simp only[qA,seval,uZ,Q4,GS,afT,h,r,C]
  ·simp only[qA,seval,Q4,GS,afT,h]
 by_cases h:vn p s <;> simp only[h]at i <;> simp only[qA,seval,UE,i,apT,h]
theorem XM(s:List Nat):gS pE 209 [.s s] []=some (.i .i64 (Ay s),[]):=by
 by_cases D:s= [114,101,115,116]
 ·subst D;exact je (m:=100) (jd (by kernel_rfl))
 ·by_cases E:s= [110,105,103,104,116,115]
  ·subst E;exact je (m:=100) (jd (by kernel_rfl))
  ·by_cases F:s= [104,111,109,101]
   ·subst F;exact je (m:=100) (jd (by kernel_rfl))
   ·have r:=GU s L6
    have C:=GU s Ni
    have J:L6.length=7:=rfl
    have K:Ni.length=6:=rfl
    rw[Ay,if_neg D,if_neg E,if_neg F]
    rw[gX aeN (by simp[Mr])]
    rw[J]at r
    rw[K]at C
    by_cases H:vn L6 s
    ·rw[if_pos H]at r
     unfold L6 at r
     simp only[qA,seval,Mr,D,E,F,r,Az,VE,OD,H]
    ·rw[if_neg H]at r
     by_cases I:vn Ni s
     ·rw[if_pos I]at C
      unfold L6 at r
      unfold Ni at C
      simp only[qA,seval,Mr,D,E,F,r,C,Az,VE,OD,H,I]
     ·rw[if_neg I]at C
      unfold L6 at r
      unfold Ni at C
      simp only[qA,seval,Mr,D,E,F,r,C,Az,VE,OD,H,I]
def tW(scope:Int)(s:List Nat):Int:=if ki scope s=0 then 6 else 0
theorem KE(scope:Int)(s:List Nat):gS pE 129 [.i .i64 scope,.s s] []=some (.tup [.i .i64 (ki scope s),.i .i64 (tW scope s)],[]):=by
 rw[gX aea (by simp[Jx])]
 by_cases r:scope=1
 ·by_cases h:oU s=0 <;> simp only[qA,seval,Jx,r,tW,ki,Az,OD,h]
 ·by_cases C:scope=2
  ·by_cases h:Ay s=0 <;> simp only[qA,seval,Jx,C,tW,ki,XM,apx,h]
  ·by_cases D:scope=3
   ·by_cases h:wO s=0 <;> simp only[qA,seval,Jx,D,tW,ki,XL,apy,h]
   ·simp only[qA,seval,Jx,r,C,D,tW,ki]
def strs(l:List (List Nat)):List T:=l.map T.s
theorem Eh(l:List (List Nat)):(strs l).length=l.length:=by simp[strs]
theorem GV(l:List (List Nat))(k:Nat)(i:k<l.length):(strs l).drop k=T.s l[k]::(strs l).drop (k+1):=by
 rw[List.drop_eq_getElem_cons (by rw[Eh];exact i)];simp[strs]
theorem Ei:gS pE 75 [.i .i64 1] []=some (.sl (strs jb) 11 true,[]):=je (m:=100) (jd (by kernel_rfl))
theorem yO:gS pE 75 [.i .i64 2] []=some (.sl (strs lr) 25 false,[]):=je (m:=100) (jd (by kernel_rfl))
theorem Nj:gS pE 75 [.i .i64 3] []=some (.sl (strs mZ) 7 true,[]):=je (m:=100) (jd (by kernel_rfl))
theorem Nk(scope:Int)(r:scope≠1)(C:scope≠2)(D:scope≠3):gS pE 75 [.i .i64 scope] []=some (.nilsl,[]):=by
 rw[gX aoC (by simp[c75])]
 simp only[qA,seval,repl,c75,r,C,D]
theorem XN(s:List Nat)(v:T)(l:List (List Nat))(r:g8 v l.length (strs l))(J:l.length<1000)(hs:s∉l)(lh:hJ gR)(sh:List gR): ∀(m k:Nat) (fr:Fr),l.length-k=m→k≤l.length→an fr 1= .s s→an fr 6=v→an fr 7= .i .i64 (k:Int)→
  ∃H,DC pE 69 (.loop si) ⟨fr,lh,sh⟩=some (.ext 0,⟨H,lh,sh⟩)∧an H 1= .s s
 |0,k,fr,N,O,C,D,E=>by
  have:k=l.length:=by omega
  subst this
  rw[qZ]
  generalize I:DC pE 69 (.loop si)=K
  simp only[qA,seval,si,D,E,r.lenI,Int.lt_irrefl]
  exact⟨_,rfl,by simp only[qA,seval,C]⟩
 |m+1,k,fr,N,O,C,D,E=>by
  have F:k<l.length:=by omega
  have U:(k:Int)<l.length:=by omega
  have V:=iG (k:=k) (by omega)
  have W: ¬l[k]=s:=fun e=>hs (e▸List.getElem_mem F)
  have X: ∀kk,sH v (.i kk (k:Int)) 1=some (.vp (T.s l[k]::(strs l).drop (k+1))):=fun kk=>by rw[r.ia (sz:=1) (by rw[Eh];omega) F,Nat.mul_one,GV l k F]
  rw[qZ]
  generalize I:DC pE 69 (.loop si)=K
  simp only[qA,seval,si,C,D,E,r.lenI,U,X,W,V]
  rw[←I]
  refine XN s v l r J hs lh sh m (k+1) _ (by omega) (by omega) ?_ ?_ ?_ <;> simp only[qA,seval,C,D]
theorem CW(s:List Nat)(v:T)(l:List (List Nat))(r:g8 v l.length (strs l))(C:l.length<1000)(hs:s∉l)(fr:Fr)(lh:hJ gR)(sh:List gR)(D:an fr 1= .s s)(E:an fr 6=v)(F:an fr 7= .i .i64 0):
  DC pE 69 (.loop si) ⟨fr,lh,sh⟩=some (.ext 0,⟨kh pE 69 si fr lh sh,lh,sh⟩):=
 (D6 (XN s v l r C hs lh sh l.length 0 fr (by omega) (by omega) D E F)).1
theorem AA(s:List Nat):gS pE 123 [.i .i64 1,.s s] []=some (.tup [.i .i64 (oU s),.i .i64 (if oU s=0 then 6 else 0)],[]):=by
 by_cases h:s∈jb
 ·have C:=h
  simp only[jb,List.mem_cons,List.not_mem_nil,or_false]at C
  rcases C with rfl|rfl|rfl|rfl|rfl|rfl|rfl|rfl|rfl|rfl|rfl <;> exact je (m:=100) (jd (by kernel_rfl))
 ·have D:oU s=0:=by
   simp only[jb,List.mem_cons,List.not_mem_nil,or_false,not_or]at h
   obtain⟨E,F,H,I,J,K,N,O,U,V,r⟩:=h
   simp[oU,Si,Sj,Sk,E,F,H,I,J,K,N,O,U,V,r]
  rw[gX Dp (by simp[vP])]
  have W:=fun fr lh sh=>CW s (.sl (strs jb) 11 true) jb (Or.inr ⟨true,rfl⟩) (by decide) h fr lh sh
  simp only[qA,seval,uZ,vP,Ei,Mv,W,D]
theorem Sm(s:List Nat):gS pE 123 [.i .i64 3,.s s] []=some (.tup [.i .i64 (wO s),.i .i64 (if wO s=0 then 6 else 0)],[]):=by
 by_cases h:s∈mZ
 ·have r:=h
  simp only[mZ,List.mem_cons,List.not_mem_nil,or_false]at r
  rcases r with rfl|rfl|rfl|rfl|rfl|rfl|rfl <;> exact je (m:=100) (jd (by kernel_rfl))
 ·have C:wO s=0:=by
   simp only[mZ,List.mem_cons,List.not_mem_nil,or_false,not_or]at h
   obtain⟨D,E,F,H,I,J,K⟩:=h
   simp[wO,GQ,GR,D,E,F,H,I,J,K]
  rw[gX Dp (by simp[vP])]
  have N:=fun fr lh sh=>CW s (.sl (strs mZ) 7 true) mZ (Or.inr ⟨true,rfl⟩) (by decide) h fr lh sh
  simp only[qA,seval,uZ,vP,Nj,Mv,N,C]
theorem Sn{s:List Nat}(hs:s∈lr):s= [114,101,115,116]∨s= [110,105,103,104,116,115]∨s= [104,111,109,101]∨(7<s.length∧s.take 7=L6)∨(6<s.length∧s.take 6=Ni):=by
 simp only[lr,List.mem_cons,List.not_mem_nil,or_false]at hs
 rcases hs with rfl|rfl|rfl|rfl|rfl|rfl|rfl|rfl|rfl|rfl|rfl|rfl|rfl|rfl|rfl|rfl|rfl|rfl|rfl|rfl|rfl|rfl|rfl|rfl|rfl <;> decide
theorem Ej(s:List Nat):vn L6 s↔(7≤s.length∧s.take 7=L6):=Iff.rfl
theorem Ek(s:List Nat):vn Ni s↔(6≤s.length∧s.take 6=Ni):=Iff.rfl
theorem Sq(s:List Nat):gS pE 123 [.i .i64 2,.s s] []=some (.tup [.i .i64 (Ay s),.i .i64 (if Ay s=0 then 6 else 0)],[]):=by
 by_cases K:s= [114,101,115,116]
 ·subst K;exact je (m:=100) (jd (by kernel_rfl))
 by_cases N:s= [110,105,103,104,116,115]
 ·subst N;exact je (m:=100) (jd (by kernel_rfl))
 by_cases O:s= [104,111,109,101]
 ·subst O;exact je (m:=100) (jd (by kernel_rfl))
 rw[Ay,if_neg K,if_neg N,if_neg O]
 by_cases H:vn L6 s
 ·rw[if_pos H]
  have F:=(Ej s).1 H
  by_cases C:7<s.length
  ·have Ji:(7:Int)<s.length:=by omega
   have r:7≤s.length:=by omega
   have e:=F.2
   unfold L6 at e
   have I:List.take (s.length-7) (s.drop 7)=s.drop 7:=List.take_of_length_le (by simp)
   rw[gX Dp (by simp[vP])]
   simp only[qA,seval,uZ,vP,Ji,r,Nat.sub_zero,e,AA,wq,I]
  ·have:s=L6:=by
    rw[←F.2,List.take_of_length_le (by omega)]
   subst this
   exact je (m:=100) (jd (by kernel_rfl))
 ·rw[if_neg H]
  have U: ¬((7:Int)<s.length∧s.take 7=L6):=fun⟨a,b⟩=>H ((Ej s).2 ⟨by omega,b⟩)
  by_cases J:vn Ni s
  ·rw[if_pos J]
   have OR:=(Ek s).1 J
   by_cases C:6<s.length
   ·have Ji:(6:Int)<s.length:=by omega
    have r:6≤s.length:=by omega
    have e:=OR.2
    unfold Ni at e
    have I:List.take (s.length-6) (s.drop 6)=s.drop 6:=List.take_of_length_le (by simp)
    rw[gX Dp (by simp[vP])]
    by_cases D:(7:Int)<s.length
    ·have E:7≤s.length:=by omega
     have V: ¬s.take 7= [98,101,102,111,114,101,46]:=fun b=>U ⟨D,b⟩
     simp only[qA,seval,uZ,vP,Ji,r,D,E,V,Nat.sub_zero,e,AA,wq,I]
    ·simp only[qA,seval,uZ,vP,Ji,r,D,Nat.sub_zero,e,AA,wq,I]
   ·have:s=Ni:=by
     rw[←OR.2,List.take_of_length_le (by omega)]
    subst this
    exact je (m:=100) (jd (by kernel_rfl))
  ·rw[if_neg J]
   have W: ¬((6:Int)<s.length∧s.take 6=Ni):=fun⟨a,b⟩=>J ((Ek s).2 ⟨by omega,b⟩)
   have hs:s∉lr:=fun Z=>by
    rcases Sn Z with h|h|h|⟨a,b⟩|⟨a,b⟩
    ·exact K h
    ·exact N h
    ·exact O h
    ·exact U ⟨by omega,b⟩
    ·exact W ⟨by omega,b⟩
   have X:=fun fr lh sh=>CW s (.sl (strs lr) 25 false) lr (Or.inr ⟨false,rfl⟩) (by decide) hs fr lh sh
   rw[gX Dp (by simp[vP])]
   by_cases D:(7:Int)<s.length
   ·have C:(6:Int)<s.length:=by omega
    have E:7≤s.length:=by omega
    have r:6≤s.length:=by omega
    have V: ¬s.take 7= [98,101,102,111,114,101,46]:=fun b=>U ⟨D,b⟩
    have Y: ¬s.take 6= [97,102,116,101,114,46]:=fun b=>W ⟨C,b⟩
    simp only[qA,seval,uZ,vP,C,D,r,E,V,Y,Nat.sub_zero,yO,Mv,X]
   ·by_cases C:(6:Int)<s.length
    ·have r:6≤s.length:=by omega
     have Y: ¬s.take 6= [97,102,116,101,114,46]:=fun b=>W ⟨C,b⟩
     simp only[qA,seval,uZ,vP,C,D,r,Y,Nat.sub_zero,yO,Mv,X]
    ·simp only[qA,seval,uZ,vP,C,D,yO,Mv,X]
theorem AB(scope:Int)(s:List Nat):gS pE 123 [.i .i64 scope,.s s] []=some (.tup [.i .i64 (ki scope s),.i .i64 (tW scope s)],[]):=by
 unfold tW ki
 by_cases C:scope=1
 ·subst C;exact AA s
 ·by_cases r:scope=2
  ·subst r;exact Sq s
  ·by_cases D:scope=3
   ·subst D;exact Sm s
   ·simp only[C,r,D,if_false,if_true]
    rw[gX Dp (by simp[vP])]
    have E:=fun fr lh sh=>CW s .nilsl [] (Or.inl ⟨rfl,rfl,rfl⟩) (by decide) (by simp) fr lh sh
    simp only[qA,seval,uZ,vP,r,Nk scope C r D,Mv,E]
def pt:List Nat→Option Nat
 | []=>none
 |c::cs=>if c=46 then some 0 else(pt cs).map (· +1)
def qx(s:List Nat):Bool:=match pt s with
 |none=>qw s
 |some i=>lQ (s.take i)&&lQ (s.drop (i+1))
def jA(op:Int)(n:Nat):Bool:=
 if op≤6 then decide (n=0)else if op=7∨op=19 then decide (n=1)else if op=12∨op=13 then decide (2≤n)
 else if op=14∨op=15 then decide (n=3)else decide (n=2)
def qN(op:Int):Int:=if op=1∨op=2 then 1099511627776 else if op=3 then 1439 else 0
def oD(op num:Int)(name:List Nat)(n:Nat):Bool:=
 decide (1≤op)&&(decide (op≤22)&&(jA op n&&(decide (0≤num∧num≤qN op)&&(if op=6 then qx name else decide (name= [])))))
mutual
def Ex.wf:Ex→Bool
 | .mk op num name args=>oD op num name args.length&&sM args
def sM:List Ex→Bool
 | []=>true
 |x::xs=>x.wf&&sM xs
end
theorem Ex.wf_eq(x:Ex):x.wf=(oD x.op x.num x.name x.args.length&&sM x.args):=by obtain⟨_,_,_,_⟩:=x;rw[Ex.wf];rfl
theorem xE: ∀{xs:List Ex},sM xs=true↔ ∀x∈xs,x.wf=true
 | []=>by simp[sM]
 |x::xs=>by rw[sM,Bool.and_eq_true,xE (xs:=xs)];simp
def big(x:Ex):Prop:=200<x.nodes∨16<x.depth
instance (x:Ex):Decidable (big x):=by unfold big;infer_instance
def iX(x:Ex):Int:=if big x then 10 else if x.wf then 0 else 1
def kW(ts:List Int)(k:Int):Bool:=ts.all fun t=>decide (t=k)
def qO(op a b:Int):Int:=
 if a=1∧b=1 then 1 else if a=2∧b=1 then 2 else if op=10∧a=1∧b=2 then 2 else if op=11∧a=2∧b=2 then 1 else 0
def a0(ts:List Int):Int:=ts.getD 0 0
def a1(ts:List Int):Int:=ts.getD 1 0
def a2(ts:List Int):Int:=ts.getD 2 0
def mH(op:Int)(ts:List Int):Int:=
 if op=1 then 1 else if op=2 then 2 else if op=3 then 3 else if op=4 then 4 else if op=5 then 4
 else if op=7∨op=8∨op=9∨op=12∨op=13 then(if kW ts 1 then 1 else if kW ts 2 then 2 else 0)
 else if op=10∨op=11 then qO op (a0 ts) (a1 ts)
 else if op=14 then(if a0 ts=4∧a1 ts=a2 ts then a1 ts else 0)
 else if op=15 then(if kW ts 3 then 4 else 0)
 else if op=16∨op=17 then(if(a0 ts=1∨a0 ts=2)∧a0 ts=a1 ts then 4 else 0)
 else if op=18 then(if a0 ts=a1 ts then 4 else 0)
 else(if kW ts 4 then 4 else 0)
mutual
def Ex.ty(cl:List Nat→Int×Int)(scope:Int):Ex→Int×Int
 | .mk op _ name args=>
   if op=6 then(if ki scope name≠0 then(ki scope name,0)else cl name)
   else match pv cl scope args with
    | .error e=>(0,e)
    | .ok ts=>if mH op ts=0 then(0,9)else(mH op ts,0)
def pv(cl:List Nat→Int×Int)(scope:Int):List Ex→Except Int (List Int)
 | []=> .ok []
 |x::xs=>if(x.ty cl scope).2≠0 then .error (x.ty cl scope).2 else match pv cl scope xs with
  | .error e=> .error e
  | .ok ts=> .ok ((x.ty cl scope).1::ts)
end
theorem Ex.ty_eq(cl:List Nat→Int×Int)(scope:Int)(x:Ex):x.ty cl scope=
  if x.op=6 then(if ki scope x.name≠0 then(ki scope x.name,0)else cl x.name)
  else match pv cl scope x.args with
   | .error e=>(0,e)
   | .ok ts=>if mH x.op ts=0 then(0,9)else(mH x.op ts,0):=by obtain⟨_,_,_,_⟩:=x;rw[Ex.ty];rfl
abbrev Cs:=List (List Nat×Ex)
def k8:Cs→List Nat→Option Nat
 | [],_=>none
 |c::cs,s=>if c.1=s then some 0 else(k8 cs s).map (· +1)
def clk(l:Cs)(r:List (Int×Int))(s:List Nat):Int×Int:=match k8 l s with
 |none=>(0,6)
 |some i=>r.getD i (0,6)
def vW(l:Cs)(i:List (Int×Int))(x:Ex):Int×Int:=if iX x≠0 then(0,iX x)else x.ty (clk l i) 0
def kI(l:Cs):Nat→List (Int×Int)
 |0=> []
 |n+1=>kI l n++ [vW (l.take n) (kI l n) (l.getD n ([],.mk 0 0 [] [])).2]
def sN(l:Cs)(scope:Int)(x:Ex):Int×Int:=if iX x≠0 then(0,iX x)else x.ty (clk l (kI l l.length)) scope
def isLit(x:Ex):Bool:=match x with
 | .mk op _ _ args=>decide (op=1∨op=2∨op=3∨op=4∨op=5)||(decide (op=7)&&(match args with|y::_=>decide (y.op=1∨y.op=2)| []=>false))
def acy(x:Ex):Int:=match x with
 | .mk op num _ args=>if op=4 then 1 else if op=5 then 0 else if op=7 then(match args with|y::_=> -y.num| []=>0)else num
def oi(op num:Int):Ex:= .mk op num [] []
def yc(k n:Int):Ex:=
 if k=4 then(if n=0 then oi 5 0 else oi 4 0)else if k=3 then oi 3 n
 else if n<0 then .mk 7 0 [] [oi (if k=2 then 2 else 1) (-n)]else oi (if k=2 then 2 else 1) n
def iC(n:Int):Int:=max (-1099511627776) (min 1099511627776 n)
def Nl(a b:Int):Int:=if b=0 then 0 else iC (Int.fdiv a b)
def ky(c f t:Int):Bool:=if f≤t then decide (f≤c∧c<t)else decide (f≤c∨c<t)
def sO(b:Bool):Int:=if b then 1 else 0
def ai5:Int→List Int→Int
 |m,[]=>m
 |m,v::i=>ai5 (min m v) i
def ai6:Int→List Int→Int
 |m,[]=>m
 |m,v::i=>ai6 (max m v) i
def FH(op:Int)(i:List Int):Int:=
 if op=7 then-a0 i else if op=8 then iC (a0 i+a1 i)else if op=9 then iC (a0 i-a1 i)else if op=10 then iC (a0 i*a1 i)
 else if op=11 then Nl (a0 i) (a1 i)else if op=12 then ai5 (a0 i) i.tail else if op=13 then ai6 (a0 i) i.tail
 else if op=14 then(if a0 i=0 then a2 i else a1 i)else if op=15 then sO (ky (a0 i) (a1 i) (a2 i))
 else if op=16 then sO (decide (a0 i<a1 i))else if op=17 then sO (decide (a0 i≤a1 i))else if op=18 then sO (decide (a0 i=a1 i))
 else if op=19 then 1-a0 i else if op=20 then min (a0 i) (a1 i)else if op=21 then max (a0 i) (a1 i)else max (1-a0 i) (a1 i)
def XO(x:Ex):Bool:=decide (x.op=1∨x.op=2)&&decide (x.num=0)
def ai7(x:Ex):Bool:=decide (x.op=1)&&decide (x.num=1)
def arM(op:Int)(i:List Ex):Ex:=
 match i with
 | [a]=>if op=19∧a.op=19 then a.args.headD (oi 0 0)else .mk op 0 [] i
 | [a,b]=>
   if op=20 then(if a.op=5∨b.op=5 then oi 5 0 else if a.op=4 then b else if b.op=4 then a else .mk op 0 [] i)
   else if op=21 then(if a.op=4∨b.op=4 then oi 4 0 else if a.op=5 then b else if b.op=5 then a else .mk op 0 [] i)
   else if op=22 then(if a.op=5∨b.op=4 then oi 4 0 else if a.op=4 then b else if b.op=5 then(if a.op=19 then a.args.headD (oi 0 0)else .mk 19 0 [] [a])else .mk op 0 [] i)
   else if op=8 then(if XO b then a else if XO a then b else .mk op 0 [] i)
   else if op=9 then(if XO b then a else .mk op 0 [] i)
   else if op=10 then(if ai7 b then a else if ai7 a then b else .mk op 0 [] i)
   else if op=11 then(if ai7 b then a else .mk op 0 [] i)
   else .mk op 0 [] i
 | [a,b,c]=>if op=14 then(if a.op=4 then b else if a.op=5 then c else .mk op 0 [] i)else .mk op 0 [] i
 |_=> .mk op 0 [] i
mutual
def Ex.fold(cl:List Nat→Int×Int)(cx:List Nat→Ex)(scope:Int):Ex→Ex
 | .mk op num name args=>
   if op=6 then(if ki scope name≠0 then .mk op num name args else cx name)
   else if args.isEmpty then .mk op num name args
   else if(sP cl cx scope args).all isLit then yc ((Ex.mk op num name args).ty cl scope).1 (FH op ((sP cl cx scope args).map acy))
   else arM op (sP cl cx scope args)
def sP(cl:List Nat→Int×Int)(cx:List Nat→Ex)(scope:Int):List Ex→List Ex
 | []=> []
 |x::xs=>x.fold cl cx scope::sP cl cx scope xs
end
theorem qe{k:Nat}(h:k≤1000000):wr .i64 ((k:Int)+1)=((k+1:Nat):Int):=iG (Nat.lt_of_le_of_lt h (by decide))
theorem acz{a b:Nat}(i:a≤1000000)(r:b≤1000000):wr .i64 ((a:Int)+b)=((a+b:Nat):Int):=by
 rw[jL (by omega)];omega
def oQ:Nat:=1000000
theorem ku{k:Nat}(h:k≤100000):k≤oQ:=Nat.le_trans h (by decide)
theorem iD{k:Nat}(h:k≤oQ):wr .i64 ((k:Int)+1)=((k+1:Nat):Int):=qe h
def l6:Nat:=1125899906842624
theorem nQ{k:Nat}(h:k≤l6):wr .i64 ((k:Int)+1)=((k+1:Nat):Int):=iG (Nat.lt_of_le_of_lt h (by decide))
def El(n:Nat):List gR:= [⟨1,.cells [.i .i64 (n:Int)] 0 true⟩]
def j3(n level:Nat)(x:Ex):Prop:=n+x.nodes≤200∧level+x.depth≤17
def jc(n level:Nat)(xs:List Ex):Prop:=n+jt xs≤200∧level+oC xs≤17
instance (n level:Nat) (x:Ex):Decidable (j3 n level x):=by unfold j3;infer_instance
instance (n level:Nat) (x:List Ex):Decidable (jc n level x):=by unfold jc;infer_instance
theorem xF{xs:List Ex}{k:Nat}(i:k<xs.length):xs.drop k=xs[k]::xs.drop (k+1):=List.drop_eq_getElem_cons i
def arN(level n:Nat)(a:T)(xs:List Ex)(k:Nat)(st:St):Prop:=
 ∃fr lh m,st=⟨fr,lh,El m⟩∧an fr 1= .i .i64 (level:Int)∧an fr 2= .ptr .S 0 1 0∧an fr 23=a∧an fr 24= .i .i64 (xs.length:Int)∧an fr 25= .i .i64 (k:Int)∧
  k≤m∧m≤200∧(jc m (level+1) (xs.drop k)↔jc n (level+1) xs)∧(jc n (level+1) xs→m+jt (xs.drop k)=n+jt xs)
def agq(y:Ex):Prop:= ∀(level n:Nat) (cs:List T),lK y cs→n≤200→level≤17→ ∃r:Nat,gS pE 272 [.agg cs,.i .i64 (level:Int),.ptr .S 0 1 0] (El n)=some (.b (decide (j3 n level y)),El r)∧(j3 n level y→r=n+y.nodes)
theorem arO(xs:List Ex)(ih: ∀y∈xs,agq y)(a:T)(W:List T)(ha:g8 a xs.length W)(hx:jN xs W)(level n:Nat)(hl:level≤16)(hn:n≤200)(o:Out)(X:o=if jc n (level+1) xs then .ext 0 else .ret)(fr:Fr)(lh:hJ gR)(sh:List gR)(kN:sh=El n)
  (H:an fr 1= .i .i64 (level:Int)) (I:an fr 2= .ptr .S 0 1 0) (D:an fr 23=a) (C:an fr 24= .i .i64 (xs.length:Int)) (E:an fr 25= .i .i64 0):
  kV 36 sq fr lh sh o∧
  ((jc n (level+1) xs→kb pE 36 sq fr lh sh=El (n+jt xs))∧(¬jc n (level+1) xs→an (kh pE 36 sq fr lh sh) 6= .b false∧ ∃m,kb pE 36 sq fr lh sh=El m)):=by
 refine ib (P:=fun fr lh sh=>(jc n (level+1) xs→sh=El (n+jt xs))∧(¬jc n (level+1) xs→an fr 6= .b false∧ ∃m,sh=El m)) (ij (arN level n a xs) _ xs.length ?_ ?_ 0 _ (Nat.zero_le _) ⟨fr,lh,n,by rw[kN],H,I,D,C,E,Nat.zero_le _,hn,Iff.rfl,fun _=>rfl⟩)
 ·rintro k _ U ⟨fr,lh,m,rfl,H,I,D,C,E,XP,Y,J,hs⟩
  have Z:(k:Int)<xs.length:=by omega
  have ZQ:=xs[k].nodes_eq
  have hw:=qe (k:=k) (by omega)
  have CX:=qe (k:=level) (by omega)
  obtain⟨b,cb,r,iv,jE,oV,hb⟩:=mY ha hx k U
  obtain⟨m',O,V⟩:=ih xs[k] (List.getElem_mem U) (level+1) m _ hb Y (by omega)
  rw[xF U]at J hs
  simp only[jc,jt,oC]at J hs
  by_cases K:j3 m (level+1) xs[k]
  ·left
   rw[decide_eq_true K]at O
   simp only[qA,seval,kq,sq,H,I,D,C,E,Z,iv,hw,CX,O,OG,jE.kept1]
   refine⟨_,rfl,_,_,m',rfl, ?_, ?_, ?_, ?_, ?_, ?_, ?_, ?_, ?_⟩
   all_goals first|(simp only[qA,seval,H,I,D,C];done)|skip
   all_goals (rw[V K];unfold j3 at K;first|omega|(simp only[jc];omega)|(intro N;have:=hs (by simpa only[jc]using N);omega))
  ·right
   rw[decide_eq_false K]at O
   simp only[qA,seval,kq,sq,H,I,D,C,E,Z,iv,CX,O,OG,jE.kept1]
   have tp: ¬jc n (level+1) xs:=by unfold j3 at K;unfold jc;omega
   refine⟨_,_,jJ,rfl, ?_,fun N=>absurd N tp,fun _=>⟨by simp only[qA,seval],m',rfl⟩⟩
   rw[X,if_neg tp]
 ·rintro _ ⟨fr,lh,m,rfl,H,I,D,C,E,XP,Y,J,hs⟩
  rw[List.drop_length]at J hs
  have F:jc n (level+1) xs:=J.1 (by unfold jc;rw[jt,oC];omega)
  simp only[qA,seval,sq,C,E,Int.lt_irrefl]
  refine⟨_,_,jB,rfl,by rw[X,if_pos F],fun _=> ?_,fun N=>absurd F N⟩
  have:=hs F
  rw[jt,Nat.add_zero]at this
  rw[this]
theorem acA(x:Ex):agq x:=by
 induction x using Ex.ind with
 |h x ih=>
  intro level n cs V hn hl
  obtain⟨a,W,rfl,N,BB⟩:=V.cells
  rw[gX afr (by simp[JB])]
  have H:=qe (k:=n) (by omega)
  have Y:=x.nodes_eq
  have Z:=x.depth_eq
  unfold El
  by_cases C:(200:Int)<((n+1:Nat):Int)
  ·have r: ¬j3 n level x:=by unfold j3;omega
   rw[decide_eq_false r]
   simp only[qA,seval,mX,JB,H,C]
   exact⟨n+1,rfl,fun h=>absurd h r⟩
  ·by_cases D:(16:Int)<(level:Int)
   ·have r: ¬j3 n level x:=by unfold j3;omega
    rw[decide_eq_false r]
    simp only[qA,seval,mX,JB,H,C,D]
    exact⟨n+1,rfl,fun h=>absurd h r⟩
   ·have O:j3 n level x↔jc (n+1) (level+1) x.args:=by unfold j3 jc;omega
    have E:=fun fr lh sh F=>arO x.args ih a W N BB level (n+1) (by omega) (by omega) _ rfl fr lh sh F
    unfold El at E
    by_cases r:jc (n+1) (level+1) x.args
    ·rw[decide_eq_true (O.2 r)]
     simp only[r,if_true,forall_const,not_true_eq_false,false_implies,and_true]at E
     simp only[qA,seval,mX,JB,H,C,D,N.lenI,E]
     exact⟨n+1+jt x.args,rfl,fun _=>by omega⟩
    ·rw[decide_eq_false (fun h=>r (O.1 h))]
     simp only[r,if_false,forall_const,not_false_eq_true,false_implies,true_and]at E
     have U:=fun fr lh sh F C D I J K=>(E fr lh sh F C D I J K).2.2
     have L7:=fun fr lh sh F C D I J K=>And.intro (E fr lh sh F C D I J K).1 (E fr lh sh F C D I J K).2.1
     simp only[qA,seval,mX,JB,H,C,D,N.lenI,L7]
     generalize hX:kb _ _ _ _ _ _=X
     obtain⟨m,hm⟩: ∃m:Nat,X= [⟨1,.cells [.i .i64 (m:Int)] 0 true⟩]:=by
      rw[←hX]
      refine U _ _ _ rfl ?_ ?_ ?_ ?_ ?_ <;> simp only[qA,seval]
     rw[hm]
     exact⟨m,rfl,fun h=>absurd (O.1 h) r⟩
end Go.Proofs.YtblcbheipjeoeaaGreat
