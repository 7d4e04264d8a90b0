/- Walks of functions of the program and of the reference, and their plain laws, part 1. Conditions: the theorems' own. -/
import Derived.Test.YtcpceiclnbmgiaaGreatGS
import Derived.KernelRfl
set_option maxRecDepth 100000
set_option linter.unusedSimpArgs false
set_option linter.unusedVariables false
set_option maxHeartbeats 16000000
namespace Go.Proofs.YtcpceiclnbmgiaaGreat
open Go Go.Ev
theorem mX{m f:Nat}{args:List T}{r:T×List b8}(h:j4 pE m f args []=some r):be pE f args []=some r:=DCall_iff.2 ⟨m,h⟩
theorem iu{m f:Nat}{args:List T}{v:T}(h:(j4 pE m f args []).map (·.1)=some v): ∃s,be pE f args []=some (v,s):=by
 cases hc:j4 pE m f args []with
 |none=>grind
 |some r=>
  rw[hc]at h
  obtain⟨a,s⟩:=r
  simp at h
  subst h
  exact⟨s,DCall_iff.2 ⟨m,hc⟩⟩
inductive Ex where
 |mk (op num:Int) (name:List Nat) (args:List Ex)
def Ex.op:Ex→Int| .mk o _ _ _=>o
def Ex.num:Ex→Int| .mk _ n _ _=>n
def Ex.name:Ex→List Nat| .mk _ _ s _=>s
def Ex.args:Ex→List Ex| .mk _ _ _ a=>a
mutual
def mY:Ex→List T→Prop
 | .mk op num name args,cs=> ∃a r,cs= [.i .i64 op,.i .i64 num,.s name,a]∧IsSl a args.length r∧ku args r
def ku:List Ex→List T→Prop
 | [],cs=>cs= []
 |x::xs,cs=> ∃c r,cs=c++r∧mY x c∧ku xs r
end
theorem mY.cells{x:Ex}{cs:List T}(h:mY x cs): ∃a r,cs= [.i .i64 x.op,.i .i64 x.num,.s x.name,a]∧IsSl a x.args.length r∧ku x.args r:=by
 obtain⟨o,n,s,a⟩:=x
 rw[mY]at h
 exact h
theorem mY.of{x:Ex}{a:T}{r:List T}(D:IsSl a x.args.length r)(F:ku x.args r):mY x [.i .i64 x.op,.i .i64 x.num,.s x.name,a]:=by
 obtain⟨o,n,s,l⟩:=x
 rw[mY]
 exact⟨a,r,rfl,D,F⟩
theorem mY.len{x:Ex}{cs:List T}(h:mY x cs):cs.length=4:=by
 obtain⟨a,i,rfl,_⟩:=h.cells;rfl
theorem ku.len: ∀{xs:List Ex} {cs:List T},ku xs cs→cs.length=xs.length*4
 | [],cs,h=>by grind [ku]
 |x::xs,cs,h=>by
  rw[ku]at h
  obtain⟨c,r,rfl,i,D⟩:=h
  rw[List.length_append,i.len,D.len,List.length_cons];omega
theorem ku.drop: ∀{xs:List Ex} {cs:List T} (k:Nat) (hk:k<xs.length),ku xs cs→ ∃c r,cs.drop (k*4)=c++r∧mY xs[k] c∧ku (xs.drop (k+1)) r
 | [],cs,k,hk,h=>by simp at hk
 |x::xs,cs,0,hk,h=>by
  grind [ku]
 |x::xs,cs,k+1,hk,h=>by
  rw[ku]at h
  obtain⟨c,r,rfl,i,D⟩:=h
  obtain⟨F,H,e,I,J⟩:=ku.drop k (by simpa using hk) D
  refine⟨F,H, ?_,I,by simpa using J⟩
  have:(k+1)*4=c.length+k*4:=by rw[i.len];omega
  grind [List.drop_append,Nat.add_sub_cancel_left,List.drop_eq_nil_of_le]
theorem si{xs:List Ex}{a:T}{F:List T}(J:IsSl a xs.length F)(H:ku xs F)(k:Nat)(hk:k<xs.length):
  ∃b D r,(∀kk,lY a (.i kk (k:Int)) 4=some (.vp (.i .i64 xs[k].op:: .i .i64 xs[k].num:: .s xs[k].name::b::r)))∧IsSl b xs[k].args.length D∧ku xs[k].args D∧mY xs[k] [.i .i64 xs[k].op,.i .i64 xs[k].num,.s xs[k].name,b]:=by
 obtain⟨c,r,e,I,O⟩:=ku.drop k hk H
 obtain⟨b,D,rfl,K,N⟩:=I.cells
 refine⟨b,D,r,fun kk=> ?_,K,N,I⟩
 rw[J.ia (sz:=4) H.len hk,e];rfl
mutual
def Ex.nodes:Ex→Nat
 | .mk _ _ _ args=>1+jQ args
def jQ:List Ex→Nat
 | []=>0
 |x::xs=>x.nodes+jQ xs
end
mutual
def Ex.depth:Ex→Nat
 | .mk _ _ _ args=>1+pa args
def pa:List Ex→Nat
 | []=>0
 |x::xs=>max x.depth (pa xs)
end
theorem Ex.nodes_eq(x:Ex):x.nodes=1+jQ x.args:=by obtain⟨_,_,_,_⟩:=x;rw[Ex.nodes];rfl
theorem Ex.depth_eq(x:Ex):x.depth=1+pa x.args:=by obtain⟨_,_,_,_⟩:=x;rw[Ex.depth];rfl
theorem mn: ∀xs:List Ex,xs.length≤jQ xs
 | []=>by simp
 |x::xs=>by
  have:=mn xs
  rw[jQ,List.length_cons,x.nodes_eq];omega
theorem pb: ∀{xs:List Ex} {x:Ex},x∈xs→x.nodes≤jQ xs
 |y::xs,x,h=>by
  rw[jQ]
  rcases List.mem_cons.1 h with rfl|h
  ·omega
  ·have:=pb h;omega
theorem Ex.ind{P:Ex→Prop}(h: ∀x:Ex,(∀y∈x.args,P y)→P x)(x:Ex):P x:=by
 have: ∀n (x:Ex),x.nodes≤n→P x:=by
  intro n
  induction n with
  |zero=>intro x hx;rw[x.nodes_eq]at hx;omega
  |succ n ih=>
   intro x hx
   refine h x fun y i=>ih y ?_
   have:=pb i
   rw[x.nodes_eq]at hx;omega
 exact this _ x (Nat.le_refl _)
def FJ(c:Nat):Prop:=(97:Int)≤c∧(c:Int)≤122
def HU(c:Nat):Prop:=(48:Int)≤c∧(c:Int)≤57
instance (c:Nat):Decidable (FJ c):=by unfold FJ;infer_instance
instance (c:Nat):Decidable (HU c):=by unfold HU;infer_instance
def wT(c:Nat):Bool:=decide (FJ c∨HU c∨(c:Int)=95)
def ot:List Nat→Bool
 | []=>false
 |c::cs=>decide (cs.length<16)&&(decide (FJ c)&&cs.all wT)
theorem KN(c:Nat):be pE 208 [.i .u8 c] []=some (.b (decide (FJ c)),[]):=by
 rw[il afh (by simp[Q6])]
 by_cases r:(97:Int)≤c
 ·by_cases D:(c:Int)≤122 <;> simp only[qA,seval,Q6,r,D,FJ]
 ·simp only[qA,seval,Q6,r,FJ]
theorem Sc(c:Nat):be pE 205 [.i .u8 c] []=some (.b (decide (HU c)),[]):=by
 rw[il afg (by simp[Q5])]
 by_cases r:(48:Int)≤c
 ·by_cases D:(c:Int)≤57 <;> simp only[qA,seval,Q5,r,D,HU]
 ·simp only[qA,seval,Q5,r,HU]
theorem GG{s:List Nat}{k:Nat}(hk:k<s.length)(kk:IntKind):MX (.s s) (.i kk (k:Int))=some (.i .u8 (s[k]:Int)):=by
 rw[M8,if_pos (Int.natCast_nonneg k),Int.toNat_natCast,List.getElem?_eq_getElem hk];rfl
theorem iN{k:Nat}(h:k<4611686018427387904):wr .i64 ((k:Int)+1)=((k+1:Nat):Int):=by rw[js (by omega)];omega
theorem aiZ(s:List Nat)(hs:s.length≤16)(fr:Fr)(lh:iq b8)(sh:List b8)(I:an fr 0= .s s)(N:an fr 3= .i .i64 0):
  LpC pE 42 ym fr lh sh 0 2 (s.all wT=true) (.b false) (fun D F=>D=lh∧F=sh):=by
 refine xz QZ (by simp[iW]) (fun k f D F=>an f 3= .i .i64 (k:Int)∧D=lh∧F=sh∧s.all wT=(s.drop k).all wT) s.length ⟨N,rfl,rfl,rfl⟩ ?_ ?_
 ·rintro k f _ _ hk r ⟨H,rfl,rfl,hr⟩
  have O:(k:Int)<s.length:=by omega
  have U:=iN (k:=k) (by omega)
  have J:=kq (KN s[k])
  have K:=kq (Sc s[k])
  rw[List.drop_eq_getElem_cons hk,List.all_cons]at hr
  simp only[qB,seval,gd,ym,r,I,H,O,GG hk,U,J,K,UY,aq0]
  clear r J K
  unfold wT at*
  grind
 ·rintro f _ _ r ⟨H,rfl,rfl,hr⟩
  rw[List.drop_length,List.all_nil]at hr
  simp only[qB,seval,gd,ym,r,I,H,Int.lt_irrefl,hr]
theorem KO(s:List Nat):be pE 175 [.s s] []=some (.b (ot s),[]):=by
 rw[il aeY (by simp[Mw])]
 cases s with
 |nil=>simp only[qA,seval,Mw,ot]
 |cons c cs=>
  have r:MX (.s (c::cs)) (.i .i64 0)=some (.i .u8 (c:Int)):=by rw[M8];rfl
  have D:=kq (KN c)
  unfold ot
  by_cases H:cs.length<16
  ·have F:=aiZ (c::cs) (by simp;omega)
   simp only[qB,seval,Mw,r,D,UY,F]
   clear F D
   grind [wT]
  ·simp only[qB,seval,Mw,r,D,UY]
   clear D
   grind
def chC(k:Nat)(c:Nat):Bool:=decide (FJ c)||(decide (0<k)&&wT c)
def FL:Nat→List Nat→Bool
 |_,[]=>true
 |k,c::cs=>chC k c&&FL (k+1) cs
theorem KP: ∀(cs:List Nat) (k:Nat),0<k→FL k cs=cs.all wT
 | [],k,h=>rfl
 |c::cs,k,h=>by
  rw[FL,List.all_cons,KP cs (k+1) (by omega)]
  congr 1
  unfold chC
  by_cases i:FJ c <;> simp[h,i,wT]
theorem ai0(s:List Nat)(hs:s.length≤16)(fr:Fr)(lh:iq b8)(sh:List b8)(J:an fr 0= .s s)(I:an fr 14= .i .i64 (s.length:Int))(K:an fr 15= .i .i64 0):
  LpC pE 44 yk fr lh sh 0 2 (FL 0 s=true) (.b false) (fun D F=>D=lh∧F=sh):=by
 refine xz QN (by simp[iW]) (fun k f D F=>an f 15= .i .i64 (k:Int)∧D=lh∧F=sh∧FL 0 s=FL k (s.drop k)) s.length ⟨K,rfl,rfl,rfl⟩ ?_ ?_
 ·rintro k f _ _ hk r ⟨H,rfl,rfl,hr⟩
  have N:(k:Int)<s.length:=by omega
  have O:=iN (k:=k) (by omega)
  rw[List.drop_eq_getElem_cons hk,FL]at hr
  simp only[qB,seval,gd,yk,r,J,I,H,N,GG hk,O]
  clear r
  unfold chC wT FJ HU at*
  grind (splits:=30)
 ·rintro f _ _ r ⟨H,rfl,rfl,hr⟩
  rw[List.drop_length,FL]at hr
  simp only[qB,seval,gd,yk,r,I,H,Int.lt_irrefl,hr]
theorem zr(s:List Nat):be pE 133 [.s s] []=some (.b (ot s),[]):=by
 rw[il aez (by simp[QO])]
 have D:ot s=(decide (s.length≤16)&&decide (1≤s.length)&&FL 0 s):=by
  cases s with
  |nil=>rfl
  |cons c cs=>rw[FL,KP cs 1 (by omega)];unfold ot chC;grind
 by_cases r:s.length≤16
 ·have i:=ai0 s r
  simp only[qB,seval,QO,i]
  clear i
  grind
 ·simp only[qB,seval,QO]
  grind
def ai1:List (List Nat):= [[97,110,100],[111,114],[110,111,116],[105,109,112,108,105,101,115],[105,110],[116,111],[116,114,117,101],[102,97,108,115,101],[109,105,110],[109,97,120],[105,102],[116,104,101,110],[101,108,115,101]]
def ai2:List (List Nat):= [[108,101,103,115],[104,101,97,100,115],[116,121,112,101,115]]
def ai3:List (List Nat):= [[98,108,111,99,107],[115,112,97,110],[110,105,103,104,116],[108,111,110,103,101,115,116],[115,104,111,114,116,101,115,116],[115,104,105,102,116]]
def ai4:List (List Nat):= [[115,116,97,114,116],[101,110,100]]
def W6:List (List Nat):= [[100,117,116,105,101,115],[108,101,103,115],[104,101,97,100,115],[100,97,121,115]]
def W7:List (List Nat):= [[98,108,111,99,107],[115,112,97,110],[99,114,101,100,105,116]]
def kb:List (List Nat):= [[108,101,103,115],[104,101,97,100,115],[116,121,112,101,115],[98,108,111,99,107],[115,112,97,110],[110,105,103,104,116],[108,111,110,103,101,115,116],[115,104,111,114,116,101,115,116],[115,104,105,102,116],[115,116,97,114,116],[101,110,100]]
def mD:List (List Nat):= [[114,101,115,116],[110,105,103,104,116,115],[104,111,109,101],[98,101,102,111,114,101,46,108,101,103,115],[98,101,102,111,114,101,46,104,101,97,100,115],[98,101,102,111,114,101,46,116,121,112,101,115],[98,101,102,111,114,101,46,98,108,111,99,107],[98,101,102,111,114,101,46,115,112,97,110],[98,101,102,111,114,101,46,110,105,103,104,116],[98,101,102,111,114,101,46,108,111,110,103,101,115,116],[98,101,102,111,114,101,46,115,104,111,114,116,101,115,116],[98,101,102,111,114,101,46,115,104,105,102,116],[98,101,102,111,114,101,46,115,116,97,114,116],[98,101,102,111,114,101,46,101,110,100],[97,102,116,101,114,46,108,101,103,115],[97,102,116,101,114,46,104,101,97,100,115],[97,102,116,101,114,46,116,121,112,101,115],[97,102,116,101,114,46,98,108,111,99,107],[97,102,116,101,114,46,115,112,97,110],[97,102,116,101,114,46,110,105,103,104,116],[97,102,116,101,114,46,108,111,110,103,101,115,116],[97,102,116,101,114,46,115,104,111,114,116,101,115,116],[97,102,116,101,114,46,115,104,105,102,116],[97,102,116,101,114,46,115,116,97,114,116],[97,102,116,101,114,46,101,110,100]]
def qY:List (List Nat):= [[100,117,116,105,101,115],[108,101,103,115],[104,101,97,100,115],[100,97,121,115],[98,108,111,99,107],[115,112,97,110],[99,114,101,100,105,116]]
def W8(s:List Nat):Bool:=decide (s∈ai1)
def ou(s:List Nat):Bool:=ot s&& !W8 s
def zt(s:List Nat):Int:=if s∈ai2 then 1 else if s∈ai3 then 2 else if s∈ai4 then 3 else 0
def GH(s:List Nat):Int:=if s∈W6 then 1 else if s∈W7 then 2 else 0
def W9:List Nat:= [98,101,102,111,114,101,46]
def ZT:List Nat:= [97,102,116,101,114,46]
def uZ(p s:List Nat):Prop:=p.length≤s.length∧s.take p.length=p
instance (p s:List Nat):Decidable (uZ p s):=by unfold uZ;infer_instance
def GI(s:List Nat):Int:=if s= [114,101,115,116]then 2 else if s= [110,105,103,104,116,115]then 1 else if s= [104,111,109,101]then 4 else if uZ W9 s then zt (s.drop 7)else if uZ ZT s then zt (s.drop 6)else 0
def l6(scope:Int)(s:List Nat):Int:=if scope=1 then zt s else if scope=2 then GI s else if scope=3 then GH s else 0
theorem acz(s:List Nat):be pE 212 [.s s] []=some (.b (W8 s),[]):=by
 rw[il afl (by simp[UB])]
 simp only[qB,seval,UB,W8,ai1,List.mem_cons,List.not_mem_nil,or_false]
 grind (splits:=40)
theorem zu(s:List Nat):be pE 143 [.s s] []=some (.i .i64 (zt s),[]):=by
 rw[il aeJ (by simp[Ul])]
 simp only[qB,seval,Ul,zt,ai2,ai3,ai4,List.mem_cons,List.not_mem_nil,or_false]
 grind (splits:=40)
theorem Xa(s:List Nat):be pE 145 [.s s] []=some (.i .i64 (GH s),[]):=by
 rw[il aeL (by simp[Um])]
 simp only[qB,seval,Um,GH,W6,W7,List.mem_cons,List.not_mem_nil,or_false]
 grind (splits:=40)
theorem acA(s:List Nat):be pE 176 [.s s] []=some (.b (W8 s),[]):=by
 rw[il ae0 (by simp[Ur])]
 simp only[qB,seval,oq,repl,Ur,Cw,Ox,W8,ai1,List.mem_cons,List.not_mem_nil,or_false]
 grind (splits:=40)
theorem sX(s:List Nat):be pE 179 [.s s] []=some (.b (ou s),[]):=by
 rw[il ae4 (by simp[Ut])]
 cases h:ot s <;> simp only[qA,seval,Ut,zr,acz,JX,aq3,h,ou]
theorem qJ(s:List Nat):be pE 130 [.s s] []=some (.b (ou s),[]):=by
 rw[il aew (by simp[Uc])]
 cases h:ot s <;> simp only[qA,seval,Uc,KO,acA,aeZ,aqV,h,ou]
theorem GJ(s p:List Nat):be pE 228 [.s s,.s p] []=some (.b (decide (uZ p s)),[]):=by
 rw[il afs (by simp[Rb])]
 by_cases h:p.length≤s.length
 ·have i:(p.length:Int)≤s.length:=by omega
  simp only[qA,seval,D5,Rb,h,i,uZ,Nat.sub_zero]
 ·have i: ¬(p.length:Int)≤s.length:=by omega
  simp only[qA,seval,Rb,h,i,uZ]
theorem GK(s p:List Nat):be pE 183 [.s s,.s p] []=some (if uZ p s then .tup [.s (s.drop p.length),.b true]else .tup [.s s,.b false],[]):=by
 rw[il ae9 (by simp[Uv])]
 have i:be pE 215 [.s s,.s p] []=some (if uZ p s then .tup [.s (s.drop p.length),.b true]else .tup [.s s,.b false],[]):=by
  rw[il afo (by simp[Ra])]
  by_cases h:uZ p s
  ·have r:p.length≤s.length:=h.1
   have D:List.take (s.length-p.length) (s.drop p.length)=s.drop p.length:=List.take_of_length_le (by simp)
   simp only[qA,seval,D5,Ra,GJ,afu,h,r,D]
  ·simp only[qA,seval,Ra,GJ,afu,h]
 by_cases h:uZ p s <;> simp only[h]at i <;> simp only[qA,seval,Uv,i,aq6,h]
theorem Xb(s:List Nat):be pE 144 [.s s] []=some (.i .i64 (GI s),[]):=by
 by_cases F:s= [114,101,115,116]
 ·subst F;exact mX (m:=100) (mS (by kernel_rfl))
 ·by_cases H:s= [110,105,103,104,116,115]
  ·subst H;exact mX (m:=100) (mS (by kernel_rfl))
  ·by_cases I:s= [104,111,109,101]
   ·subst I;exact mX (m:=100) (mS (by kernel_rfl))
   ·have r:=GK s W9
    have D:=GK s ZT
    have N:W9.length=7:=rfl
    have O:ZT.length=6:=rfl
    rw[GI,if_neg F,if_neg H,if_neg I]
    rw[il aeK (by simp[Mu])]
    rw[N]at r
    rw[O]at D
    by_cases J:uZ W9 s
    ·rw[if_pos J]at r
     unfold W9 at r
     simp only[qA,seval,Mu,F,H,I,r,zu,UW,OB,J]
    ·rw[if_neg J]at r
     by_cases K:uZ ZT s
     ·rw[if_pos K]at D
      unfold W9 at r
      unfold ZT at D
      simp only[qA,seval,Mu,F,H,I,r,D,zu,UW,OB,J,K]
     ·rw[if_neg K]at D
      unfold W9 at r
      unfold ZT at D
      simp only[qA,seval,Mu,F,H,I,r,D,zu,UW,OB,J,K]
def Ef(scope:Int)(s:List Nat):Int:=if l6 scope s=0 then 6 else 0
theorem KQ(scope:Int)(s:List Nat):be pE 90 [.i .i64 scope,.s s] []=some (.tup [.i .i64 (l6 scope s),.i .i64 (Ef scope s)],[]):=by
 rw[il aqo (by simp[c90])]
 by_cases r:scope=1
 ·by_cases h:zt s=0 <;> simp only[qA,seval,c90,r,Ef,l6,zu,OB,h]
 ·by_cases D:scope=2
  ·by_cases h:GI s=0 <;> simp only[qA,seval,c90,D,Ef,l6,Xb,aqO,h]
  ·by_cases F:scope=3
   ·by_cases h:GH s=0 <;> simp only[qA,seval,c90,F,Ef,l6,Xa,aqP,h]
   ·simp only[qA,seval,c90,r,D,F,Ef,l6]
def strs(l:List (List Nat)):List T:=l.map T.s
theorem KR(l:List (List Nat)):(strs l).length=l.length:=by simp[strs]
theorem Sd(l:List (List Nat))(k:Nat)(hk:k<l.length):(strs l).drop k=T.s l[k]::(strs l).drop (k+1):=by
 rw[List.drop_eq_getElem_cons (by rw[KR];exact hk)];simp[strs]
theorem Xc(s:List Nat):uZ W9 s↔(7≤s.length∧s.take 7=W9):=Iff.rfl
theorem Xd(s:List Nat):uZ ZT s↔(6≤s.length∧s.take 6=ZT):=Iff.rfl
def pc:List Nat→Option Nat
 | []=>none
 |c::cs=>if c=46 then some 0 else(pc cs).map (· +1)
def tS(s:List Nat):Bool:=match pc s with
 |none=>ou s
 |some i=>ot (s.take i)&&ot (s.drop (i+1))
def lJ(op:Int)(n:Nat):Bool:=
 if op≤6 then decide (n=0)else if op=7∨op=19 then decide (n=1)else if op=12∨op=13 then decide (2≤n)
 else if op=14∨op=15 then decide (n=3)else decide (n=2)
def Eg(op:Int):Int:=if op=1∨op=2 then 1099511627776 else if op=3 then 1439 else 0
def tU(op num:Int)(name:List Nat)(n:Nat):Bool:=
 decide (1≤op)&&(decide (op≤22)&&(lJ op n&&(decide (0≤num∧num≤Eg op)&&(if op=6 then tS name else decide (name= [])))))
mutual
def Ex.wf:Ex→Bool
 | .mk op num name args=>tU op num name args.length&&B9 args
def B9:List Ex→Bool
 | []=>true
 |x::xs=>x.wf&&B9 xs
end
theorem Ex.wf_eq(x:Ex):x.wf=(tU x.op x.num x.name x.args.length&&B9 x.args):=by obtain⟨_,_,_,_⟩:=x;rw[Ex.wf];rfl
theorem HV: ∀{xs:List Ex},B9 xs=true↔ ∀x∈xs,x.wf=true
 | []=>by simp[B9]
 |x::xs=>by rw[B9,Bool.and_eq_true,HV (xs:=xs)];simp
def big(x:Ex):Prop:=200<x.nodes∨16<x.depth
instance (x:Ex):Decidable (big x):=by unfold big;infer_instance
def jy(x:Ex):Int:=if big x then 10 else if x.wf then 0 else 1
def ow(ts:List Int)(k:Int):Bool:=ts.all fun t=>decide (t=k)
def KS(op a b:Int):Int:=
 if a=1∧b=1 then 1 else if a=2∧b=1 then 2 else if op=10∧a=1∧b=2 then 2 else if op=11∧a=2∧b=2 then 1 else 0
def a0(ts:List Int):Int:=ts.getD 0 0
def a1(ts:List Int):Int:=ts.getD 1 0
def a2(ts:List Int):Int:=ts.getD 2 0
def tV(op:Int)(ts:List Int):Int:=
 if op=1 then 1 else if op=2 then 2 else if op=3 then 3 else if op=4 then 4 else if op=5 then 4
 else if op=7∨op=8∨op=9∨op=12∨op=13 then(if ow ts 1 then 1 else if ow ts 2 then 2 else 0)
 else if op=10∨op=11 then KS op (a0 ts) (a1 ts)
 else if op=14 then(if a0 ts=4∧a1 ts=a2 ts then a1 ts else 0)
 else if op=15 then(if ow ts 3 then 4 else 0)
 else if op=16∨op=17 then(if(a0 ts=1∨a0 ts=2)∧a0 ts=a1 ts then 4 else 0)
 else if op=18 then(if a0 ts=a1 ts then 4 else 0)
 else(if ow ts 4 then 4 else 0)
mutual
def Ex.ty(cl:List Nat→Int×Int)(scope:Int):Ex→Int×Int
 | .mk op _ name args=>
   if op=6 then(if l6 scope name≠0 then(l6 scope name,0)else cl name)
   else match sw cl scope args with
    | .error e=>(0,e)
    | .ok ts=>if tV op ts=0 then(0,9)else(tV op ts,0)
def sw(cl:List Nat→Int×Int)(scope:Int):List Ex→Except Int (List Int)
 | []=> .ok []
 |x::xs=>if(x.ty cl scope).2≠0 then .error (x.ty cl scope).2 else match sw cl scope xs with
  | .error e=> .error e
  | .ok ts=> .ok ((x.ty cl scope).1::ts)
end
theorem Ex.ty_eq(cl:List Nat→Int×Int)(scope:Int)(x:Ex):x.ty cl scope=
  if x.op=6 then(if l6 scope x.name≠0 then(l6 scope x.name,0)else cl x.name)
  else match sw cl scope x.args with
   | .error e=>(0,e)
   | .ok ts=>if tV x.op ts=0 then(0,9)else(tV x.op ts,0):=by obtain⟨_,_,_,_⟩:=x;rw[Ex.ty];rfl
abbrev Cs:=List (List Nat×Ex)
def pd:Cs→List Nat→Option Nat
 | [],_=>none
 |c::cs,s=>if c.1=s then some 0 else(pd cs s).map (· +1)
def clk(l:Cs)(IY:List (Int×Int))(s:List Nat):Int×Int:=match pd l s with
 |none=>(0,6)
 |some i=>IY.getD i (0,6)
def Nl(l:Cs)(IY:List (Int×Int))(x:Ex):Int×Int:=if jy x≠0 then(0,jy x)else x.ty (clk l IY) 0
def pQ(l:Cs):Nat→List (Int×Int)
 |0=> []
 |n+1=>pQ l n++ [Nl (l.take n) (pQ l n) (l.getD n ([],.mk 0 0 [] [])).2]
def BO(l:Cs)(scope:Int)(x:Ex):Int×Int:=if jy x≠0 then(0,jy x)else x.ty (clk l (pQ l l.length)) scope
def isLit(x:Ex):Bool:=match x with
 | .mk op _ _ args=>decide (op=1∨op=2∨op=3∨op=4∨op=5)||(decide (op=7)&&(match args with|y::_=>decide (y.op=1∨y.op=2)| []=>false))
def acB(x:Ex):Int:=match x with
 | .mk op num _ args=>if op=4 then 1 else if op=5 then 0 else if op=7 then(match args with|y::_=> -y.num| []=>0)else num
def nY(op num:Int):Ex:= .mk op num [] []
def wy(k n:Int):Ex:=
 if k=4 then(if n=0 then nY 5 0 else nY 4 0)else if k=3 then nY 3 n
 else if n<0 then .mk 7 0 [] [nY (if k=2 then 2 else 1) (-n)]else nY (if k=2 then 2 else 1) n
def jD(n:Int):Int:=max (-1099511627776) (min 1099511627776 n)
def Xe(a b:Int):Int:=if b=0 then 0 else jD (Int.fdiv a b)
def nD(c f t:Int):Bool:=if f≤t then decide (f≤c∧c<t)else decide (f≤c∨c<t)
def qm(b:Bool):Int:=if b then 1 else 0
def ai5:Int→List Int→Int
 |m,[]=>m
 |m,v::i=>ai5 (min m v) i
def ai6:Int→List Int→Int
 |m,[]=>m
 |m,v::i=>ai6 (max m v) i
def Tm(op:Int)(i:List Int):Int:=
 if op=7 then-a0 i else if op=8 then jD (a0 i+a1 i)else if op=9 then jD (a0 i-a1 i)else if op=10 then jD (a0 i*a1 i)
 else if op=11 then Xe (a0 i) (a1 i)else if op=12 then ai5 (a0 i) i.tail else if op=13 then ai6 (a0 i) i.tail
 else if op=14 then(if a0 i=0 then a2 i else a1 i)else if op=15 then qm (nD (a0 i) (a1 i) (a2 i))
 else if op=16 then qm (decide (a0 i<a1 i))else if op=17 then qm (decide (a0 i≤a1 i))else if op=18 then qm (decide (a0 i=a1 i))
 else if op=19 then 1-a0 i else if op=20 then min (a0 i) (a1 i)else if op=21 then max (a0 i) (a1 i)else max (1-a0 i) (a1 i)
def Xf(x:Ex):Bool:=decide (x.op=1∨x.op=2)&&decide (x.num=0)
def ai7(x:Ex):Bool:=decide (x.op=1)&&decide (x.num=1)
def as1(op:Int)(i:List Ex):Ex:=
 match i with
 | [a]=>if op=19∧a.op=19 then a.args.headD (nY 0 0)else .mk op 0 [] i
 | [a,b]=>
   if op=20 then(if a.op=5∨b.op=5 then nY 5 0 else if a.op=4 then b else if b.op=4 then a else .mk op 0 [] i)
   else if op=21 then(if a.op=4∨b.op=4 then nY 4 0 else if a.op=5 then b else if b.op=5 then a else .mk op 0 [] i)
   else if op=22 then(if a.op=5∨b.op=4 then nY 4 0 else if a.op=4 then b else if b.op=5 then(if a.op=19 then a.args.headD (nY 0 0)else .mk 19 0 [] [a])else .mk op 0 [] i)
   else if op=8 then(if Xf b then a else if Xf a then b else .mk op 0 [] i)
   else if op=9 then(if Xf b then a else .mk op 0 [] i)
   else if op=10 then(if ai7 b then a else if ai7 a then b else .mk op 0 [] i)
   else if op=11 then(if ai7 b then a else .mk op 0 [] i)
   else .mk op 0 [] i
 | [a,b,c]=>if op=14 then(if a.op=4 then b else if a.op=5 then c else .mk op 0 [] i)else .mk op 0 [] i
 |_=> .mk op 0 [] i
mutual
def Ex.fold(cl:List Nat→Int×Int)(cx:List Nat→Ex)(scope:Int):Ex→Ex
 | .mk op num name args=>
   if op=6 then(if l6 scope name≠0 then .mk op num name args else cx name)
   else if args.isEmpty then .mk op num name args
   else if(rR cl cx scope args).all isLit then wy ((Ex.mk op num name args).ty cl scope).1 (Tm op ((rR cl cx scope args).map acB))
   else as1 op (rR cl cx scope args)
def rR(cl:List Nat→Int×Int)(cx:List Nat→Ex)(scope:Int):List Ex→List Ex
 | []=> []
 |x::xs=>x.fold cl cx scope::rR cl cx scope xs
end
theorem pR{k:Nat}(h:k≤1000000):wr .i64 ((k:Int)+1)=((k+1:Nat):Int):=iN (Nat.lt_of_le_of_lt h (by decide))
theorem acC{a b:Nat}(i:a≤1000000)(r:b≤1000000):wr .i64 ((a:Int)+b)=((a+b:Nat):Int):=by
 rw[js (by omega)];omega
def qK:Nat:=1000000
theorem oy{k:Nat}(h:k≤100000):k≤qK:=Nat.le_trans h (by decide)
theorem ji{k:Nat}(h:k≤qK):wr .i64 ((k:Int)+1)=((k+1:Nat):Int):=pR h
def pe:Nat:=1125899906842624
theorem acD{k:Nat}(h:k≤100000):k≤pe:=Nat.le_trans h (by decide)
theorem Eh{k:Nat}(h:k≤pe):wr .i64 ((k:Int)+1)=((k+1:Nat):Int):=iN (Nat.lt_of_le_of_lt h (by decide))
def Ei(n:Nat):List b8:= [⟨1,.cells [.i .i64 (n:Int)] 0 true⟩]
def kG(n level:Nat)(x:Ex):Prop:=n+x.nodes≤200∧level+x.depth≤17
def jm(n level:Nat)(xs:List Ex):Prop:=n+jQ xs≤200∧level+pa xs≤17
instance (n level:Nat) (x:Ex):Decidable (kG n level x):=by unfold kG;infer_instance
instance (n level:Nat) (x:List Ex):Decidable (jm n level x):=by unfold jm;infer_instance
theorem v9{xs:List Ex}{k:Nat}(hk:k<xs.length):xs.drop k=xs[k]::xs.drop (k+1):=List.drop_eq_getElem_cons hk
def as2(level n:Nat)(a:T)(xs:List Ex)(k:Nat)(st:St):Prop:=
 ∃fr lh m,st=⟨fr,lh,Ei m⟩∧an fr 1= .i .i64 (level:Int)∧an fr 2= .ptr .S 0 1 0∧an fr 23=a∧an fr 24= .i .i64 (xs.length:Int)∧an fr 25= .i .i64 (k:Int)∧
  k≤m∧m≤200∧(jm m (level+1) (xs.drop k)↔jm n (level+1) xs)∧(jm n (level+1) xs→m+jQ (xs.drop k)=n+jQ xs)
def afU(y:Ex):Prop:= ∀(level n:Nat) (cs:List T),mY y cs→n≤200→level≤17→ ∃r:Nat,be pE 180 [.agg cs,.i .i64 (level:Int),.ptr .S 0 1 0] (Ei n)=some (.b (decide (kG n level y)),Ei r)∧(kG n level y→r=n+y.nodes)
theorem as3(xs:List Ex)(ih: ∀y∈xs,afU y)(a:T)(W:List T)(ha:IsSl a xs.length W)(hx:ku xs W)(level n:Nat)(hl:level≤16)(hn:n≤200)(o:Out)(X:o=if jm n (level+1) xs then .ext 0 else .ret)(fr:Fr)(lh:iq b8)(sh:List b8)(lU:sh=Ei n)
  (J:an fr 1= .i .i64 (level:Int)) (K:an fr 2= .ptr .S 0 1 0) (F:an fr 23=a) (D:an fr 24= .i .i64 (xs.length:Int)) (H:an fr 25= .i .i64 0):
  wS 36 ry fr lh sh o∧
  ((jm n (level+1) xs→oH pE 36 ry fr lh sh=Ei (n+jQ xs))∧(¬jm n (level+1) xs→an (tO pE 36 ry fr lh sh) 6= .b false∧ ∃m,oH pE 36 ry fr lh sh=Ei m)):=by
 refine jJ (P:=fun fr lh sh=>(jm n (level+1) xs→sh=Ei (n+jQ xs))∧(¬jm n (level+1) xs→an fr 6= .b false∧ ∃m,sh=Ei m)) (j6 (as2 level n a xs) _ xs.length ?_ ?_ 0 _ (Nat.zero_le _) ⟨fr,lh,n,by rw[lU],J,K,F,D,H,Nat.zero_le _,hn,Iff.rfl,fun _=>rfl⟩)
 ·rintro k _ hk ⟨fr,lh,m,rfl,J,K,F,D,H,Xg,Y,N,hs⟩
  have Z:(k:Int)<xs.length:=by omega
  have OO:=xs[k].nodes_eq
  have hw:=pR (k:=k) (by omega)
  have IZ:=pR (k:=level) (by omega)
  obtain⟨b,cb,r,jg,m9,sx,hb⟩:=si ha hx k hk
  obtain⟨m',U,V⟩:=ih xs[k] (List.getElem_mem hk) (level+1) m _ hb Y (by omega)
  rw[v9 hk]at N hs
  simp only[jm,jQ,pa]at N hs
  by_cases O:kG m (level+1) xs[k]
  ·left
   rw[decide_eq_true O]at U
   simp only[qA,seval,j3,ry,J,K,F,D,H,Z,jg,hw,IZ,U,OC,m9.kept1]
   refine⟨_,rfl,_,_,m',rfl, ?_, ?_, ?_, ?_, ?_, ?_, ?_, ?_, ?_⟩
   all_goals first|(simp only[qA,seval,J,K,F,D];done)|skip
   all_goals (rw[V O];unfold kG at O;first|omega|(simp only[jm];omega)|(intro hc;have:=hs (by simpa only[jm]using hc);omega))
  ·right
   rw[decide_eq_false O]at U
   simp only[qA,seval,j3,ry,J,K,F,D,H,Z,jg,IZ,U,OC,m9.kept1]
   have xU: ¬jm n (level+1) xs:=by unfold kG at O;unfold jm;omega
   refine⟨_,_,UE,rfl, ?_,fun hc=>absurd hc xU,fun _=>⟨by simp only[qA,seval],m',rfl⟩⟩
   rw[X,if_neg xU]
 ·rintro _ ⟨fr,lh,m,rfl,J,K,F,D,H,Xg,Y,N,hs⟩
  rw[List.drop_length]at N hs
  have I:jm n (level+1) xs:=N.1 (by unfold jm;rw[jQ,pa];omega)
  simp only[qA,seval,ry,D,H,Int.lt_irrefl]
  refine⟨_,_,uO,rfl,by rw[X,if_pos I],fun _=> ?_,fun hc=>absurd I hc⟩
  have:=hs I
  rw[jQ,Nat.add_zero]at this
  rw[this]
theorem acF(x:Ex):afU x:=by
 induction x using Ex.ind with
 |h x ih=>
  intro level n cs hx hn hl
  obtain⟨a,V,rfl,U,KT⟩:=hx.cells
  rw[il ae5 (by simp[JQ])]
  have J:=pR (k:=n) (by omega)
  have W:=x.nodes_eq
  have Y:=x.depth_eq
  unfold Ei
  by_cases D:(200:Int)<((n+1:Nat):Int)
  ·have r: ¬kG n level x:=by unfold kG;omega
   rw[decide_eq_false r]
   simp only[qA,seval,jl,JQ,J,D]
   exact⟨n+1,rfl,fun h=>absurd h r⟩
  ·by_cases F:(16:Int)<(level:Int)
   ·have r: ¬kG n level x:=by unfold kG;omega
    rw[decide_eq_false r]
    simp only[qA,seval,jl,JQ,J,D,F]
    exact⟨n+1,rfl,fun h=>absurd h r⟩
   ·have KU:kG n level x↔jm (n+1) (level+1) x.args:=by unfold kG jm;omega
    have H:=fun fr lh sh I=>as3 x.args ih a V U KT level (n+1) (by omega) (by omega) _ rfl fr lh sh I
    unfold Ei at H
    by_cases r:jm (n+1) (level+1) x.args
    ·rw[decide_eq_true (KU.2 r)]
     simp only[r,if_true,forall_const,not_true_eq_false,false_implies,and_true]at H
     simp only[qA,seval,jl,JQ,J,D,F,U.lenI,H]
     exact⟨n+1+jQ x.args,rfl,fun _=>by omega⟩
    ·rw[decide_eq_false (fun h=>r (KU.1 h))]
     simp only[r,if_false,forall_const,not_false_eq_true,false_implies,true_and]at H
     have ZU:=fun fr lh sh I D F K N O=>(H fr lh sh I D F K N O).2.2
     have FM:=fun fr lh sh I D F K N O=>And.intro (H fr lh sh I D F K N O).1 (H fr lh sh I D F K N O).2.1
     simp only[qA,seval,jl,JQ,J,D,F,U.lenI,FM]
     generalize Z:oH _ _ _ _ _ _=X
     obtain⟨m,hm⟩: ∃m:Nat,X= [⟨1,.cells [.i .i64 (m:Int)] 0 true⟩]:=by
      rw[←Z]
      refine ZU _ _ _ rfl ?_ ?_ ?_ ?_ ?_ <;> simp only[qA,seval]
     rw[hm]
     exact⟨m,rfl,fun h=>absurd (KU.1 h) r⟩
mutual
def Ex.sz:Ex→Nat→Nat×Nat
 | .mk _ _ _ args,level=>if 16<level then(1,1)else CC args level (1,1)
def CC:List Ex→Nat→Nat×Nat→Nat×Nat
 | [],_,p=>p
 |x::xs,level,p=>if p.1≤200 then CC xs level (p.1+(x.sz (level+1)).1,max p.2 ((x.sz (level+1)).2+1))else p
end
theorem Ex.sz_eq(x:Ex)(level:Nat):x.sz level=if 16<level then(1,1)else CC x.args level (1,1):=by obtain⟨_,_,_,_⟩:=x;rw[Ex.sz];rfl
theorem ai9{xs:List Ex}{level:Nat}(ih: ∀y∈xs,(y.sz (level+1)).1≤1+200*(17-(level+1))∧(y.sz (level+1)).2≤18-(level+1))(r:level≤16): ∀p:Nat×Nat,p.1≤1+200*(17-level)→p.2≤18-level→(CC xs level p).1≤1+200*(17-level)∧(CC xs level p).2≤18-level:=by
 induction xs with
 |nil=>grind [CC]
 |cons y D VF=>
  intro p F H
  rw[CC]
  have I:=ih y (by simp)
  split
  ·refine VF (fun z i=>ih z (by simp[i])) _ ?_ ?_ <;> simp only <;> omega
  ·grind
theorem as4(x:Ex): ∀level,level≤17→(x.sz level).1≤1+200*(17-level)∧(x.sz level).2≤18-level:=by
 induction x using Ex.ind with
 |h x ih=>
  intro level r
  rw[Ex.sz_eq]
  split
  ·grind
  ·exact ai9 (fun y i=>ih y i (level+1) (by omega)) (by omega) _ (by simp only;omega) (by simp only;omega)
theorem aja(x:Ex){level:Nat}(h:level≤17):(x.sz level).1≤4000∧(x.sz level).2≤18:=by
 grind [as4]
theorem Ej: ∀(xs:List Ex) (level:Nat) (p:Nat×Nat),p.1≤(CC xs level p).1∧p.2≤(CC xs level p).2
 | [],level,p=>by rw[CC];simp
 |x::xs,level,p=>by
  rw[CC]
  split
  ·have:=Ej xs level (p.1+(x.sz (level+1)).1,max p.2 ((x.sz (level+1)).2+1))
   grind
  ·simp
def as5(x:Ex):Prop:= ∀level,level≤17→if kG 0 level x then x.sz level=(x.nodes,x.depth)else 200<(x.sz level).1∨17<level+(x.sz level).2
theorem ajb{xs:List Ex}{level:Nat}(ih: ∀y∈xs,as5 y)(N:level≤16): ∀p:Nat×Nat,1≤p.2→p.1≤200→
  if jm p.1 (level+1) xs then CC xs level p=(p.1+jQ xs,max p.2 (pa xs+1))else 200<(CC xs level p).1∨17<level+(CC xs level p).2:=by
 induction xs with
 |nil=>
  grind [jm,jQ,pa,CC,Nat.max_eq_left]
 |cons y r VF=>
  intro p O I
  have H:=ih y (by simp) (level+1) (by omega)
  have ZQ:=VF fun z J=>ih z (by simp[J])
  have Xh:=Ej r level (p.1+(y.sz (level+1)).1,max p.2 ((y.sz (level+1)).2+1))
  rw[CC,if_pos I]
  by_cases D:kG 0 (level+1) y
  ·rw[if_pos D]at H
   rw[H]at Xh ⊢
   simp only at Xh ⊢
   by_cases K:p.1+y.nodes≤200
   ·have:=ZQ (p.1+y.nodes,max p.2 (y.depth+1)) (by simp only;omega) K
    simp only at this
    by_cases F:jm (p.1+y.nodes) (level+1) r
    ·rw[if_pos F]at this
     have i:jm p.1 (level+1) (y::r):=by unfold jm at F ⊢; unfold kG at D;rw[jQ,pa];omega
     rw[if_pos i,this,jQ,pa]
     refine Prod.ext ?_ ?_ <;> simp only <;> omega
    ·rw[if_neg F]at this
     have i: ¬jm p.1 (level+1) (y::r):=by unfold jm at F ⊢; unfold kG at D;rw[jQ,pa];omega
     rw[if_neg i];exact this
   ·have i: ¬jm p.1 (level+1) (y::r):=by unfold jm;rw[jQ,pa];omega
    rw[if_neg i];omega
  ·rw[if_neg D]at H
   have i: ¬jm p.1 (level+1) (y::r):=by unfold jm;unfold kG at D;rw[jQ,pa];omega
   rw[if_neg i]
   simp only at Xh;omega
theorem as6(x:Ex):as5 x:=by
 induction x using Ex.ind with
 |h x ih=>
  intro level H
  have D:=x.nodes_eq
  have F:=x.depth_eq
  rw[Ex.sz_eq]
  by_cases h:16<level
  ·grind [kG]
  ·rw[if_neg h]
   have:=ajb ih (level:=level) (by omega) (1,1) (by simp) (by simp)
   simp only at this
   by_cases i:jm 1 (level+1) x.args
   ·rw[if_pos i]at this
    have r:kG 0 level x:=by unfold jm at i;unfold kG;omega
    rw[if_pos r,this]
    refine Prod.ext ?_ ?_ <;> simp only <;> omega
   ·rw[if_neg i]at this
    have r: ¬kG 0 level x:=by unfold jm at i;unfold kG;omega
    rw[if_neg r];exact this
theorem ajc(x:Ex):(200<(x.sz 1).1∨16<(x.sz 1).2)↔big x:=by
 have:=as6 x 1 (by omega)
 grind [big,kG]
def szP(y:Ex):Prop:= ∀(level:Nat) (cs:List T),mY y cs→level≤17→be pE 209 [.agg cs,.i .i64 (level:Int)] []=some (.tup [.i .i64 ((y.sz level).1:Int),.i .i64 ((y.sz level).2:Int)],[])
theorem as7(xs:List Ex)(ih: ∀y∈xs,szP y)(a:T)(cc:List T)(U:IsSl a xs.length cc)(hx:ku xs cc)(level:Nat)(hl:level≤16)(op num:Int)(s:List Nat)(g:Nat)(fr:Fr)(lh:iq b8)(sh:List b8)
  (J:an fr 1= .i .i64 (level:Int)) (F:an fr 2= .ptr .L 2 g 0) (I:an fr 6= .i .i64 1) (K:an fr 7= .i .i64 1) (N:an fr 8= .i .i64 0) (W:b7 lh 2=⟨g,.cells [.i .i64 op,.i .i64 num,.s s,a] 0 true⟩):
  wS 44 pj fr lh sh (.ext 0)∧
  (an (tO pE 44 pj fr lh sh) 6= .i .i64 ((CC xs level (1,1)).1:Int)∧an (tO pE 44 pj fr lh sh) 7= .i .i64 ((CC xs level (1,1)).2:Int)∧n5 pE 44 pj fr lh sh=lh∧oH pE 44 pj fr lh sh=sh):=by
 refine jJ (P:=fun fr iR iT=>an fr 6= .i .i64 ((CC xs level (1,1)).1:Int)∧an fr 7= .i .i64 ((CC xs level (1,1)).2:Int)∧iR=lh∧iT=sh) (j6 (fun k st=> ∃(fr:Fr) (p:Nat×Nat),st=⟨fr,lh,sh⟩∧an fr 1= .i .i64 (level:Int)∧an fr 2= .ptr .L 2 g 0∧an fr 6= .i .i64 (p.1:Int)∧an fr 7= .i .i64 (p.2:Int)∧an fr 8= .i .i64 (k:Int)∧
   CC (xs.drop k) level p=CC xs level (1,1)∧k≤p.1∧p.2≤19∧p.1≤4300) _ xs.length ?_ ?_ 0 _ (Nat.zero_le _) ⟨fr,(1,1),rfl,J,F,I,K,N,rfl,by simp,by simp,by simp⟩)
 ·rintro k _ hk ⟨fr,p,rfl,J,F,I,K,N,D,hp,Y,Z⟩
  have iX:(k:Int)<xs.length:=by omega
  obtain⟨b,cb,r,jg,m9,sx,hb⟩:=si U hx k hk
  have im:=ih xs[k] (List.getElem_mem hk) (level+1) _ hb (by omega)
  have wQ:=aja xs[k] (level:=level+1) (by omega)
  have xo:1≤(xs[k].sz (level+1)).1:=by
   rw[Ex.sz_eq];split
   ·simp
   ·exact(Ej xs[k].args (level+1) (1,1)).1
  rw[v9 hk,CC]at D
  generalize xs[k].sz (level+1)=q at im wQ xo D
  obtain⟨hq1,hq2⟩:=wQ
  by_cases X:p.1≤200
  ·left
   have H:(p.1:Int)≤200:=by omega
   have hw:=pR (k:=k) (Nat.le_trans hp (Nat.le_trans X (by decide)))
   have IZ:=pR (k:=level) (Nat.le_trans hl (by decide))
   have V:=pR (k:=q.2) (Nat.le_trans hq2 (by decide))
   have ZV:=acC (a:=p.1) (b:=q.1) (Nat.le_trans X (by decide)) (Nat.le_trans hq1 (by decide))
   rw[if_pos X]at D
   by_cases O:(p.2:Int)<((q.2+1:Nat):Int)
   ·have aFK:(p.2:Int)<((q.2+1:Nat):Int):=O
    simp only[qA,seval,pj,J,F,I,K,N,W,iX,U.lenI,H,jg,hw,IZ,V,ZV,im,UZ,m9.froz1,O]
    refine⟨_,rfl,_,(p.1+q.1,q.2+1),rfl, ?_, ?_, ?_, ?_, ?_, ?_, ?_, ?_, ?_⟩
    all_goals first|(simp only[qA,seval,J,F];done)|skip
    ·grind
    all_goals (simp only;omega)
   ·simp only[qA,seval,pj,J,F,I,K,N,W,iX,U.lenI,H,jg,hw,IZ,V,ZV,im,UZ,m9.froz1,O]
    refine⟨_,rfl,_,(p.1+q.1,p.2),rfl, ?_, ?_, ?_, ?_, ?_, ?_, ?_, ?_, ?_⟩
    all_goals first|(simp only[qA,seval,J,F];done)|skip
    ·grind
    all_goals (simp only;omega)
  ·right
   have H: ¬(p.1:Int)≤200:=by omega
   rw[if_neg X]at D
   simp only[qA,seval,pj,F,I,N,W,iX,U.lenI,H]
   exact⟨_,_,uO,rfl,rfl,by simp only[qA,seval,I,←D],by simp only[qA,seval,K,←D],rfl,rfl⟩
 ·rintro _ ⟨fr,p,rfl,J,F,I,K,N,D,hp,Y,Z⟩
  rw[List.drop_length,CC]at D
  simp only[qA,seval,pj,F,N,W,U.lenI,Int.lt_irrefl]
  exact⟨_,_,uO,rfl,rfl,by simp only[qA,seval,I,←D],by simp only[qA,seval,K,←D],rfl,rfl⟩
end Go.Proofs.YtcpceiclnbmgiaaGreat
