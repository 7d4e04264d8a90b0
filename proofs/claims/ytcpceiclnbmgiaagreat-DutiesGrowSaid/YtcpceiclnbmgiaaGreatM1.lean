/- Walks of functions of the program and of the reference, and their plain laws, part 1. Conditions: the theorems' own. -/
import Derived.Test.YtcpceiclnbmgiaaGreatGS
import Derived.KernelRfl
set_option maxRecDepth 100000
set_option linter.unusedSimpArgs false
set_option linter.unusedVariables false
set_option maxHeartbeats 16000000
namespace Go.Proofs.YtcpceiclnbmgiaaGreat
open Go Go.Ev
theorem mB{m f:Nat}{args:List T}{r:T×List b8}(h:jP pE m f args []=some r):be pE f args []=some r:=DCall_iff.2 ⟨m,h⟩
theorem gV{m f:Nat}{args:List T}{v:T}(h:(jP pE m f args []).map (·.1)=some v): ∃s,be pE f args []=some (v,s):=by
 cases hc:jP pE m f args []with
 |none=>grind
 |some r=>
  rw[hc]at h
  obtain⟨a,s⟩:=r
  simp at h
  subst h
  exact⟨s,DCall_iff.2 ⟨m,hc⟩⟩
inductive Ex where
 |mk (op num:Int) (name:List Nat) (args:List Ex)
def Ex.op:Ex→Int| .mk o _ _ _=>o
def Ex.num:Ex→Int| .mk _ n _ _=>n
def Ex.name:Ex→List Nat| .mk _ _ s _=>s
def Ex.args:Ex→List Ex| .mk _ _ _ a=>a
mutual
def mC:Ex→List T→Prop
 | .mk op num name args,cs=> ∃a r,cs= [.i .i64 op,.i .i64 num,.s name,a]∧IsSl a args.length r∧j3 args r
def j3:List Ex→List T→Prop
 | [],cs=>cs= []
 |x::xs,cs=> ∃c r,cs=c++r∧mC x c∧j3 xs r
end
theorem mC.cells{x:Ex}{cs:List T}(h:mC x cs): ∃a r,cs= [.i .i64 x.op,.i .i64 x.num,.s x.name,a]∧IsSl a x.args.length r∧j3 x.args r:=by
 obtain⟨o,n,s,a⟩:=x
 rw[mC]at h
 exact h
theorem mC.of{x:Ex}{a:T}{r:List T}(D:IsSl a x.args.length r)(F:j3 x.args r):mC x [.i .i64 x.op,.i .i64 x.num,.s x.name,a]:=by
 obtain⟨o,n,s,l⟩:=x
 rw[mC]
 exact⟨a,r,rfl,D,F⟩
theorem mC.len{x:Ex}{cs:List T}(h:mC x cs):cs.length=4:=by
 obtain⟨a,i,rfl,_⟩:=h.cells;rfl
theorem j3.len: ∀{xs:List Ex} {cs:List T},j3 xs cs→cs.length=xs.length*4
 | [],cs,h=>by grind [j3]
 |x::xs,cs,h=>by
  rw[j3]at h
  obtain⟨c,r,rfl,i,D⟩:=h
  rw[List.length_append,i.len,D.len,List.length_cons];omega
theorem j3.drop: ∀{xs:List Ex} {cs:List T} (k:Nat) (hk:k<xs.length),j3 xs cs→ ∃c r,cs.drop (k*4)=c++r∧mC xs[k] c∧j3 (xs.drop (k+1)) r
 | [],cs,k,hk,h=>by simp at hk
 |x::xs,cs,0,hk,h=>by
  grind [j3]
 |x::xs,cs,k+1,hk,h=>by
  rw[j3]at h
  obtain⟨c,r,rfl,i,D⟩:=h
  obtain⟨F,H,e,I,J⟩:=j3.drop k (by simpa using hk) D
  refine⟨F,H, ?_,I,by simpa using J⟩
  have:(k+1)*4=c.length+k*4:=by rw[i.len];omega
  grind [List.drop_append,Nat.add_sub_cancel_left,List.drop_eq_nil_of_le]
theorem rF{xs:List Ex}{a:T}{F:List T}(J:IsSl a xs.length F)(H:j3 xs F)(k:Nat)(hk:k<xs.length):
  ∃b D r,(∀kk,lH a (.i kk (k:Int)) 4=some (.vp (.i .i64 xs[k].op:: .i .i64 xs[k].num:: .s xs[k].name::b::r)))∧IsSl b xs[k].args.length D∧j3 xs[k].args D∧mC xs[k] [.i .i64 xs[k].op,.i .i64 xs[k].num,.s xs[k].name,b]:=by
 obtain⟨c,r,e,I,O⟩:=j3.drop k hk H
 obtain⟨b,D,rfl,K,N⟩:=I.cells
 refine⟨b,D,r,fun kk=> ?_,K,N,I⟩
 rw[J.ia (sz:=4) H.len hk,e];rfl
mutual
def Ex.nodes:Ex→Nat
 | .mk _ _ _ args=>1+jB args
def jB:List Ex→Nat
 | []=>0
 |x::xs=>x.nodes+jB xs
end
mutual
def Ex.depth:Ex→Nat
 | .mk _ _ _ args=>1+oG args
def oG:List Ex→Nat
 | []=>0
 |x::xs=>max x.depth (oG xs)
end
theorem Ex.nodes_eq(x:Ex):x.nodes=1+jB x.args:=by obtain⟨_,_,_,_⟩:=x;rw[Ex.nodes];rfl
theorem Ex.depth_eq(x:Ex):x.depth=1+oG x.args:=by obtain⟨_,_,_,_⟩:=x;rw[Ex.depth];rfl
theorem lZ: ∀xs:List Ex,xs.length≤jB xs
 | []=>by simp
 |x::xs=>by
  have:=lZ xs
  rw[jB,List.length_cons,x.nodes_eq];omega
theorem oH: ∀{xs:List Ex} {x:Ex},x∈xs→x.nodes≤jB xs
 |y::xs,x,h=>by
  rw[jB]
  rcases List.mem_cons.1 h with rfl|h
  ·omega
  ·have:=oH h;omega
theorem Ex.ind{P:Ex→Prop}(h: ∀x:Ex,(∀y∈x.args,P y)→P x)(x:Ex):P x:=by
 have: ∀n (x:Ex),x.nodes≤n→P x:=by
  intro n
  induction n with
  |zero=>intro x hx;rw[x.nodes_eq]at hx;omega
  |succ n ih=>
   intro x hx
   refine h x fun y i=>ih y ?_
   have:=oH i
   rw[x.nodes_eq]at hx;omega
 exact this _ x (Nat.le_refl _)
def EX(c:Nat):Prop:=(97:Int)≤c∧(c:Int)≤122
def Hi(c:Nat):Prop:=(48:Int)≤c∧(c:Int)≤57
instance (c:Nat):Decidable (EX c):=by unfold EX;infer_instance
instance (c:Nat):Decidable (Hi c):=by unfold Hi;infer_instance
def v9(c:Nat):Bool:=decide (EX c∨Hi c∨(c:Int)=95)
def nV:List Nat→Bool
 | []=>false
 |c::cs=>decide (cs.length<16)&&(decide (EX c)&&cs.all v9)
theorem J5(c:Nat):be pE 208 [.i .u8 c] []=some (.b (decide (EX c)),[]):=by
 rw[gQ aem (by simp[Qj])]
 by_cases r:(97:Int)≤c
 ·by_cases D:(c:Int)≤122 <;> simp only[qA,seval,Qj,r,D,EX]
 ·simp only[qA,seval,Qj,r,EX]
theorem Rh(c:Nat):be pE 205 [.i .u8 c] []=some (.b (decide (Hi c)),[]):=by
 rw[gQ ael (by simp[Qi])]
 by_cases r:(48:Int)≤c
 ·by_cases D:(c:Int)≤57 <;> simp only[qA,seval,Qi,r,D,Hi]
 ·simp only[qA,seval,Qi,r,Hi]
theorem FW{s:List Nat}{k:Nat}(hk:k<s.length)(kk:IntKind):L7 (.s s) (.i kk (k:Int))=some (.i .u8 (s[k]:Int)):=by
 rw[Me,if_pos (Int.natCast_nonneg k),Int.toNat_natCast,List.getElem?_eq_getElem hk];rfl
theorem iJ{k:Nat}(h:k<4611686018427387904):wr .i64 ((k:Int)+1)=((k+1:Nat):Int):=by rw[jj (by omega)];omega
theorem ahZ(s:List Nat)(hs:s.length≤16)(fr:Fr)(lh:gW b8)(sh:List b8)(I:an fr 0= .s s)(N:an fr 3= .i .i64 0):
  LpC pE 42 xw fr lh sh 0 2 (s.all v9=true) (.b false) (fun D F=>D=lh∧F=sh):=by
 refine wI Qc (by simp[iG]) (fun k f D F=>an f 3= .i .i64 (k:Int)∧D=lh∧F=sh∧s.all v9=(s.drop k).all v9) s.length ⟨N,rfl,rfl,rfl⟩ ?_ ?_
 ·rintro k f _ _ hk r ⟨H,rfl,rfl,hr⟩
  have O:(k:Int)<s.length:=by omega
  have U:=iJ (k:=k) (by omega)
  have J:=j2 (J5 s[k])
  have K:=j2 (Rh s[k])
  rw[List.drop_eq_getElem_cons hk,List.all_cons]at hr
  simp only[qB,seval,gd,xw,r,I,H,O,FW hk,U,J,K,T6,ap5]
  clear r J K
  unfold v9 at*
  grind
 ·rintro f _ _ r ⟨H,rfl,rfl,hr⟩
  rw[List.drop_length,List.all_nil]at hr
  simp only[qB,seval,gd,xw,r,I,H,Int.lt_irrefl,hr]
theorem J6(s:List Nat):be pE 175 [.s s] []=some (.b (nV s),[]):=by
 rw[gQ ad2 (by simp[LC])]
 cases s with
 |nil=>simp only[qA,seval,LC,nV]
 |cons c cs=>
  have r:L7 (.s (c::cs)) (.i .i64 0)=some (.i .u8 (c:Int)):=by rw[Me];rfl
  have D:=j2 (J5 c)
  unfold nV
  by_cases H:cs.length<16
  ·have F:=ahZ (c::cs) (by simp;omega)
   simp only[qB,seval,LC,r,D,T6,F]
   clear F D
   grind [v9]
  ·simp only[qB,seval,LC,r,D,T6]
   clear D
   grind
def chC(k:Nat)(c:Nat):Bool:=decide (EX c)||(decide (0<k)&&v9 c)
def EY:Nat→List Nat→Bool
 |_,[]=>true
 |k,c::cs=>chC k c&&EY (k+1) cs
theorem J7: ∀(cs:List Nat) (k:Nat),0<k→EY k cs=cs.all v9
 | [],k,h=>rfl
 |c::cs,k,h=>by
  rw[EY,List.all_cons,J7 cs (k+1) (by omega)]
  congr 1
  unfold chC
  by_cases i:EX c <;> simp[h,i,v9]
theorem ah0(s:List Nat)(hs:s.length≤16)(fr:Fr)(lh:gW b8)(sh:List b8)(J:an fr 0= .s s)(I:an fr 14= .i .i64 (s.length:Int))(K:an fr 15= .i .i64 0):
  LpC pE 44 xt fr lh sh 0 2 (EY 0 s=true) (.b false) (fun D F=>D=lh∧F=sh):=by
 refine wI PY (by simp[iG]) (fun k f D F=>an f 15= .i .i64 (k:Int)∧D=lh∧F=sh∧EY 0 s=EY k (s.drop k)) s.length ⟨K,rfl,rfl,rfl⟩ ?_ ?_
 ·rintro k f _ _ hk r ⟨H,rfl,rfl,hr⟩
  have N:(k:Int)<s.length:=by omega
  have O:=iJ (k:=k) (by omega)
  rw[List.drop_eq_getElem_cons hk,EY]at hr
  simp only[qB,seval,gd,xt,r,J,I,H,N,FW hk,O]
  clear r
  unfold chC v9 EX Hi at*
  grind (splits:=30)
 ·rintro f _ _ r ⟨H,rfl,rfl,hr⟩
  rw[List.drop_length,EY]at hr
  simp only[qB,seval,gd,xt,r,I,H,Int.lt_irrefl,hr]
theorem yt(s:List Nat):be pE 133 [.s s] []=some (.b (nV s),[]):=by
 rw[gQ adB (by simp[PZ])]
 have D:nV s=(decide (s.length≤16)&&decide (1≤s.length)&&EY 0 s):=by
  cases s with
  |nil=>rfl
  |cons c cs=>rw[EY,J7 cs 1 (by omega)];unfold nV chC;grind
 by_cases r:s.length≤16
 ·have i:=ah0 s r
  simp only[qB,seval,PZ,i]
  clear i
  grind
 ·simp only[qB,seval,PZ]
  grind
def ah1:List (List Nat):= [[97,110,100],[111,114],[110,111,116],[105,109,112,108,105,101,115],[105,110],[116,111],[116,114,117,101],[102,97,108,115,101],[109,105,110],[109,97,120],[105,102],[116,104,101,110],[101,108,115,101]]
def ah2:List (List Nat):= [[108,101,103,115],[104,101,97,100,115],[116,121,112,101,115]]
def ah3:List (List Nat):= [[98,108,111,99,107],[115,112,97,110],[110,105,103,104,116],[108,111,110,103,101,115,116],[115,104,111,114,116,101,115,116],[115,104,105,102,116]]
def ah4:List (List Nat):= [[115,116,97,114,116],[101,110,100]]
def Wi:List (List Nat):= [[100,117,116,105,101,115],[108,101,103,115],[104,101,97,100,115],[100,97,121,115]]
def Wj:List (List Nat):= [[98,108,111,99,107],[115,112,97,110],[99,114,101,100,105,116]]
def jS:List (List Nat):= [[108,101,103,115],[104,101,97,100,115],[116,121,112,101,115],[98,108,111,99,107],[115,112,97,110],[110,105,103,104,116],[108,111,110,103,101,115,116],[115,104,111,114,116,101,115,116],[115,104,105,102,116],[115,116,97,114,116],[101,110,100]]
def mb:List (List Nat):= [[114,101,115,116],[110,105,103,104,116,115],[104,111,109,101],[98,101,102,111,114,101,46,108,101,103,115],[98,101,102,111,114,101,46,104,101,97,100,115],[98,101,102,111,114,101,46,116,121,112,101,115],[98,101,102,111,114,101,46,98,108,111,99,107],[98,101,102,111,114,101,46,115,112,97,110],[98,101,102,111,114,101,46,110,105,103,104,116],[98,101,102,111,114,101,46,108,111,110,103,101,115,116],[98,101,102,111,114,101,46,115,104,111,114,116,101,115,116],[98,101,102,111,114,101,46,115,104,105,102,116],[98,101,102,111,114,101,46,115,116,97,114,116],[98,101,102,111,114,101,46,101,110,100],[97,102,116,101,114,46,108,101,103,115],[97,102,116,101,114,46,104,101,97,100,115],[97,102,116,101,114,46,116,121,112,101,115],[97,102,116,101,114,46,98,108,111,99,107],[97,102,116,101,114,46,115,112,97,110],[97,102,116,101,114,46,110,105,103,104,116],[97,102,116,101,114,46,108,111,110,103,101,115,116],[97,102,116,101,114,46,115,104,111,114,116,101,115,116],[97,102,116,101,114,46,115,104,105,102,116],[97,102,116,101,114,46,115,116,97,114,116],[97,102,116,101,114,46,101,110,100]]
def qx:List (List Nat):= [[100,117,116,105,101,115],[108,101,103,115],[104,101,97,100,115],[100,97,121,115],[98,108,111,99,107],[115,112,97,110],[99,114,101,100,105,116]]
def Wk(s:List Nat):Bool:=decide (s∈ah1)
def nW(s:List Nat):Bool:=nV s&& !Wk s
def yu(s:List Nat):Int:=if s∈ah2 then 1 else if s∈ah3 then 2 else if s∈ah4 then 3 else 0
def FX(s:List Nat):Int:=if s∈Wi then 1 else if s∈Wj then 2 else 0
def Wl:List Nat:= [98,101,102,111,114,101,46]
def Y9:List Nat:= [97,102,116,101,114,46]
def uy(p s:List Nat):Prop:=p.length≤s.length∧s.take p.length=p
instance (p s:List Nat):Decidable (uy p s):=by unfold uy;infer_instance
def FY(s:List Nat):Int:=if s= [114,101,115,116]then 2 else if s= [110,105,103,104,116,115]then 1 else if s= [104,111,109,101]then 4 else if uy Wl s then yu (s.drop 7)else if uy Y9 s then yu (s.drop 6)else 0
def lI(scope:Int)(s:List Nat):Int:=if scope=1 then yu s else if scope=2 then FY s else if scope=3 then FX s else 0
theorem abH(s:List Nat):be pE 212 [.s s] []=some (.b (Wk s),[]):=by
 rw[gQ aeq (by simp[TG])]
 simp only[qB,seval,TG,Wk,ah1,List.mem_cons,List.not_mem_nil,or_false]
 grind (splits:=40)
theorem yw(s:List Nat):be pE 143 [.s s] []=some (.i .i64 (yu s),[]):=by
 rw[gQ adM (by simp[To])]
 simp only[qB,seval,To,yu,ah2,ah3,ah4,List.mem_cons,List.not_mem_nil,or_false]
 grind (splits:=40)
theorem Wm(s:List Nat):be pE 145 [.s s] []=some (.i .i64 (FX s),[]):=by
 rw[gQ adO (by simp[Tp])]
 simp only[qB,seval,Tp,FX,Wi,Wj,List.mem_cons,List.not_mem_nil,or_false]
 grind (splits:=40)
theorem abI(s:List Nat):be pE 176 [.s s] []=some (.b (Wk s),[]):=by
 rw[gQ ad4 (by simp[Tv])]
 simp only[qB,seval,nQ,repl,Tv,BM,Nu,Wk,ah1,List.mem_cons,List.not_mem_nil,or_false]
 grind (splits:=40)
theorem sw(s:List Nat):be pE 179 [.s s] []=some (.b (nW s),[]):=by
 rw[gQ ad8 (by simp[Tx])]
 cases h:nV s <;> simp only[qA,seval,Tx,yt,abH,Je,ap8,h,nW]
theorem qg(s:List Nat):be pE 130 [.s s] []=some (.b (nW s),[]):=by
 rw[gQ ady (by simp[Te])]
 cases h:nV s <;> simp only[qA,seval,Te,J6,abI,ad3,ap0,h,nW]
theorem FZ(s p:List Nat):be pE 228 [.s s,.s p] []=some (.b (decide (uy p s)),[]):=by
 rw[gQ aex (by simp[Qo])]
 by_cases h:p.length≤s.length
 ·have i:(p.length:Int)≤s.length:=by omega
  simp only[qA,seval,Ds,Qo,h,i,uy,Nat.sub_zero]
 ·have i: ¬(p.length:Int)≤s.length:=by omega
  simp only[qA,seval,Qo,h,i,uy]
theorem F0(s p:List Nat):be pE 183 [.s s,.s p] []=some (if uy p s then .tup [.s (s.drop p.length),.b true]else .tup [.s s,.b false],[]):=by
 rw[gQ aed (by simp[Tz])]
 have i:be pE 215 [.s s,.s p] []=some (if uy p s then .tup [.s (s.drop p.length),.b true]else .tup [.s s,.b false],[]):=by
  rw[gQ aet (by simp[Qn])]
  by_cases h:uy p s
  ·have r:p.length≤s.length:=h.1
   have D:List.take (s.length-p.length) (s.drop p.length)=s.drop p.length:=List.take_of_length_le (by simp)
   simp only[qA,seval,Ds,Qn,FZ,aey,h,r,D]
  ·simp only[qA,seval,Qn,FZ,aey,h]
 by_cases h:uy p s <;> simp only[h]at i <;> simp only[qA,seval,Tz,i,aqb,h]
theorem Wn(s:List Nat):be pE 144 [.s s] []=some (.i .i64 (FY s),[]):=by
 by_cases F:s= [114,101,115,116]
 ·subst F;exact mB (m:=100) (mz (by kernel_rfl))
 ·by_cases H:s= [110,105,103,104,116,115]
  ·subst H;exact mB (m:=100) (mz (by kernel_rfl))
  ·by_cases I:s= [104,111,109,101]
   ·subst I;exact mB (m:=100) (mz (by kernel_rfl))
   ·have r:=F0 s Wl
    have D:=F0 s Y9
    have N:Wl.length=7:=rfl
    have O:Y9.length=6:=rfl
    rw[FY,if_neg F,if_neg H,if_neg I]
    rw[gQ adN (by simp[Lz])]
    rw[N]at r
    rw[O]at D
    by_cases J:uy Wl s
    ·rw[if_pos J]at r
     unfold Wl at r
     simp only[qA,seval,Lz,F,H,I,r,yw,T3,Ny,J]
    ·rw[if_neg J]at r
     by_cases K:uy Y9 s
     ·rw[if_pos K]at D
      unfold Wl at r
      unfold Y9 at D
      simp only[qA,seval,Lz,F,H,I,r,D,yw,T3,Ny,J,K]
     ·rw[if_neg K]at D
      unfold Wl at r
      unfold Y9 at D
      simp only[qA,seval,Lz,F,H,I,r,D,yw,T3,Ny,J,K]
def DA(scope:Int)(s:List Nat):Int:=if lI scope s=0 then 6 else 0
theorem J8(scope:Int)(s:List Nat):be pE 90 [.i .i64 scope,.s s] []=some (.tup [.i .i64 (lI scope s),.i .i64 (DA scope s)],[]):=by
 rw[gQ apq (by simp[c90])]
 by_cases r:scope=1
 ·by_cases h:yu s=0 <;> simp only[qA,seval,c90,r,DA,lI,yw,Ny,h]
 ·by_cases D:scope=2
  ·by_cases h:FY s=0 <;> simp only[qA,seval,c90,D,DA,lI,Wn,apR,h]
  ·by_cases F:scope=3
   ·by_cases h:FX s=0 <;> simp only[qA,seval,c90,F,DA,lI,Wm,apU,h]
   ·simp only[qA,seval,c90,r,D,F,DA,lI]
def strs(l:List (List Nat)):List T:=l.map T.s
theorem J9(l:List (List Nat)):(strs l).length=l.length:=by simp[strs]
theorem Ri(l:List (List Nat))(k:Nat)(hk:k<l.length):(strs l).drop k=T.s l[k]::(strs l).drop (k+1):=by
 rw[List.drop_eq_getElem_cons (by rw[J9];exact hk)];simp[strs]
theorem Wo(s:List Nat):uy Wl s↔(7≤s.length∧s.take 7=Wl):=Iff.rfl
theorem Wp(s:List Nat):uy Y9 s↔(6≤s.length∧s.take 6=Y9):=Iff.rfl
def oI:List Nat→Option Nat
 | []=>none
 |c::cs=>if c=46 then some 0 else(oI cs).map (· +1)
def tm(s:List Nat):Bool:=match oI s with
 |none=>nW s
 |some i=>nV (s.take i)&&nV (s.drop (i+1))
def lj(op:Int)(n:Nat):Bool:=
 if op≤6 then decide (n=0)else if op=7∨op=19 then decide (n=1)else if op=12∨op=13 then decide (2≤n)
 else if op=14∨op=15 then decide (n=3)else decide (n=2)
def DB(op:Int):Int:=if op=1∨op=2 then 1099511627776 else if op=3 then 1439 else 0
def tn(op num:Int)(name:List Nat)(n:Nat):Bool:=
 decide (1≤op)&&(decide (op≤22)&&(lj op n&&(decide (0≤num∧num≤DB op)&&(if op=6 then tm name else decide (name= [])))))
mutual
def Ex.wf:Ex→Bool
 | .mk op num name args=>tn op num name args.length&&By args
def By:List Ex→Bool
 | []=>true
 |x::xs=>x.wf&&By xs
end
theorem Ex.wf_eq(x:Ex):x.wf=(tn x.op x.num x.name x.args.length&&By x.args):=by obtain⟨_,_,_,_⟩:=x;rw[Ex.wf];rfl
theorem Hj: ∀{xs:List Ex},By xs=true↔ ∀x∈xs,x.wf=true
 | []=>by simp[By]
 |x::xs=>by rw[By,Bool.and_eq_true,Hj (xs:=xs)];simp
def big(x:Ex):Prop:=200<x.nodes∨16<x.depth
instance (x:Ex):Decidable (big x):=by unfold big;infer_instance
def jo(x:Ex):Int:=if big x then 10 else if x.wf then 0 else 1
def nX(ts:List Int)(k:Int):Bool:=ts.all fun t=>decide (t=k)
def Ka(op a b:Int):Int:=
 if a=1∧b=1 then 1 else if a=2∧b=1 then 2 else if op=10∧a=1∧b=2 then 2 else if op=11∧a=2∧b=2 then 1 else 0
def a0(ts:List Int):Int:=ts.getD 0 0
def a1(ts:List Int):Int:=ts.getD 1 0
def a2(ts:List Int):Int:=ts.getD 2 0
def tp(op:Int)(ts:List Int):Int:=
 if op=1 then 1 else if op=2 then 2 else if op=3 then 3 else if op=4 then 4 else if op=5 then 4
 else if op=7∨op=8∨op=9∨op=12∨op=13 then(if nX ts 1 then 1 else if nX ts 2 then 2 else 0)
 else if op=10∨op=11 then Ka op (a0 ts) (a1 ts)
 else if op=14 then(if a0 ts=4∧a1 ts=a2 ts then a1 ts else 0)
 else if op=15 then(if nX ts 3 then 4 else 0)
 else if op=16∨op=17 then(if(a0 ts=1∨a0 ts=2)∧a0 ts=a1 ts then 4 else 0)
 else if op=18 then(if a0 ts=a1 ts then 4 else 0)
 else(if nX ts 4 then 4 else 0)
mutual
def Ex.ty(cl:List Nat→Int×Int)(scope:Int):Ex→Int×Int
 | .mk op _ name args=>
   if op=6 then(if lI scope name≠0 then(lI scope name,0)else cl name)
   else match rM cl scope args with
    | .error e=>(0,e)
    | .ok ts=>if tp op ts=0 then(0,9)else(tp op ts,0)
def rM(cl:List Nat→Int×Int)(scope:Int):List Ex→Except Int (List Int)
 | []=> .ok []
 |x::xs=>if(x.ty cl scope).2≠0 then .error (x.ty cl scope).2 else match rM cl scope xs with
  | .error e=> .error e
  | .ok ts=> .ok ((x.ty cl scope).1::ts)
end
theorem Ex.ty_eq(cl:List Nat→Int×Int)(scope:Int)(x:Ex):x.ty cl scope=
  if x.op=6 then(if lI scope x.name≠0 then(lI scope x.name,0)else cl x.name)
  else match rM cl scope x.args with
   | .error e=>(0,e)
   | .ok ts=>if tp x.op ts=0 then(0,9)else(tp x.op ts,0):=by obtain⟨_,_,_,_⟩:=x;rw[Ex.ty];rfl
abbrev Cs:=List (List Nat×Ex)
def oJ:Cs→List Nat→Option Nat
 | [],_=>none
 |c::cs,s=>if c.1=s then some 0 else(oJ cs s).map (· +1)
def clk(l:Cs)(Ic:List (Int×Int))(s:List Nat):Int×Int:=match oJ l s with
 |none=>(0,6)
 |some i=>Ic.getD i (0,6)
def Mp(l:Cs)(Ic:List (Int×Int))(x:Ex):Int×Int:=if jo x≠0 then(0,jo x)else x.ty (clk l Ic) 0
def pn(l:Cs):Nat→List (Int×Int)
 |0=> []
 |n+1=>pn l n++ [Mp (l.take n) (pn l n) (l.getD n ([],.mk 0 0 [] [])).2]
def Be(l:Cs)(scope:Int)(x:Ex):Int×Int:=if jo x≠0 then(0,jo x)else x.ty (clk l (pn l l.length)) scope
def isLit(x:Ex):Bool:=match x with
 | .mk op _ _ args=>decide (op=1∨op=2∨op=3∨op=4∨op=5)||(decide (op=7)&&(match args with|y::_=>decide (y.op=1∨y.op=2)| []=>false))
def abJ(x:Ex):Int:=match x with
 | .mk op num _ args=>if op=4 then 1 else if op=5 then 0 else if op=7 then(match args with|y::_=> -y.num| []=>0)else num
def ny(op num:Int):Ex:= .mk op num [] []
def vI(k n:Int):Ex:=
 if k=4 then(if n=0 then ny 5 0 else ny 4 0)else if k=3 then ny 3 n
 else if n<0 then .mk 7 0 [] [ny (if k=2 then 2 else 1) (-n)]else ny (if k=2 then 2 else 1) n
def jt(n:Int):Int:=max (-1099511627776) (min 1099511627776 n)
def Wq(a b:Int):Int:=if b=0 then 0 else jt (Int.fdiv a b)
def m5(c f t:Int):Bool:=if f≤t then decide (f≤c∧c<t)else decide (f≤c∨c<t)
def m6(b:Bool):Int:=if b then 1 else 0
def ah5:Int→List Int→Int
 |m,[]=>m
 |m,v::i=>ah5 (min m v) i
def ah6:Int→List Int→Int
 |m,[]=>m
 |m,v::i=>ah6 (max m v) i
def Sq(op:Int)(i:List Int):Int:=
 if op=7 then-a0 i else if op=8 then jt (a0 i+a1 i)else if op=9 then jt (a0 i-a1 i)else if op=10 then jt (a0 i*a1 i)
 else if op=11 then Wq (a0 i) (a1 i)else if op=12 then ah5 (a0 i) i.tail else if op=13 then ah6 (a0 i) i.tail
 else if op=14 then(if a0 i=0 then a2 i else a1 i)else if op=15 then m6 (m5 (a0 i) (a1 i) (a2 i))
 else if op=16 then m6 (decide (a0 i<a1 i))else if op=17 then m6 (decide (a0 i≤a1 i))else if op=18 then m6 (decide (a0 i=a1 i))
 else if op=19 then 1-a0 i else if op=20 then min (a0 i) (a1 i)else if op=21 then max (a0 i) (a1 i)else max (1-a0 i) (a1 i)
def Wr(x:Ex):Bool:=decide (x.op=1∨x.op=2)&&decide (x.num=0)
def ah7(x:Ex):Bool:=decide (x.op=1)&&decide (x.num=1)
def ar5(op:Int)(i:List Ex):Ex:=
 match i with
 | [a]=>if op=19∧a.op=19 then a.args.headD (ny 0 0)else .mk op 0 [] i
 | [a,b]=>
   if op=20 then(if a.op=5∨b.op=5 then ny 5 0 else if a.op=4 then b else if b.op=4 then a else .mk op 0 [] i)
   else if op=21 then(if a.op=4∨b.op=4 then ny 4 0 else if a.op=5 then b else if b.op=5 then a else .mk op 0 [] i)
   else if op=22 then(if a.op=5∨b.op=4 then ny 4 0 else if a.op=4 then b else if b.op=5 then(if a.op=19 then a.args.headD (ny 0 0)else .mk 19 0 [] [a])else .mk op 0 [] i)
   else if op=8 then(if Wr b then a else if Wr a then b else .mk op 0 [] i)
   else if op=9 then(if Wr b then a else .mk op 0 [] i)
   else if op=10 then(if ah7 b then a else if ah7 a then b else .mk op 0 [] i)
   else if op=11 then(if ah7 b then a else .mk op 0 [] i)
   else .mk op 0 [] i
 | [a,b,c]=>if op=14 then(if a.op=4 then b else if a.op=5 then c else .mk op 0 [] i)else .mk op 0 [] i
 |_=> .mk op 0 [] i
mutual
def Ex.fold(cl:List Nat→Int×Int)(cx:List Nat→Ex)(scope:Int):Ex→Ex
 | .mk op num name args=>
   if op=6 then(if lI scope name≠0 then .mk op num name args else cx name)
   else if args.isEmpty then .mk op num name args
   else if(rh cl cx scope args).all isLit then vI ((Ex.mk op num name args).ty cl scope).1 (Sq op ((rh cl cx scope args).map abJ))
   else ar5 op (rh cl cx scope args)
def rh(cl:List Nat→Int×Int)(cx:List Nat→Ex)(scope:Int):List Ex→List Ex
 | []=> []
 |x::xs=>x.fold cl cx scope::rh cl cx scope xs
end
theorem po{k:Nat}(h:k≤1000000):wr .i64 ((k:Int)+1)=((k+1:Nat):Int):=iJ (Nat.lt_of_le_of_lt h (by decide))
theorem abK{a b:Nat}(i:a≤1000000)(r:b≤1000000):wr .i64 ((a:Int)+b)=((a+b:Nat):Int):=by
 rw[jj (by omega)];omega
def qh:Nat:=1000000
theorem nY{k:Nat}(h:k≤100000):k≤qh:=Nat.le_trans h (by decide)
theorem iT{k:Nat}(h:k≤qh):wr .i64 ((k:Int)+1)=((k+1:Nat):Int):=po h
def oK:Nat:=1125899906842624
theorem abL{k:Nat}(h:k≤100000):k≤oK:=Nat.le_trans h (by decide)
theorem DD{k:Nat}(h:k≤oK):wr .i64 ((k:Int)+1)=((k+1:Nat):Int):=iJ (Nat.lt_of_le_of_lt h (by decide))
def DE(n:Nat):List b8:= [⟨1,.cells [.i .i64 (n:Int)] 0 true⟩]
def kf(n level:Nat)(x:Ex):Prop:=n+x.nodes≤200∧level+x.depth≤17
def ja(n level:Nat)(xs:List Ex):Prop:=n+jB xs≤200∧level+oG xs≤17
instance (n level:Nat) (x:Ex):Decidable (kf n level x):=by unfold kf;infer_instance
instance (n level:Nat) (x:List Ex):Decidable (ja n level x):=by unfold ja;infer_instance
theorem vi{xs:List Ex}{k:Nat}(hk:k<xs.length):xs.drop k=xs[k]::xs.drop (k+1):=List.drop_eq_getElem_cons hk
def ar6(level n:Nat)(a:T)(xs:List Ex)(k:Nat)(st:St):Prop:=
 ∃fr lh m,st=⟨fr,lh,DE m⟩∧an fr 1= .i .i64 (level:Int)∧an fr 2= .ptr .S 0 1 0∧an fr 23=a∧an fr 24= .i .i64 (xs.length:Int)∧an fr 25= .i .i64 (k:Int)∧
  k≤m∧m≤200∧(ja m (level+1) (xs.drop k)↔ja n (level+1) xs)∧(ja n (level+1) xs→m+jB (xs.drop k)=n+jB xs)
def ae0(y:Ex):Prop:= ∀(level n:Nat) (cs:List T),mC y cs→n≤200→level≤17→ ∃r:Nat,be pE 180 [.agg cs,.i .i64 (level:Int),.ptr .S 0 1 0] (DE n)=some (.b (decide (kf n level y)),DE r)∧(kf n level y→r=n+y.nodes)
theorem ar7(xs:List Ex)(ih: ∀y∈xs,ae0 y)(a:T)(W:List T)(ha:IsSl a xs.length W)(hx:j3 xs W)(level n:Nat)(hl:level≤16)(hn:n≤200)(o:Out)(X:o=if ja n (level+1) xs then .ext 0 else .ret)(fr:Fr)(lh:gW b8)(sh:List b8)(lC:sh=DE n)
  (J:an fr 1= .i .i64 (level:Int)) (K:an fr 2= .ptr .S 0 1 0) (F:an fr 23=a) (D:an fr 24= .i .i64 (xs.length:Int)) (H:an fr 25= .i .i64 0):
  wJ 36 qO fr lh sh o∧
  ((ja n (level+1) xs→oi pE 36 qO fr lh sh=DE (n+jB xs))∧(¬ja n (level+1) xs→an (tT pE 36 qO fr lh sh) 6= .b false∧ ∃m,oi pE 36 qO fr lh sh=DE m)):=by
 refine jv (P:=fun fr lh sh=>(ja n (level+1) xs→sh=DE (n+jB xs))∧(¬ja n (level+1) xs→an fr 6= .b false∧ ∃m,sh=DE m)) (jR (ar6 level n a xs) _ xs.length ?_ ?_ 0 _ (Nat.zero_le _) ⟨fr,lh,n,by rw[lC],J,K,F,D,H,Nat.zero_le _,hn,Iff.rfl,fun _=>rfl⟩)
 ·rintro k _ hk ⟨fr,lh,m,rfl,J,K,F,D,H,Ws,Y,N,hs⟩
  have Z:(k:Int)<xs.length:=by omega
  have NN:=xs[k].nodes_eq
  have hw:=po (k:=k) (by omega)
  have F1:=po (k:=level) (by omega)
  obtain⟨b,cb,r,iU,mP,sL,hb⟩:=rF ha hx k hk
  obtain⟨m',U,V⟩:=ih xs[k] (List.getElem_mem hk) (level+1) m _ hb Y (by omega)
  rw[vi hk]at N hs
  simp only[ja,jB,oG]at N hs
  by_cases O:kf m (level+1) xs[k]
  ·left
   rw[decide_eq_true O]at U
   simp only[qA,seval,jO,qO,J,K,F,D,H,Z,iU,hw,F1,U,NA,mP.kept1]
   refine⟨_,rfl,_,_,m',rfl, ?_, ?_, ?_, ?_, ?_, ?_, ?_, ?_, ?_⟩
   all_goals first|(simp only[qA,seval,J,K,F,D];done)|skip
   all_goals (rw[V O];unfold kf at O;first|omega|(simp only[ja];omega)|(intro hc;have:=hs (by simpa only[ja]using hc);omega))
  ·right
   rw[decide_eq_false O]at U
   simp only[qA,seval,jO,qO,J,K,F,D,H,Z,iU,F1,U,NA,mP.kept1]
   have xc: ¬ja n (level+1) xs:=by unfold kf at O;unfold ja;omega
   refine⟨_,_,TJ,rfl, ?_,fun hc=>absurd hc xc,fun _=>⟨by simp only[qA,seval],m',rfl⟩⟩
   rw[X,if_neg xc]
 ·rintro _ ⟨fr,lh,m,rfl,J,K,F,D,H,Ws,Y,N,hs⟩
  rw[List.drop_length]at N hs
  have I:ja n (level+1) xs:=N.1 (by unfold ja;rw[jB,oG];omega)
  simp only[qA,seval,qO,D,H,Int.lt_irrefl]
  refine⟨_,_,ui,rfl,by rw[X,if_pos I],fun _=> ?_,fun hc=>absurd I hc⟩
  have:=hs I
  rw[jB,Nat.add_zero]at this
  rw[this]
theorem abM(x:Ex):ae0 x:=by
 induction x using Ex.ind with
 |h x ih=>
  intro level n cs hx hn hl
  obtain⟨a,V,rfl,U,Kb⟩:=hx.cells
  rw[gQ ad9 (by simp[I7])]
  have J:=po (k:=n) (by omega)
  have W:=x.nodes_eq
  have Y:=x.depth_eq
  unfold DE
  by_cases D:(200:Int)<((n+1:Nat):Int)
  ·have r: ¬kf n level x:=by unfold kf;omega
   rw[decide_eq_false r]
   simp only[qA,seval,iY,I7,J,D]
   exact⟨n+1,rfl,fun h=>absurd h r⟩
  ·by_cases F:(16:Int)<(level:Int)
   ·have r: ¬kf n level x:=by unfold kf;omega
    rw[decide_eq_false r]
    simp only[qA,seval,iY,I7,J,D,F]
    exact⟨n+1,rfl,fun h=>absurd h r⟩
   ·have Kc:kf n level x↔ja (n+1) (level+1) x.args:=by unfold kf ja;omega
    have H:=fun fr lh sh I=>ar7 x.args ih a V U Kb level (n+1) (by omega) (by omega) _ rfl fr lh sh I
    unfold DE at H
    by_cases r:ja (n+1) (level+1) x.args
    ·rw[decide_eq_true (Kc.2 r)]
     simp only[r,if_true,forall_const,not_true_eq_false,false_implies,and_true]at H
     simp only[qA,seval,iY,I7,J,D,F,U.lenI,H]
     exact⟨n+1+jB x.args,rfl,fun _=>by omega⟩
    ·rw[decide_eq_false (fun h=>r (Kc.1 h))]
     simp only[r,if_false,forall_const,not_false_eq_true,false_implies,true_and]at H
     have hL2:=fun fr lh sh I D F K N O=>(H fr lh sh I D F K N O).2.2
     have Ox:=fun fr lh sh I D F K N O=>And.intro (H fr lh sh I D F K N O).1 (H fr lh sh I D F K N O).2.1
     simp only[qA,seval,iY,I7,J,D,F,U.lenI,Ox]
     generalize Z:oi _ _ _ _ _ _=X
     obtain⟨m,hm⟩: ∃m:Nat,X= [⟨1,.cells [.i .i64 (m:Int)] 0 true⟩]:=by
      rw[←Z]
      refine hL2 _ _ _ rfl ?_ ?_ ?_ ?_ ?_ <;> simp only[qA,seval]
     rw[hm]
     exact⟨m,rfl,fun h=>absurd (Kc.1 h) r⟩
mutual
def Ex.sz:Ex→Nat→Nat×Nat
 | .mk _ _ _ args,level=>if 16<level then(1,1)else BV args level (1,1)
def BV:List Ex→Nat→Nat×Nat→Nat×Nat
 | [],_,p=>p
 |x::xs,level,p=>if p.1≤200 then BV xs level (p.1+(x.sz (level+1)).1,max p.2 ((x.sz (level+1)).2+1))else p
end
theorem Ex.sz_eq(x:Ex)(level:Nat):x.sz level=if 16<level then(1,1)else BV x.args level (1,1):=by obtain⟨_,_,_,_⟩:=x;rw[Ex.sz];rfl
theorem aia{xs:List Ex}{level:Nat}(ih: ∀y∈xs,(y.sz (level+1)).1≤1+200*(17-(level+1))∧(y.sz (level+1)).2≤18-(level+1))(r:level≤16): ∀p:Nat×Nat,p.1≤1+200*(17-level)→p.2≤18-level→(BV xs level p).1≤1+200*(17-level)∧(BV xs level p).2≤18-level:=by
 induction xs with
 |nil=>grind [BV]
 |cons y D UN=>
  intro p F H
  rw[BV]
  have I:=ih y (by simp)
  split
  ·refine UN (fun z i=>ih z (by simp[i])) _ ?_ ?_ <;> simp only <;> omega
  ·grind
theorem ar8(x:Ex): ∀level,level≤17→(x.sz level).1≤1+200*(17-level)∧(x.sz level).2≤18-level:=by
 induction x using Ex.ind with
 |h x ih=>
  intro level r
  rw[Ex.sz_eq]
  split
  ·grind
  ·exact aia (fun y i=>ih y i (level+1) (by omega)) (by omega) _ (by simp only;omega) (by simp only;omega)
theorem aib(x:Ex){level:Nat}(h:level≤17):(x.sz level).1≤4000∧(x.sz level).2≤18:=by
 grind [ar8]
theorem DF: ∀(xs:List Ex) (level:Nat) (p:Nat×Nat),p.1≤(BV xs level p).1∧p.2≤(BV xs level p).2
 | [],level,p=>by rw[BV];simp
 |x::xs,level,p=>by
  rw[BV]
  split
  ·have:=DF xs level (p.1+(x.sz (level+1)).1,max p.2 ((x.sz (level+1)).2+1))
   grind
  ·simp
def ar9(x:Ex):Prop:= ∀level,level≤17→if kf 0 level x then x.sz level=(x.nodes,x.depth)else 200<(x.sz level).1∨17<level+(x.sz level).2
theorem aic{xs:List Ex}{level:Nat}(ih: ∀y∈xs,ar9 y)(N:level≤16): ∀p:Nat×Nat,1≤p.2→p.1≤200→
  if ja p.1 (level+1) xs then BV xs level p=(p.1+jB xs,max p.2 (oG xs+1))else 200<(BV xs level p).1∨17<level+(BV xs level p).2:=by
 induction xs with
 |nil=>
  grind [ja,jB,oG,BV,Nat.max_eq_left]
 |cons y r UN=>
  intro p O I
  have H:=ih y (by simp) (level+1) (by omega)
  have Y5:=UN fun z J=>ih z (by simp[J])
  have Wt:=DF r level (p.1+(y.sz (level+1)).1,max p.2 ((y.sz (level+1)).2+1))
  rw[BV,if_pos I]
  by_cases D:kf 0 (level+1) y
  ·rw[if_pos D]at H
   rw[H]at Wt ⊢
   simp only at Wt ⊢
   by_cases K:p.1+y.nodes≤200
   ·have:=Y5 (p.1+y.nodes,max p.2 (y.depth+1)) (by simp only;omega) K
    simp only at this
    by_cases F:ja (p.1+y.nodes) (level+1) r
    ·rw[if_pos F]at this
     have i:ja p.1 (level+1) (y::r):=by unfold ja at F ⊢; unfold kf at D;rw[jB,oG];omega
     rw[if_pos i,this,jB,oG]
     refine Prod.ext ?_ ?_ <;> simp only <;> omega
    ·rw[if_neg F]at this
     have i: ¬ja p.1 (level+1) (y::r):=by unfold ja at F ⊢; unfold kf at D;rw[jB,oG];omega
     rw[if_neg i];exact this
   ·have i: ¬ja p.1 (level+1) (y::r):=by unfold ja;rw[jB,oG];omega
    rw[if_neg i];omega
  ·rw[if_neg D]at H
   have i: ¬ja p.1 (level+1) (y::r):=by unfold ja;unfold kf at D;rw[jB,oG];omega
   rw[if_neg i]
   simp only at Wt;omega
theorem asa(x:Ex):ar9 x:=by
 induction x using Ex.ind with
 |h x ih=>
  intro level H
  have D:=x.nodes_eq
  have F:=x.depth_eq
  rw[Ex.sz_eq]
  by_cases h:16<level
  ·grind [kf]
  ·rw[if_neg h]
   have:=aic ih (level:=level) (by omega) (1,1) (by simp) (by simp)
   simp only at this
   by_cases i:ja 1 (level+1) x.args
   ·rw[if_pos i]at this
    have r:kf 0 level x:=by unfold ja at i;unfold kf;omega
    rw[if_pos r,this]
    refine Prod.ext ?_ ?_ <;> simp only <;> omega
   ·rw[if_neg i]at this
    have r: ¬kf 0 level x:=by unfold ja at i;unfold kf;omega
    rw[if_neg r];exact this
theorem aid(x:Ex):(200<(x.sz 1).1∨16<(x.sz 1).2)↔big x:=by
 have:=asa x 1 (by omega)
 grind [big,kf]
def szP(y:Ex):Prop:= ∀(level:Nat) (cs:List T),mC y cs→level≤17→be pE 209 [.agg cs,.i .i64 (level:Int)] []=some (.tup [.i .i64 ((y.sz level).1:Int),.i .i64 ((y.sz level).2:Int)],[])
theorem asb(xs:List Ex)(ih: ∀y∈xs,szP y)(a:T)(cc:List T)(U:IsSl a xs.length cc)(hx:j3 xs cc)(level:Nat)(hl:level≤16)(op num:Int)(s:List Nat)(g:Nat)(fr:Fr)(lh:gW b8)(sh:List b8)
  (J:an fr 1= .i .i64 (level:Int)) (F:an fr 2= .ptr .L 2 g 0) (I:an fr 6= .i .i64 1) (K:an fr 7= .i .i64 1) (N:an fr 8= .i .i64 0) (W:b7 lh 2=⟨g,.cells [.i .i64 op,.i .i64 num,.s s,a] 0 true⟩):
  wJ 44 oO fr lh sh (.ext 0)∧
  (an (tT pE 44 oO fr lh sh) 6= .i .i64 ((BV xs level (1,1)).1:Int)∧an (tT pE 44 oO fr lh sh) 7= .i .i64 ((BV xs level (1,1)).2:Int)∧nE pE 44 oO fr lh sh=lh∧oi pE 44 oO fr lh sh=sh):=by
 refine jv (P:=fun fr iI iE=>an fr 6= .i .i64 ((BV xs level (1,1)).1:Int)∧an fr 7= .i .i64 ((BV xs level (1,1)).2:Int)∧iI=lh∧iE=sh) (jR (fun k st=> ∃(fr:Fr) (p:Nat×Nat),st=⟨fr,lh,sh⟩∧an fr 1= .i .i64 (level:Int)∧an fr 2= .ptr .L 2 g 0∧an fr 6= .i .i64 (p.1:Int)∧an fr 7= .i .i64 (p.2:Int)∧an fr 8= .i .i64 (k:Int)∧
   BV (xs.drop k) level p=BV xs level (1,1)∧k≤p.1∧p.2≤19∧p.1≤4300) _ xs.length ?_ ?_ 0 _ (Nat.zero_le _) ⟨fr,(1,1),rfl,J,F,I,K,N,rfl,by simp,by simp,by simp⟩)
 ·rintro k _ hk ⟨fr,p,rfl,J,F,I,K,N,D,hp,Y,Z⟩
  have iP:(k:Int)<xs.length:=by omega
  obtain⟨b,cb,r,iU,mP,sL,hb⟩:=rF U hx k hk
  have gU:=ih xs[k] (List.getElem_mem hk) (level+1) _ hb (by omega)
  have vY:=aib xs[k] (level:=level+1) (by omega)
  have wv:1≤(xs[k].sz (level+1)).1:=by
   rw[Ex.sz_eq];split
   ·simp
   ·exact(DF xs[k].args (level+1) (1,1)).1
  rw[vi hk,BV]at D
  generalize xs[k].sz (level+1)=q at gU vY wv D
  obtain⟨hq1,hq2⟩:=vY
  by_cases X:p.1≤200
  ·left
   have H:(p.1:Int)≤200:=by omega
   have hw:=po (k:=k) (Nat.le_trans hp (Nat.le_trans X (by decide)))
   have F1:=po (k:=level) (Nat.le_trans hl (by decide))
   have V:=po (k:=q.2) (Nat.le_trans hq2 (by decide))
   have Za:=abK (a:=p.1) (b:=q.1) (Nat.le_trans X (by decide)) (Nat.le_trans hq1 (by decide))
   rw[if_pos X]at D
   by_cases O:(p.2:Int)<((q.2+1:Nat):Int)
   ·have aEo:(p.2:Int)<((q.2+1:Nat):Int):=O
    simp only[qA,seval,oO,J,F,I,K,N,W,iP,U.lenI,H,iU,hw,F1,V,Za,gU,T7,mP.froz1,O]
    refine⟨_,rfl,_,(p.1+q.1,q.2+1),rfl, ?_, ?_, ?_, ?_, ?_, ?_, ?_, ?_, ?_⟩
    all_goals first|(simp only[qA,seval,J,F];done)|skip
    ·grind
    all_goals (simp only;omega)
   ·simp only[qA,seval,oO,J,F,I,K,N,W,iP,U.lenI,H,iU,hw,F1,V,Za,gU,T7,mP.froz1,O]
    refine⟨_,rfl,_,(p.1+q.1,p.2),rfl, ?_, ?_, ?_, ?_, ?_, ?_, ?_, ?_, ?_⟩
    all_goals first|(simp only[qA,seval,J,F];done)|skip
    ·grind
    all_goals (simp only;omega)
  ·right
   have H: ¬(p.1:Int)≤200:=by omega
   rw[if_neg X]at D
   simp only[qA,seval,oO,F,I,N,W,iP,U.lenI,H]
   exact⟨_,_,ui,rfl,rfl,by simp only[qA,seval,I,←D],by simp only[qA,seval,K,←D],rfl,rfl⟩
 ·rintro _ ⟨fr,p,rfl,J,F,I,K,N,D,hp,Y,Z⟩
  rw[List.drop_length,BV]at D
  simp only[qA,seval,oO,F,N,W,U.lenI,Int.lt_irrefl]
  exact⟨_,_,ui,rfl,rfl,by simp only[qA,seval,I,←D],by simp only[qA,seval,K,←D],rfl,rfl⟩
end Go.Proofs.YtcpceiclnbmgiaaGreat
