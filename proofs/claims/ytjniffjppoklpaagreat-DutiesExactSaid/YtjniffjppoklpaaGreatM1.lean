/- Walks of functions of the program and of the reference, and their plain laws, part 1. Conditions: the theorems' own. -/
import Derived.Test.YtjniffjppoklpaaGreatGS
import Derived.KernelRfl
set_option maxRecDepth 100000
set_option linter.unusedSimpArgs false
set_option linter.unusedVariables false
set_option maxHeartbeats 16000000
namespace Go.Proofs.YtjniffjppoklpaaGreat
open Go Go.Ev
theorem kQ{m f:Nat}{args:List T}{r:T×List iy}(h:kM pE m f args []=some r):be pE f args []=some r:=DCall_iff.2 ⟨m,h⟩
inductive Ex where
 |mk (op num:Int) (name:List Nat) (args:List Ex)
def Ex.op:Ex→Int| .mk o _ _ _=>o
def Ex.num:Ex→Int| .mk _ n _ _=>n
def Ex.name:Ex→List Nat| .mk _ _ s _=>s
def Ex.args:Ex→List Ex| .mk _ _ _ a=>a
mutual
def mE:Ex→List T→Prop
 | .mk op num name args,cs=> ∃a r,cs= [.i .i64 op,.i .i64 num,.s name,a]∧iJ a args.length r∧kz args r
def kz:List Ex→List T→Prop
 | [],cs=>cs= []
 |x::xs,cs=> ∃c r,cs=c++r∧mE x c∧kz xs r
end
theorem mE.cells{x:Ex}{cs:List T}(h:mE x cs): ∃a r,cs= [.i .i64 x.op,.i .i64 x.num,.s x.name,a]∧iJ a x.args.length r∧kz x.args r:=by
 obtain⟨o,n,s,a⟩:=x
 rw[mE]at h
 exact h
theorem mE.of{x:Ex}{a:T}{r:List T}(D:iJ a x.args.length r)(E:kz x.args r):mE x [.i .i64 x.op,.i .i64 x.num,.s x.name,a]:=by
 obtain⟨o,n,s,l⟩:=x
 rw[mE]
 exact⟨a,r,rfl,D,E⟩
theorem mE.len{x:Ex}{cs:List T}(h:mE x cs):cs.length=4:=by
 obtain⟨a,r,rfl,_⟩:=h.cells;rfl
theorem kz.len: ∀{xs:List Ex} {cs:List T},kz xs cs→cs.length=xs.length*4
 | [],cs,h=>by grind [kz]
 |x::xs,cs,h=>by
  rw[kz]at h
  obtain⟨c,r,rfl,D,E⟩:=h
  rw[List.length_append,D.len,E.len,List.length_cons];omega
theorem kz.cons{x:Ex}{xs:List Ex}{c r:List T}(D:mE x c)(E:kz xs r):kz (x::xs) (c++r):=by
 grind [kz]
theorem kz.drop: ∀{xs:List Ex} {cs:List T} (k:Nat) (D:k<xs.length),kz xs cs→ ∃c r,cs.drop (k*4)=c++r∧mE xs[k] c∧kz (xs.drop (k+1)) r
 | [],cs,k,D,h=>by simp at D
 |x::xs,cs,0,D,h=>by
  grind [kz]
 |x::xs,cs,k+1,D,h=>by
  rw[kz]at h
  obtain⟨c,r,rfl,E,F⟩:=h
  obtain⟨H,I,e,J,K⟩:=kz.drop k (by simpa using D) F
  refine⟨H,I, ?_,J,by simpa using K⟩
  have:(k+1)*4=c.length+k*4:=by rw[E.len];omega
  grind [List.drop_append,Nat.add_sub_cancel_left,List.drop_eq_nil_of_le]
theorem nY{xs:List Ex}{a:T}{E:List T}(J:iJ a xs.length E)(F:kz xs E)(k:Nat)(H:k<xs.length):
  ∃b D r,(∀kk,ng a (.i kk (k:Int)) 4=some (.vp (.i .i64 xs[k].op:: .i .i64 xs[k].num:: .s xs[k].name::b::r)))∧iJ b xs[k].args.length D∧kz xs[k].args D∧mE xs[k] [.i .i64 xs[k].op,.i .i64 xs[k].num,.s xs[k].name,b]:=by
 obtain⟨c,r,e,I,O⟩:=kz.drop k H F
 obtain⟨b,D,rfl,K,N⟩:=I.cells
 refine⟨b,D,r,fun kk=> ?_,K,N,I⟩
 rw[J.ia (sz:=4) F.len H,e];rfl
mutual
def Ex.nodes:Ex→Nat
 | .mk _ _ _ args=>1+jX args
def jX:List Ex→Nat
 | []=>0
 |x::xs=>x.nodes+jX xs
end
mutual
def Ex.depth:Ex→Nat
 | .mk _ _ _ args=>1+qd args
def qd:List Ex→Nat
 | []=>0
 |x::xs=>max x.depth (qd xs)
end
theorem Ex.nodes_eq(x:Ex):x.nodes=1+jX x.args:=by obtain⟨_,_,_,_⟩:=x;rw[Ex.nodes];rfl
theorem Ex.depth_eq(x:Ex):x.depth=1+qd x.args:=by obtain⟨_,_,_,_⟩:=x;rw[Ex.depth];rfl
theorem kB: ∀xs:List Ex,xs.length≤jX xs
 | []=>by simp
 |x::xs=>by
  have:=kB xs
  rw[jX,List.length_cons,x.nodes_eq];omega
theorem nz: ∀{xs:List Ex} {x:Ex},x∈xs→x.nodes≤jX xs
 |y::xs,x,h=>by
  rw[jX]
  rcases List.mem_cons.1 h with rfl|h
  ·omega
  ·have:=nz h;omega
theorem Ex.ind{P:Ex→Prop}(h: ∀x:Ex,(∀y∈x.args,P y)→P x)(x:Ex):P x:=by
 have: ∀n (x:Ex),x.nodes≤n→P x:=by
  intro n
  induction n with
  |zero=>intro x r;rw[x.nodes_eq]at r;omega
  |succ n ih=>
   intro x r
   refine h x fun y D=>ih y ?_
   have:=nz D
   rw[x.nodes_eq]at r;omega
 exact this _ x (Nat.le_refl _)
def GR(c:Nat):Prop:=(97:Int)≤c∧(c:Int)≤122
def Jl(c:Nat):Prop:=(48:Int)≤c∧(c:Int)≤57
instance (c:Nat):Decidable (GR c):=by unfold GR;infer_instance
instance (c:Nat):Decidable (Jl c):=by unfold Jl;infer_instance
def yu(c:Nat):Bool:=decide (GR c∨Jl c∨(c:Int)=95)
def pO:List Nat→Bool
 | []=>false
 |c::cs=>decide (cs.length<16)&&(decide (GR c)&&cs.all yu)
theorem Mt(c:Nat):be pE 130 [.i .u8 c] []=some (.b (decide (GR c)),[]):=by
 rw[iD agS (by simp[Sq])]
 by_cases r:(97:Int)≤c
 ·by_cases D:(c:Int)≤122 <;> simp only[qA,seval,Sq,r,D,GR]
 ·simp only[qA,seval,Sq,r,GR]
theorem HQ(c:Nat):be pE 131 [.i .u8 c] []=some (.b (decide (Jl c)),[]):=by
 rw[iD agT (by simp[Sr])]
 by_cases r:(48:Int)≤c
 ·by_cases D:(c:Int)≤57 <;> simp only[qA,seval,Sr,r,D,Jl]
 ·simp only[qA,seval,Sr,r,Jl]
theorem yw{s:List Nat}{k:Nat}(r:k<s.length)(kk:IntKind):GP (.s s) (.i kk (k:Int))=some (.i .u8 (s[k]:Int)):=by
 rw[OT,if_pos (Int.natCast_nonneg k),Int.toNat_natCast,List.getElem?_eq_getElem r];rfl
theorem iX{k:Nat}(h:k<4611686018427387904):wr .i64 ((k:Int)+1)=((k+1:Nat):Int):=by rw[jE (by omega)];omega
theorem aly(s:List Nat)(hs:s.length≤16)(fr:Fr)(lh:iL iy)(sh:List iy)(I:an fr 0= .s s)(O:an fr 3= .i .i64 0):
  Zv pE 42 Ey fr lh sh 0 2 (s.all yu=true) (.b false) (fun E F=>E=lh∧F=sh):=by
 refine sd VI (by simp[jg]) (fun k f E F=>an f 3= .i .i64 (k:Int)∧E=lh∧F=sh∧s.all yu=(s.drop k).all yu) s.length ⟨O,rfl,rfl,rfl⟩ ?_ ?_
 ·rintro k f _ _ J r ⟨H,rfl,rfl,D⟩
  have U:(k:Int)<s.length:=by omega
  have V:=iX (k:=k) (by omega)
  have K:=j3 (Mt s[k])
  have N:=j3 (HQ s[k])
  rw[List.drop_eq_getElem_cons J,List.all_cons]at D
  simp only[qB,seval,gd,Ey,r,I,H,U,yw J,V,K,N,W4,agU]
  clear r K N
  unfold yu at*
  grind
 ·rintro f _ _ r ⟨H,rfl,rfl,D⟩
  rw[List.drop_length,List.all_nil]at D
  simp only[qB,seval,gd,Ey,r,I,H,Int.lt_irrefl,D]
theorem Az(s:List Nat):be pE 96 [.s s] []=some (.b (pO s),[]):=by
 rw[iD asg (by simp[c96])]
 cases s with
 |nil=>simp only[qA,seval,c96,pO]
 |cons c cs=>
  have TV:GP (.s (c::cs)) (.i .i64 0)=some (.i .u8 (c:Int)):=by rw[OT];rfl
  have r:=j3 (Mt c)
  unfold pO
  by_cases E:cs.length<16
  ·have D:=aly (c::cs) (by simp;omega)
   simp only[qB,seval,c96,TV,r,W4,D]
   clear D r
   grind [yu]
  ·simp only[qB,seval,c96,TV,r,W4]
   clear r
   grind
def chC(k:Nat)(c:Nat):Bool:=decide (GR c)||(decide (0<k)&&yu c)
def GS:Nat→List Nat→Bool
 |_,[]=>true
 |k,c::cs=>chC k c&&GS (k+1) cs
theorem Mu: ∀(cs:List Nat) (k:Nat),0<k→GS k cs=cs.all yu
 | [],k,h=>rfl
 |c::cs,k,h=>by
  rw[GS,List.all_cons,Mu cs (k+1) (by omega)]
  congr 1
  unfold chC
  by_cases r:GR c <;> simp[h,r,yu]
theorem alz(s:List Nat)(hs:s.length≤16)(fr:Fr)(lh:iL iy)(sh:List iy)(K:an fr 0= .s s)(I:an fr 14= .i .i64 (s.length:Int))(N:an fr 15= .i .i64 0):
  Zv pE 44 Eu fr lh sh 0 2 (GS 0 s=true) (.b false) (fun E F=>E=lh∧F=sh):=by
 refine sd VD (by simp[jg]) (fun k f E F=>an f 15= .i .i64 (k:Int)∧E=lh∧F=sh∧GS 0 s=GS k (s.drop k)) s.length ⟨N,rfl,rfl,rfl⟩ ?_ ?_
 ·rintro k f _ _ J r ⟨H,rfl,rfl,D⟩
  have O:(k:Int)<s.length:=by omega
  have U:=iX (k:=k) (by omega)
  rw[List.drop_eq_getElem_cons J,GS]at D
  simp only[qB,seval,gd,Eu,r,K,I,H,O,yw J,U]
  clear r
  unfold chC yu GR Jl at*
  grind (splits:=30)
 ·rintro f _ _ r ⟨H,rfl,rfl,D⟩
  rw[List.drop_length,GS]at D
  simp only[qB,seval,gd,Eu,r,I,H,Int.lt_irrefl,D]
theorem AA(s:List Nat):be pE 81 [.s s] []=some (.b (pO s),[]):=by
 rw[iD ar1 (by simp[c81])]
 have E:pO s=(decide (s.length≤16)&&decide (1≤s.length)&&GS 0 s):=by
  cases s with
  |nil=>rfl
  |cons c cs=>rw[GS,Mu cs 1 (by omega)];unfold pO chC;grind
 by_cases D:s.length≤16
 ·have r:=alz s D
  simp only[qB,seval,c81,r]
  clear r
  grind
 ·simp only[qB,seval,c81]
  grind
def alA:List (List Nat):= [[97,110,100],[111,114],[110,111,116],[105,109,112,108,105,101,115],[105,110],[116,111],[116,114,117,101],[102,97,108,115,101],[109,105,110],[109,97,120],[105,102],[116,104,101,110],[101,108,115,101]]
def aeT:List (List Nat):= [[108,101,103,115],[104,101,97,100,115],[116,121,112,101,115]]
def aeU:List (List Nat):= [[98,108,111,99,107],[115,112,97,110],[110,105,103,104,116],[108,111,110,103,101,115,116],[115,104,111,114,116,101,115,116],[115,104,105,102,116]]
def aeV:List (List Nat):= [[115,116,97,114,116],[101,110,100]]
def Q3:List (List Nat):= [[100,117,116,105,101,115],[108,101,103,115],[104,101,97,100,115],[100,97,121,115]]
def Q4:List (List Nat):= [[98,108,111,99,107],[115,112,97,110],[99,114,101,100,105,116]]
def jI:List (List Nat):= [[108,101,103,115],[104,101,97,100,115],[116,121,112,101,115],[98,108,111,99,107],[115,112,97,110],[110,105,103,104,116],[108,111,110,103,101,115,116],[115,104,111,114,116,101,115,116],[115,104,105,102,116],[115,116,97,114,116],[101,110,100]]
def mg:List (List Nat):= [[114,101,115,116],[110,105,103,104,116,115],[104,111,109,101],[98,101,102,111,114,101,46,108,101,103,115],[98,101,102,111,114,101,46,104,101,97,100,115],[98,101,102,111,114,101,46,116,121,112,101,115],[98,101,102,111,114,101,46,98,108,111,99,107],[98,101,102,111,114,101,46,115,112,97,110],[98,101,102,111,114,101,46,110,105,103,104,116],[98,101,102,111,114,101,46,108,111,110,103,101,115,116],[98,101,102,111,114,101,46,115,104,111,114,116,101,115,116],[98,101,102,111,114,101,46,115,104,105,102,116],[98,101,102,111,114,101,46,115,116,97,114,116],[98,101,102,111,114,101,46,101,110,100],[97,102,116,101,114,46,108,101,103,115],[97,102,116,101,114,46,104,101,97,100,115],[97,102,116,101,114,46,116,121,112,101,115],[97,102,116,101,114,46,98,108,111,99,107],[97,102,116,101,114,46,115,112,97,110],[97,102,116,101,114,46,110,105,103,104,116],[97,102,116,101,114,46,108,111,110,103,101,115,116],[97,102,116,101,114,46,115,104,111,114,116,101,115,116],[97,102,116,101,114,46,115,104,105,102,116],[97,102,116,101,114,46,115,116,97,114,116],[97,102,116,101,114,46,101,110,100]]
def qH:List (List Nat):= [[100,117,116,105,101,115],[108,101,103,115],[104,101,97,100,115],[100,97,121,115],[98,108,111,99,107],[115,112,97,110],[99,114,101,100,105,116]]
def Zw(s:List Nat):Bool:=decide (s∈alA)
def tA(s:List Nat):Bool:=pO s&& !Zw s
def rj(s:List Nat):Int:=if s∈aeT then 1 else if s∈aeU then 2 else if s∈aeV then 3 else 0
def AB(s:List Nat):Int:=if s∈Q3 then 1 else if s∈Q4 then 2 else 0
def N2:List Nat:= [98,101,102,111,114,101,46]
def O8:List Nat:= [97,102,116,101,114,46]
def vz(p s:List Nat):Prop:=p.length≤s.length∧s.take p.length=p
instance (p s:List Nat):Decidable (vz p s):=by unfold vz;infer_instance
def AD(s:List Nat):Int:=if s= [114,101,115,116]then 2 else if s= [110,105,103,104,116,115]then 1 else if s= [104,111,109,101]then 4 else if vz N2 s then rj (s.drop 7)else if vz O8 s then rj (s.drop 6)else 0
def lu(scope:Int)(s:List Nat):Int:=if scope=1 then rj s else if scope=2 then AD s else if scope=3 then AB s else 0
theorem aeW(s:List Nat):be pE 152 [.s s] []=some (.b (Zw s),[]):=by
 rw[iD ahj (by simp[Wf])]
 simp only[qB,seval,Wf,Zw,alA,List.mem_cons,List.not_mem_nil,or_false]
 grind (splits:=40)
theorem AE(s:List Nat):be pE 91 [.s s] []=some (.i .i64 (rj s),[]):=by
 rw[iD asb (by simp[c91])]
 simp only[qB,seval,c91,rj,aeT,aeU,aeV,List.mem_cons,List.not_mem_nil,or_false]
 grind (splits:=40)
theorem Zx(s:List Nat):be pE 93 [.s s] []=some (.i .i64 (AB s),[]):=by
 rw[iD asd (by simp[c93])]
 simp only[qB,seval,c93,AB,Q3,Q4,List.mem_cons,List.not_mem_nil,or_false]
 grind (splits:=40)
theorem aeX(s:List Nat):be pE 132 [.s s] []=some (.b (Zw s),[]):=by
 rw[iD agV (by simp[V2])]
 simp only[qB,seval,kG,repl,V2,xE,Qf,Zw,alA,List.mem_cons,List.not_mem_nil,or_false]
 grind (splits:=40)
theorem tY(s:List Nat):be pE 120 [.s s] []=some (.b (tA s),[]):=by
 rw[iD agK (by simp[VY])]
 cases h:pO s <;> simp only[qA,seval,VY,AA,aeW,WK,asN,h,tA]
theorem tZ(s:List Nat):be pE 102 [.s s] []=some (.b (tA s),[]):=by
 rw[iD agv (by simp[VL])]
 cases h:pO s <;> simp only[qA,seval,VL,Az,aeX,SX,asG,h,tA]
theorem HR(s p:List Nat):be pE 175 [.s s,.s p] []=some (.b (decide (vz p s)),[]):=by
 rw[iD ahG (by simp[SJ])]
 by_cases h:p.length≤s.length
 ·have r:(p.length:Int)≤s.length:=by omega
  simp only[qA,seval,vg,SJ,h,r,vz,Nat.sub_zero]
 ·have r: ¬(p.length:Int)≤s.length:=by omega
  simp only[qA,seval,SJ,h,r,vz]
theorem HS(s p:List Nat):be pE 124 [.s s,.s p] []=some (if vz p s then .tup [.s (s.drop p.length),.b true]else .tup [.s s,.b false],[]):=by
 rw[iD agP (by simp[V0])]
 have r:be pE 155 [.s s,.s p] []=some (if vz p s then .tup [.s (s.drop p.length),.b true]else .tup [.s s,.b false],[]):=by
  rw[iD ahm (by simp[Sz])]
  by_cases h:vz p s
  ·have D:p.length≤s.length:=h.1
   have E:List.take (s.length-p.length) (s.drop p.length)=s.drop p.length:=List.take_of_length_le (by simp)
   simp only[qA,seval,vg,Sz,HR,ahH,h,D,E]
  ·simp only[qA,seval,Sz,HR,ahH,h]
 by_cases h:vz p s <;> simp only[h]at r <;> simp only[qA,seval,V0,r,asQ,h]
theorem Zy(s:List Nat):be pE 92 [.s s] []=some (.i .i64 (AD s),[]):=by
 by_cases E:s= [114,101,115,116]
 ·subst E;exact kQ (m:=100) (kN (by kernel_rfl))
 ·by_cases F:s= [110,105,103,104,116,115]
  ·subst F;exact kQ (m:=100) (kN (by kernel_rfl))
  ·by_cases H:s= [104,111,109,101]
   ·subst H;exact kQ (m:=100) (kN (by kernel_rfl))
   ·have r:=HS s N2
    have D:=HS s O8
    have K:N2.length=7:=rfl
    have N:O8.length=6:=rfl
    rw[AD,if_neg E,if_neg F,if_neg H]
    rw[iD asc (by simp[c92])]
    rw[K]at r
    rw[N]at D
    by_cases I:vz N2 s
    ·rw[if_pos I]at r
     unfold N2 at r
     simp only[qA,seval,c92,E,F,H,r,AE,WY,acI,I]
    ·rw[if_neg I]at r
     by_cases J:vz O8 s
     ·rw[if_pos J]at D
      unfold N2 at r
      unfold O8 at D
      simp only[qA,seval,c92,E,F,H,r,D,AE,WY,acI,I,J]
     ·rw[if_neg J]at D
      unfold N2 at r
      unfold O8 at D
      simp only[qA,seval,c92,E,F,H,r,D,AE,WY,acI,I,J]
def ua(scope:Int)(s:List Nat):Int:=if lu scope s=0 then 6 else 0
theorem Mv(scope:Int)(s:List Nat):be pE 54 [.i .i64 scope,.s s] []=some (.tup [.i .i64 (lu scope s),.i .i64 (ua scope s)],[]):=by
 rw[iD arG (by simp[c54])]
 by_cases r:scope=1
 ·by_cases h:rj s=0 <;> simp only[qA,seval,c54,r,ua,lu,AE,acI,h]
 ·by_cases D:scope=2
  ·by_cases h:AD s=0 <;> simp only[qA,seval,c54,D,ua,lu,Zy,aAJ,h]
  ·by_cases E:scope=3
   ·by_cases h:AB s=0 <;> simp only[qA,seval,c54,E,ua,lu,Zx,aAK,h]
   ·simp only[qA,seval,c54,r,D,E,ua,lu]
def strs(l:List (List Nat)):List T:=l.map T.s
theorem FA(l:List (List Nat)):(strs l).length=l.length:=by simp[strs]
theorem HT(l:List (List Nat))(k:Nat)(r:k<l.length):(strs l).drop k=T.s l[k]::(strs l).drop (k+1):=by
 rw[List.drop_eq_getElem_cons (by rw[FA];exact r)];simp[strs]
theorem FB:be pE 136 [.i .i64 1] []=some (.sl (strs jI) 11 true,[]):=kQ (m:=100) (kN (by kernel_rfl))
theorem yV:be pE 136 [.i .i64 2] []=some (.sl (strs mg) 25 false,[]):=kQ (m:=100) (kN (by kernel_rfl))
theorem O9:be pE 136 [.i .i64 3] []=some (.sl (strs qH) 7 true,[]):=kQ (m:=100) (kN (by kernel_rfl))
theorem Pa(scope:Int)(r:scope≠1)(D:scope≠2)(E:scope≠3):be pE 136 [.i .i64 scope] []=some (.nilsl,[]):=by
 rw[iD ag0 (by simp[V5])]
 simp only[qA,seval,repl,V5,r,D,E]
theorem Zz(s:List Nat)(v:T)(l:List (List Nat))(r:iJ v l.length (strs l))(V:l.length<1000)(hs:s∉l)(fr:Fr)(lh:iL iy)(sh:List iy)(I:an fr 1= .s s)(H:an fr 6=v)(J:an fr 7= .i .i64 0):
  Lp pE 69 uN fr lh sh (.ext 0) fun f l s=>l=lh∧s=sh:=by
 refine kO Sh (fun k f l s=>an f 7= .i .i64 (k:Int)∧l=lh∧s=sh) l.length ⟨J,rfl,rfl⟩ ?_ ?_
 ·rintro k f _ _ D E ⟨F,rfl,rfl⟩
  have K:(k:Int)<l.length:=by omega
  have N:=iX (k:=k) (by omega)
  have O: ¬l[k]=s:=fun e=>hs (e▸List.getElem_mem D)
  have U: ∀kk,ng v (.i kk (k:Int)) 1=some (.vp (T.s l[k]::(strs l).drop (k+1))):=fun kk=>by rw[r.ia (sz:=1) (by rw[FA];omega) D,Nat.mul_one,HT l k D]
  simp only[qB,seval,gd,uN,E,I,H,F,r.lenI,K,U,O,N]
 ·rintro f _ _ E ⟨F,rfl,rfl⟩
  simp only[qB,seval,gd,uN,E,H,F,r.lenI,Int.lt_irrefl]
theorem AF(s:List Nat):be pE 105 [.i .i64 1,.s s] []=some (.tup [.i .i64 (rj s),.i .i64 (if rj s=0 then 6 else 0)],[]):=by
 rw[iD EB (by simp[wa])]
 simp only[qB,seval,vg,kG,repl,wa,FB,EC,xE,uN,strs,jI,rj,aeT,aeU,aeV,List.mem_cons,List.not_mem_nil,or_false]
 grind (splits:=40)
theorem TW(s:List Nat):be pE 105 [.i .i64 3,.s s] []=some (.tup [.i .i64 (AB s),.i .i64 (if AB s=0 then 6 else 0)],[]):=by
 rw[iD EB (by simp[wa])]
 simp only[qB,seval,vg,kG,repl,wa,O9,EC,xE,uN,strs,qH,AB,Q3,Q4,List.mem_cons,List.not_mem_nil,or_false]
 grind (splits:=40)
theorem TX{s:List Nat}(hs:s∈mg):s= [114,101,115,116]∨s= [110,105,103,104,116,115]∨s= [104,111,109,101]∨(7<s.length∧s.take 7=N2)∨(6<s.length∧s.take 6=O8):=by
 simp only[mg,List.mem_cons,List.not_mem_nil,or_false]at hs
 rcases hs with rfl|rfl|rfl|rfl|rfl|rfl|rfl|rfl|rfl|rfl|rfl|rfl|rfl|rfl|rfl|rfl|rfl|rfl|rfl|rfl|rfl|rfl|rfl|rfl|rfl <;> decide
theorem FC(s:List Nat):vz N2 s↔(7≤s.length∧s.take 7=N2):=Iff.rfl
theorem FD(s:List Nat):vz O8 s↔(6≤s.length∧s.take 6=O8):=Iff.rfl
theorem TY(s:List Nat):be pE 105 [.i .i64 2,.s s] []=some (.tup [.i .i64 (AD s),.i .i64 (if AD s=0 then 6 else 0)],[]):=by
 by_cases N:s= [114,101,115,116]
 ·subst N;exact kQ (m:=100) (kN (by kernel_rfl))
 by_cases O:s= [110,105,103,104,116,115]
 ·subst O;exact kQ (m:=100) (kN (by kernel_rfl))
 by_cases U:s= [104,111,109,101]
 ·subst U;exact kQ (m:=100) (kN (by kernel_rfl))
 rw[AD,if_neg N,if_neg O,if_neg U]
 by_cases I:vz N2 s
 ·rw[if_pos I]
  have V:=(FC s).1 I
  by_cases E:7<s.length
  ·have D:(7:Int)<s.length:=by omega
   have r:7≤s.length:=by omega
   have e:=V.2
   unfold N2 at e
   have J:List.take (s.length-7) (s.drop 7)=s.drop 7:=List.take_of_length_le (by simp)
   rw[iD EB (by simp[wa])]
   simp only[qA,seval,vg,wa,D,r,Nat.sub_zero,e,AF,yj,J]
  ·have:s=N2:=by
    grind
   subst this
   exact kQ (m:=100) (kN (by kernel_rfl))
 ·rw[if_neg I]
  have Z: ¬((7:Int)<s.length∧s.take 7=N2):=fun⟨a,b⟩=>I ((FC s).2 ⟨by omega,b⟩)
  by_cases K:vz O8 s
  ·rw[if_pos K]
   have S0:=(FD s).1 K
   by_cases E:6<s.length
   ·have D:(6:Int)<s.length:=by omega
    have r:6≤s.length:=by omega
    have e:=S0.2
    unfold O8 at e
    have J:List.take (s.length-6) (s.drop 6)=s.drop 6:=List.take_of_length_le (by simp)
    rw[iD EB (by simp[wa])]
    by_cases F:(7:Int)<s.length
    ·have H:7≤s.length:=by omega
     have W: ¬s.take 7= [98,101,102,111,114,101,46]:=fun b=>Z ⟨F,b⟩
     simp only[qA,seval,vg,wa,D,r,F,H,W,Nat.sub_zero,e,AF,yj,J]
    ·simp only[qA,seval,vg,wa,D,r,F,Nat.sub_zero,e,AF,yj,J]
   ·have:s=O8:=by
     grind
    subst this
    exact kQ (m:=100) (kN (by kernel_rfl))
  ·rw[if_neg K]
   have b2: ¬((6:Int)<s.length∧s.take 6=O8):=fun⟨a,b⟩=>K ((FD s).2 ⟨by omega,b⟩)
   have hs:s∉mg:=fun hm=>by
    rcases TX hm with h|h|h|⟨a,b⟩|⟨a,b⟩
    ·exact N h
    ·exact O h
    ·exact U h
    ·grind
    ·grind
   have X:=Zz s (.sl (strs mg) 25 false) mg (Or.inr ⟨false,rfl⟩) (by decide) hs
   rw[iD EB (by simp[wa])]
   by_cases F:(7:Int)<s.length
   ·have E:(6:Int)<s.length:=by omega
    have H:7≤s.length:=by omega
    have r:6≤s.length:=by omega
    have W: ¬s.take 7= [98,101,102,111,114,101,46]:=fun b=>Z ⟨F,b⟩
    have Y: ¬s.take 6= [97,102,116,101,114,46]:=fun b=>b2 ⟨E,b⟩
    simp only[qA,seval,vg,wa,E,F,r,H,W,Y,Nat.sub_zero,yV,EC,X]
   ·by_cases E:(6:Int)<s.length
    ·have r:6≤s.length:=by omega
     have Y: ¬s.take 6= [97,102,116,101,114,46]:=fun b=>b2 ⟨E,b⟩
     simp only[qA,seval,vg,wa,E,F,r,Y,Nat.sub_zero,yV,EC,X]
    ·simp only[qA,seval,vg,wa,E,F,yV,EC,X]
theorem AG(scope:Int)(s:List Nat):be pE 105 [.i .i64 scope,.s s] []=some (.tup [.i .i64 (lu scope s),.i .i64 (ua scope s)],[]):=by
 unfold ua lu
 by_cases D:scope=1
 ·grind [AF]
 ·by_cases r:scope=2
  ·grind [TY]
  ·by_cases E:scope=3
   ·grind [TW]
   ·simp only[D,r,E,if_false,if_true]
    rw[iD EB (by simp[wa])]
    have F:=Zz s .nilsl [] (Or.inl ⟨rfl,rfl,rfl⟩) (by decide) (by simp)
    simp only[qA,seval,vg,wa,r,Pa scope D r E,EC,F]
def qe:List Nat→Option Nat
 | []=>none
 |c::cs=>if c=46 then some 0 else(qe cs).map (· +1)
def vA(s:List Nat):Bool:=match qe s with
 |none=>tA s
 |some i=>pO (s.take i)&&pO (s.drop (i+1))
def kS(op:Int)(n:Nat):Bool:=
 if op≤6 then decide (n=0)else if op=7∨op=19 then decide (n=1)else if op=12∨op=13 then decide (2≤n)
 else if op=14∨op=15 then decide (n=3)else decide (n=2)
def FE(op:Int):Int:=if op=1∨op=2 then 1099511627776 else if op=3 then 1439 else 0
def tB(op num:Int)(name:List Nat)(n:Nat):Bool:=
 decide (1≤op)&&(decide (op≤22)&&(kS op n&&(decide (0≤num∧num≤FE op)&&(if op=6 then vA name else decide (name= [])))))
mutual
def Ex.wf:Ex→Bool
 | .mk op num name args=>tB op num name args.length&&zq args
def zq:List Ex→Bool
 | []=>true
 |x::xs=>x.wf&&zq xs
end
theorem Ex.wf_eq(x:Ex):x.wf=(tB x.op x.num x.name x.args.length&&zq x.args):=by obtain⟨_,_,_,_⟩:=x;rw[Ex.wf];rfl
theorem xG: ∀{xs:List Ex},zq xs=true↔ ∀x∈xs,x.wf=true
 | []=>by simp[zq]
 |x::xs=>by rw[zq,Bool.and_eq_true,xG (xs:=xs)];simp
def big(x:Ex):Prop:=200<x.nodes∨16<x.depth
instance (x:Ex):Decidable (big x):=by unfold big;infer_instance
def jD(x:Ex):Int:=if big x then 10 else if x.wf then 0 else 1
def nF(ts:List Int)(k:Int):Bool:=ts.all fun t=>decide (t=k)
def FF(op a b:Int):Int:=
 if a=1∧b=1 then 1 else if a=2∧b=1 then 2 else if op=10∧a=1∧b=2 then 2 else if op=11∧a=2∧b=2 then 1 else 0
def a0(ts:List Int):Int:=ts.getD 0 0
def a1(ts:List Int):Int:=ts.getD 1 0
def a2(ts:List Int):Int:=ts.getD 2 0
def qW(op:Int)(ts:List Int):Int:=
 if op=1 then 1 else if op=2 then 2 else if op=3 then 3 else if op=4 then 4 else if op=5 then 4
 else if op=7∨op=8∨op=9∨op=12∨op=13 then(if nF ts 1 then 1 else if nF ts 2 then 2 else 0)
 else if op=10∨op=11 then FF op (a0 ts) (a1 ts)
 else if op=14 then(if a0 ts=4∧a1 ts=a2 ts then a1 ts else 0)
 else if op=15 then(if nF ts 3 then 4 else 0)
 else if op=16∨op=17 then(if(a0 ts=1∨a0 ts=2)∧a0 ts=a1 ts then 4 else 0)
 else if op=18 then(if a0 ts=a1 ts then 4 else 0)
 else(if nF ts 4 then 4 else 0)
mutual
def Ex.ty(cl:List Nat→Int×Int)(scope:Int):Ex→Int×Int
 | .mk op _ name args=>
   if op=6 then(if lu scope name≠0 then(lu scope name,0)else cl name)
   else match qI cl scope args with
    | .error e=>(0,e)
    | .ok ts=>if qW op ts=0 then(0,9)else(qW op ts,0)
def qI(cl:List Nat→Int×Int)(scope:Int):List Ex→Except Int (List Int)
 | []=> .ok []
 |x::xs=>if(x.ty cl scope).2≠0 then .error (x.ty cl scope).2 else match qI cl scope xs with
  | .error e=> .error e
  | .ok ts=> .ok ((x.ty cl scope).1::ts)
end
theorem Ex.ty_eq(cl:List Nat→Int×Int)(scope:Int)(x:Ex):x.ty cl scope=
  if x.op=6 then(if lu scope x.name≠0 then(lu scope x.name,0)else cl x.name)
  else match qI cl scope x.args with
   | .error e=>(0,e)
   | .ok ts=>if qW x.op ts=0 then(0,9)else(qW x.op ts,0):=by obtain⟨_,_,_,_⟩:=x;rw[Ex.ty];rfl
abbrev Cs:=List (List Nat×Ex)
def mS:Cs→List Nat→Option Nat
 | [],_=>none
 |c::cs,s=>if c.1=s then some 0 else(mS cs s).map (· +1)
def clk(l:Cs)(r:List (Int×Int))(s:List Nat):Int×Int:=match mS l s with
 |none=>(0,6)
 |some i=>r.getD i (0,6)
def wj(l:Cs)(r:List (Int×Int))(x:Ex):Int×Int:=if jD x≠0 then(0,jD x)else x.ty (clk l r) 0
def lz(l:Cs):Nat→List (Int×Int)
 |0=> []
 |n+1=>lz l n++ [wj (l.take n) (lz l n) (l.getD n ([],.mk 0 0 [] [])).2]
def ub(l:Cs)(scope:Int)(x:Ex):Int×Int:=if jD x≠0 then(0,jD x)else x.ty (clk l (lz l l.length)) scope
def isLit(x:Ex):Bool:=match x with
 | .mk op _ _ args=>decide (op=1∨op=2∨op=3∨op=4∨op=5)||(decide (op=7)&&(match args with|y::_=>decide (y.op=1∨y.op=2)| []=>false))
def aeY(x:Ex):Int:=match x with
 | .mk op num _ args=>if op=4 then 1 else if op=5 then 0 else if op=7 then(match args with|y::_=> -y.num| []=>0)else num
def pc(op num:Int):Ex:= .mk op num [] []
def yb(k n:Int):Ex:=
 if k=4 then(if n=0 then pc 5 0 else pc 4 0)else if k=3 then pc 3 n
 else if n<0 then .mk 7 0 [] [pc (if k=2 then 2 else 1) (-n)]else pc (if k=2 then 2 else 1) n
def jM(n:Int):Int:=max (-1099511627776) (min 1099511627776 n)
def Pb(a b:Int):Int:=if b=0 then 0 else jM (Int.fdiv a b)
def lA(c f t:Int):Bool:=if f≤t then decide (f≤c∧c<t)else decide (f≤c∨c<t)
def te(b:Bool):Int:=if b then 1 else 0
def alC:Int→List Int→Int
 |m,[]=>m
 |m,v::r=>alC (min m v) r
def alD:Int→List Int→Int
 |m,[]=>m
 |m,v::r=>alD (max m v) r
def GU(op:Int)(r:List Int):Int:=
 if op=7 then-a0 r else if op=8 then jM (a0 r+a1 r)else if op=9 then jM (a0 r-a1 r)else if op=10 then jM (a0 r*a1 r)
 else if op=11 then Pb (a0 r) (a1 r)else if op=12 then alC (a0 r) r.tail else if op=13 then alD (a0 r) r.tail
 else if op=14 then(if a0 r=0 then a2 r else a1 r)else if op=15 then te (lA (a0 r) (a1 r) (a2 r))
 else if op=16 then te (decide (a0 r<a1 r))else if op=17 then te (decide (a0 r≤a1 r))else if op=18 then te (decide (a0 r=a1 r))
 else if op=19 then 1-a0 r else if op=20 then min (a0 r) (a1 r)else if op=21 then max (a0 r) (a1 r)else max (1-a0 r) (a1 r)
def ZA(x:Ex):Bool:=decide (x.op=1∨x.op=2)&&decide (x.num=0)
def alE(x:Ex):Bool:=decide (x.op=1)&&decide (x.num=1)
def avi(op:Int)(r:List Ex):Ex:=
 match r with
 | [a]=>if op=19∧a.op=19 then a.args.headD (pc 0 0)else .mk op 0 [] r
 | [a,b]=>
   if op=20 then(if a.op=5∨b.op=5 then pc 5 0 else if a.op=4 then b else if b.op=4 then a else .mk op 0 [] r)
   else if op=21 then(if a.op=4∨b.op=4 then pc 4 0 else if a.op=5 then b else if b.op=5 then a else .mk op 0 [] r)
   else if op=22 then(if a.op=5∨b.op=4 then pc 4 0 else if a.op=4 then b else if b.op=5 then(if a.op=19 then a.args.headD (pc 0 0)else .mk 19 0 [] [a])else .mk op 0 [] r)
   else if op=8 then(if ZA b then a else if ZA a then b else .mk op 0 [] r)
   else if op=9 then(if ZA b then a else .mk op 0 [] r)
   else if op=10 then(if alE b then a else if alE a then b else .mk op 0 [] r)
   else if op=11 then(if alE b then a else .mk op 0 [] r)
   else .mk op 0 [] r
 | [a,b,c]=>if op=14 then(if a.op=4 then b else if a.op=5 then c else .mk op 0 [] r)else .mk op 0 [] r
 |_=> .mk op 0 [] r
mutual
def Ex.fold(cl:List Nat→Int×Int)(cx:List Nat→Ex)(scope:Int):Ex→Ex
 | .mk op num name args=>
   if op=6 then(if lu scope name≠0 then .mk op num name args else cx name)
   else if args.isEmpty then .mk op num name args
   else if(tf cl cx scope args).all isLit then yb ((Ex.mk op num name args).ty cl scope).1 (GU op ((tf cl cx scope args).map aeY))
   else avi op (tf cl cx scope args)
def tf(cl:List Nat→Int×Int)(cx:List Nat→Ex)(scope:Int):List Ex→List Ex
 | []=> []
 |x::xs=>x.fold cl cx scope::tf cl cx scope xs
end
theorem qJ{k:Nat}(h:k≤1000000):wr .i64 ((k:Int)+1)=((k+1:Nat):Int):=iX (Nat.lt_of_le_of_lt h (by decide))
theorem aeZ{a b:Nat}(r:a≤1000000)(D:b≤1000000):wr .i64 ((a:Int)+b)=((a+b:Nat):Int):=by
 rw[jE (by omega)];omega
def pG:Nat:=1000000
theorem lK{k:Nat}(h:k≤100000):k≤pG:=Nat.le_trans h (by decide)
theorem iZ{k:Nat}(h:k≤pG):wr .i64 ((k:Int)+1)=((k+1:Nat):Int):=qJ h
def mh:Nat:=1125899906842624
theorem oO{k:Nat}(h:k≤mh):wr .i64 ((k:Int)+1)=((k+1:Nat):Int):=iX (Nat.lt_of_le_of_lt h (by decide))
def FG(n:Nat):List iy:= [⟨1,.cells [.i .i64 (n:Int)] 0 true⟩]
def k6(n level:Nat)(x:Ex):Prop:=n+x.nodes≤200∧level+x.depth≤17
def jH(n level:Nat)(xs:List Ex):Prop:=n+jX xs≤200∧level+qd xs≤17
instance (n level:Nat) (x:Ex):Decidable (k6 n level x):=by unfold k6;infer_instance
instance (n level:Nat) (x:List Ex):Decidable (jH n level x):=by unfold jH;infer_instance
theorem xI{xs:List Ex}{k:Nat}(r:k<xs.length):xs.drop k=xs[k]::xs.drop (k+1):=List.drop_eq_getElem_cons r
def avj(level n:Nat)(a:T)(xs:List Ex)(k:Nat)(st:St):Prop:=
 ∃fr lh m,st=⟨fr,lh,FG m⟩∧an fr 1= .i .i64 (level:Int)∧an fr 2= .ptr .S 0 1 0∧an fr 23=a∧an fr 24= .i .i64 (xs.length:Int)∧an fr 25= .i .i64 (k:Int)∧
  k≤m∧m≤200∧(jH m (level+1) (xs.drop k)↔jH n (level+1) xs)∧(jH n (level+1) xs→m+jX (xs.drop k)=n+jX xs)
def aiE(y:Ex):Prop:= ∀(level n:Nat) (cs:List T),mE y cs→n≤200→level≤17→ ∃r:Nat,be pE 121 [.agg cs,.i .i64 (level:Int),.ptr .S 0 1 0] (FG n)=some (.b (decide (k6 n level y)),FG r)∧(k6 n level y→r=n+y.nodes)
theorem avk(xs:List Ex)(ih: ∀y∈xs,aiE y)(a:T)(X:List T)(ha:iJ a xs.length X)(hx:kz xs X)(level n:Nat)(hl:level≤16)(hn:n≤200)(o:Out)(Y:o=if jH n (level+1) xs then .ext 0 else .ret)(fr:Fr)(lh:iL iy)(sh:List iy)(mJ:sh=FG n)
  (I:an fr 1= .i .i64 (level:Int)) (J:an fr 2= .ptr .S 0 1 0) (E:an fr 23=a) (D:an fr 24= .i .i64 (xs.length:Int)) (F:an fr 25= .i .i64 0):
  qG 36 sH fr lh sh o∧
  ((jH n (level+1) xs→nB pE 36 sH fr lh sh=FG (n+jX xs))∧(¬jH n (level+1) xs→an (pb pE 36 sH fr lh sh) 6= .b false∧ ∃m,nB pE 36 sH fr lh sh=FG m)):=by
 refine jh (P:=fun fr lh sh=>(jH n (level+1) xs→sh=FG (n+jX xs))∧(¬jH n (level+1) xs→an fr 6= .b false∧ ∃m,sh=FG m)) (jx (avj level n a xs) _ xs.length ?_ ?_ 0 _ (Nat.zero_le _) ⟨fr,lh,n,by rw[mJ],I,J,E,D,F,Nat.zero_le _,hn,Iff.rfl,fun _=>rfl⟩)
 ·rintro k _ V ⟨fr,lh,m,rfl,I,J,E,D,F,N3,Z,K,hs⟩
  have iU:(k:Int)<xs.length:=by omega
  have Qz:=xs[k].nodes_eq
  have hw:=qJ (k:=k) (by omega)
  have FH:=qJ (k:=level) (by omega)
  obtain⟨b,cb,r,iW,lE,uE,hb⟩:=nY ha hx k V
  obtain⟨m',U,W⟩:=ih xs[k] (List.getElem_mem V) (level+1) m _ hb Z (by omega)
  rw[xI V]at K hs
  simp only[jH,jX,qd]at K hs
  by_cases N:k6 m (level+1) xs[k]
  ·left
   rw[decide_eq_true N]at U
   simp only[qA,seval,kP,sH,I,J,E,D,F,iU,iW,hw,FH,U,Qh,lE.kept1]
   refine⟨_,rfl,_,_,m',rfl, ?_, ?_, ?_, ?_, ?_, ?_, ?_, ?_, ?_⟩
   all_goals first|(simp only[qA,seval,I,J,E,D];done)|skip
   all_goals (rw[W N];unfold k6 at N;first|omega|(simp only[jH];omega)|(intro O;have:=hs (by simpa only[jH]using O);omega))
  ·right
   rw[decide_eq_false N]at U
   simp only[qA,seval,kP,sH,I,J,E,D,F,iU,iW,FH,U,Qh,lE.kept1]
   have wh: ¬jH n (level+1) xs:=by unfold k6 at N;unfold jH;omega
   refine⟨_,_,Lw,rfl, ?_,fun O=>absurd O wh,fun _=>⟨by simp only[qA,seval],m',rfl⟩⟩
   rw[Y,if_neg wh]
 ·rintro _ ⟨fr,lh,m,rfl,I,J,E,D,F,N3,Z,K,hs⟩
  rw[List.drop_length]at K hs
  have H:jH n (level+1) xs:=K.1 (by unfold jH;rw[jX,qd];omega)
  simp only[qA,seval,sH,D,F,Int.lt_irrefl]
  refine⟨_,_,oH,rfl,by rw[Y,if_pos H],fun _=> ?_,fun O=>absurd H O⟩
  have:=hs H
  rw[jX,Nat.add_zero]at this
  rw[this]
theorem ae0(x:Ex):aiE x:=by
 induction x using Ex.ind with
 |h x ih=>
  intro level n cs V hn hl
  obtain⟨a,W,rfl,O,Y⟩:=V.cells
  rw[iD agL (by simp[Lt])]
  have I:=qJ (k:=n) (by omega)
  have Z:=x.nodes_eq
  have hdp:=x.depth_eq
  unfold FG
  by_cases D:(200:Int)<((n+1:Nat):Int)
  ·have r: ¬k6 n level x:=by unfold k6;omega
   rw[decide_eq_false r]
   simp only[qA,seval,jA,Lt,I,D]
   exact⟨n+1,rfl,fun h=>absurd h r⟩
  ·by_cases E:(16:Int)<(level:Int)
   ·have r: ¬k6 n level x:=by unfold k6;omega
    rw[decide_eq_false r]
    simp only[qA,seval,jA,Lt,I,D,E]
    exact⟨n+1,rfl,fun h=>absurd h r⟩
   ·have Mw:k6 n level x↔jH (n+1) (level+1) x.args:=by unfold k6 jH;omega
    have F:=fun fr lh sh H=>avk x.args ih a W O Y level (n+1) (by omega) (by omega) _ rfl fr lh sh H
    unfold FG at F
    by_cases r:jH (n+1) (level+1) x.args
    ·rw[decide_eq_true (Mw.2 r)]
     simp only[r,if_true,forall_const,not_true_eq_false,false_implies,and_true]at F
     simp only[qA,seval,jA,Lt,I,D,E,O.lenI,F]
     exact⟨n+1+jX x.args,rfl,fun _=>by omega⟩
    ·rw[decide_eq_false (fun h=>r (Mw.1 h))]
     simp only[r,if_false,forall_const,not_false_eq_true,false_implies,true_and]at F
     have U:=fun fr lh sh H D E J K N=>(F fr lh sh H D E J K N).2.2
     have TZ:=fun fr lh sh H D E J K N=>And.intro (F fr lh sh H D E J K N).1 (F fr lh sh H D E J K N).2.1
     simp only[qA,seval,jA,Lt,I,D,E,O.lenI,TZ]
     generalize hX:nB _ _ _ _ _ _=X
     obtain⟨m,hm⟩: ∃m:Nat,X= [⟨1,.cells [.i .i64 (m:Int)] 0 true⟩]:=by
      rw[←hX]
      refine U _ _ _ rfl ?_ ?_ ?_ ?_ ?_ <;> simp only[qA,seval]
     rw[hm]
     exact⟨m,rfl,fun h=>absurd (Mw.1 h) r⟩
mutual
def Ex.sz:Ex→Nat→Nat×Nat
 | .mk _ _ _ args,level=>if 16<level then(1,1)else Dx args level (1,1)
def Dx:List Ex→Nat→Nat×Nat→Nat×Nat
 | [],_,p=>p
 |x::xs,level,p=>if p.1≤200 then Dx xs level (p.1+(x.sz (level+1)).1,max p.2 ((x.sz (level+1)).2+1))else p
end
theorem Ex.sz_eq(x:Ex)(level:Nat):x.sz level=if 16<level then(1,1)else Dx x.args level (1,1):=by obtain⟨_,_,_,_⟩:=x;rw[Ex.sz];rfl
theorem alH{xs:List Ex}{level:Nat}(ih: ∀y∈xs,(y.sz (level+1)).1≤1+200*(17-(level+1))∧(y.sz (level+1)).2≤18-(level+1))(D:level≤16): ∀p:Nat×Nat,p.1≤1+200*(17-level)→p.2≤18-level→(Dx xs level p).1≤1+200*(17-level)∧(Dx xs level p).2≤18-level:=by
 induction xs with
 |nil=>grind [Dx]
 |cons y E X3=>
  intro p F H
  rw[Dx]
  have I:=ih y (by simp)
  split
  ·refine X3 (fun z r=>ih z (by simp[r])) _ ?_ ?_ <;> simp only <;> omega
  ·grind
theorem avl(x:Ex): ∀level,level≤17→(x.sz level).1≤1+200*(17-level)∧(x.sz level).2≤18-level:=by
 induction x using Ex.ind with
 |h x ih=>
  intro level D
  rw[Ex.sz_eq]
  split
  ·grind
  ·exact alH (fun y r=>ih y r (level+1) (by omega)) (by omega) _ (by simp only;omega) (by simp only;omega)
theorem alI(x:Ex){level:Nat}(h:level≤17):(x.sz level).1≤4000∧(x.sz level).2≤18:=by
 grind [avl]
theorem FI: ∀(xs:List Ex) (level:Nat) (p:Nat×Nat),p.1≤(Dx xs level p).1∧p.2≤(Dx xs level p).2
 | [],level,p=>by rw[Dx];simp
 |x::xs,level,p=>by
  rw[Dx]
  split
  ·have:=FI xs level (p.1+(x.sz (level+1)).1,max p.2 ((x.sz (level+1)).2+1))
   grind
  ·simp
def avm(x:Ex):Prop:= ∀level,level≤17→if k6 0 level x then x.sz level=(x.nodes,x.depth)else 200<(x.sz level).1∨17<level+(x.sz level).2
theorem alJ{xs:List Ex}{level:Nat}(ih: ∀y∈xs,avm y)(O:level≤16): ∀p:Nat×Nat,1≤p.2→p.1≤200→
  if jH p.1 (level+1) xs then Dx xs level p=(p.1+jX xs,max p.2 (qd xs+1))else 200<(Dx xs level p).1∨17<level+(Dx xs level p).2:=by
 induction xs with
 |nil=>
  grind [jH,jX,qd,Dx,Nat.max_eq_left]
 |cons y D X3=>
  intro p U J
  have H:=ih y (by simp) (level+1) (by omega)
  have I:=X3 fun z K=>ih z (by simp[K])
  have ZB:=FI D level (p.1+(y.sz (level+1)).1,max p.2 ((y.sz (level+1)).2+1))
  rw[Dx,if_pos J]
  by_cases E:k6 0 (level+1) y
  ·rw[if_pos E]at H
   rw[H]at ZB ⊢
   simp only at ZB ⊢
   by_cases N:p.1+y.nodes≤200
   ·have:=I (p.1+y.nodes,max p.2 (y.depth+1)) (by simp only;omega) N
    simp only at this
    by_cases F:jH (p.1+y.nodes) (level+1) D
    ·rw[if_pos F]at this
     have r:jH p.1 (level+1) (y::D):=by unfold jH at F ⊢; unfold k6 at E;rw[jX,qd];omega
     rw[if_pos r,this,jX,qd]
     refine Prod.ext ?_ ?_ <;> simp only <;> omega
    ·rw[if_neg F]at this
     have r: ¬jH p.1 (level+1) (y::D):=by unfold jH at F ⊢; unfold k6 at E;rw[jX,qd];omega
     rw[if_neg r];exact this
   ·have r: ¬jH p.1 (level+1) (y::D):=by unfold jH;rw[jX,qd];omega
    rw[if_neg r];omega
  ·rw[if_neg E]at H
   have r: ¬jH p.1 (level+1) (y::D):=by unfold jH;unfold k6 at E;rw[jX,qd];omega
   rw[if_neg r]
   simp only at ZB;omega
theorem avn(x:Ex):avm x:=by
 induction x using Ex.ind with
 |h x ih=>
  intro level H
  have E:=x.nodes_eq
  have F:=x.depth_eq
  rw[Ex.sz_eq]
  by_cases h:16<level
  ·grind [k6]
  ·rw[if_neg h]
   have:=alJ ih (level:=level) (by omega) (1,1) (by simp) (by simp)
   simp only at this
   by_cases r:jH 1 (level+1) x.args
   ·rw[if_pos r]at this
    have D:k6 0 level x:=by unfold jH at r;unfold k6;omega
    rw[if_pos D,this]
    refine Prod.ext ?_ ?_ <;> simp only <;> omega
   ·rw[if_neg r]at this
    have D: ¬k6 0 level x:=by unfold jH at r;unfold k6;omega
    rw[if_neg D];exact this
theorem alK(x:Ex):(200<(x.sz 1).1∨16<(x.sz 1).2)↔big x:=by
 have:=avn x 1 (by omega)
 grind [big,k6]
def szP(y:Ex):Prop:= ∀(level:Nat) (cs:List T),mE y cs→level≤17→be pE 159 [.agg cs,.i .i64 (level:Int)] []=some (.tup [.i .i64 ((y.sz level).1:Int),.i .i64 ((y.sz level).2:Int)],[])
theorem avo(xs:List Ex)(ih: ∀y∈xs,szP y)(a:T)(cc:List T)(O:iJ a xs.length cc)(hx:kz xs cc)(level:Nat)(hl:level≤16)(op num:Int)(s:List Nat)(g:Nat)(fr:Fr)(lh:iL iy)(sh:List iy)
  (I:an fr 1= .i .i64 (level:Int)) (E:an fr 2= .ptr .L 2 g 0) (H:an fr 6= .i .i64 1) (J:an fr 7= .i .i64 1) (K:an fr 8= .i .i64 0) (W:a6 lh 2=⟨g,.cells [.i .i64 op,.i .i64 num,.s s,a] 0 true⟩):
  qG 44 qh fr lh sh (.ext 0)∧
  (an (pb pE 44 qh fr lh sh) 6= .i .i64 ((Dx xs level (1,1)).1:Int)∧an (pb pE 44 qh fr lh sh) 7= .i .i64 ((Dx xs level (1,1)).2:Int)∧nh pE 44 qh fr lh sh=lh∧nB pE 44 qh fr lh sh=sh):=by
 refine jh (P:=fun fr je jk=>an fr 6= .i .i64 ((Dx xs level (1,1)).1:Int)∧an fr 7= .i .i64 ((Dx xs level (1,1)).2:Int)∧je=lh∧jk=sh) (jx (fun k st=> ∃(fr:Fr) (p:Nat×Nat),st=⟨fr,lh,sh⟩∧an fr 1= .i .i64 (level:Int)∧an fr 2= .ptr .L 2 g 0∧an fr 6= .i .i64 (p.1:Int)∧an fr 7= .i .i64 (p.2:Int)∧an fr 8= .i .i64 (k:Int)∧
   Dx (xs.drop k) level p=Dx xs level (1,1)∧k≤p.1∧p.2≤19∧p.1≤4300) _ xs.length ?_ ?_ 0 _ (Nat.zero_le _) ⟨fr,(1,1),rfl,I,E,H,J,K,rfl,by simp,by simp,by simp⟩)
 ·rintro k _ Y ⟨fr,p,rfl,I,E,H,J,K,D,hp,Z,hp1⟩
  have iU:(k:Int)<xs.length:=by omega
  obtain⟨b,cb,r,iW,lE,uE,hb⟩:=nY O hx k Y
  have iI:=ih xs[k] (List.getElem_mem Y) (level+1) _ hb (by omega)
  have wi:=alI xs[k] (level:=level+1) (by omega)
  have C9:1≤(xs[k].sz (level+1)).1:=by
   rw[Ex.sz_eq];split
   ·simp
   ·exact(FI xs[k].args (level+1) (1,1)).1
  rw[xI Y,Dx]at D
  generalize xs[k].sz (level+1)=q at iI wi C9 D
  obtain⟨hq1,hq2⟩:=wi
  by_cases X:p.1≤200
  ·left
   have F:(p.1:Int)≤200:=by omega
   have hw:=qJ (k:=k) (Nat.le_trans hp (Nat.le_trans X (by decide)))
   have FH:=qJ (k:=level) (Nat.le_trans hl (by decide))
   have U:=qJ (k:=q.2) (Nat.le_trans hq2 (by decide))
   have V:=aeZ (a:=p.1) (b:=q.1) (Nat.le_trans X (by decide)) (Nat.le_trans hq1 (by decide))
   rw[if_pos X]at D
   by_cases N:(p.2:Int)<((q.2+1:Nat):Int)
   ·have aGX:(p.2:Int)<((q.2+1:Nat):Int):=N
    simp only[qA,seval,qh,I,E,H,J,K,W,iU,O.lenI,F,iW,hw,FH,U,V,iI,Xc,lE.froz1,N]
    refine⟨_,rfl,_,(p.1+q.1,q.2+1),rfl, ?_, ?_, ?_, ?_, ?_, ?_, ?_, ?_, ?_⟩
    all_goals first|(simp only[qA,seval,I,E];done)|skip
    ·grind
    all_goals (simp only;omega)
   ·simp only[qA,seval,qh,I,E,H,J,K,W,iU,O.lenI,F,iW,hw,FH,U,V,iI,Xc,lE.froz1,N]
    refine⟨_,rfl,_,(p.1+q.1,p.2),rfl, ?_, ?_, ?_, ?_, ?_, ?_, ?_, ?_, ?_⟩
    all_goals first|(simp only[qA,seval,I,E];done)|skip
    ·grind
    all_goals (simp only;omega)
  ·right
   have F: ¬(p.1:Int)≤200:=by omega
   rw[if_neg X]at D
   simp only[qA,seval,qh,E,H,K,W,iU,O.lenI,F]
   exact⟨_,_,oH,rfl,rfl,by simp only[qA,seval,H,←D],by simp only[qA,seval,J,←D],rfl,rfl⟩
 ·rintro _ ⟨fr,p,rfl,I,E,H,J,K,D,hp,Z,hp1⟩
  rw[List.drop_length,Dx]at D
  simp only[qA,seval,qh,E,K,W,O.lenI,Int.lt_irrefl]
  exact⟨_,_,oH,rfl,rfl,by simp only[qA,seval,H,←D],by simp only[qA,seval,J,←D],rfl,rfl⟩
end Go.Proofs.YtjniffjppoklpaaGreat
