/- Walks of functions of the program and of the reference, and their plain laws, part 1. Conditions: the theorems' own. -/
import Derived.Test.YtbdfboojnfinkaaGreatGS
import Derived.KernelRfl
set_option maxRecDepth 100000
set_option linter.unusedSimpArgs false
set_option linter.unusedVariables false
set_option maxHeartbeats 16000000
namespace Go.Proofs.YtbdfboojnfinkaaGreat
open Go Go.Ev
theorem jZ{m f:Nat}{args:List T}{r:T×List ib}(h:jI pE m f args []=some r):hZ pE f args []=some r:=DCall_iff.2 ⟨m,h⟩
theorem nD{m f:Nat}{args:List T}{v:T}(h:(jI pE m f args []).map (·.1)=some v): ∃s,hZ pE f args []=some (v,s):=by
 cases D:jI pE m f args []with
 |none=>grind
 |some r=>
  rw[D]at h
  obtain⟨a,s⟩:=r
  simp at h
  subst h
  exact⟨s,DCall_iff.2 ⟨m,D⟩⟩
inductive Ex where
 |mk (op num:Int) (name:List Nat) (args:List Ex)
def Ex.op:Ex→Int| .mk o _ _ _=>o
def Ex.num:Ex→Int| .mk _ n _ _=>n
def Ex.name:Ex→List Nat| .mk _ _ s _=>s
def Ex.args:Ex→List Ex| .mk _ _ _ a=>a
mutual
def lv:Ex→List T→Prop
 | .mk op num name args,cs=> ∃a h,cs= [.i .i64 op,.i .i64 num,.s name,a]∧IsSl a args.length h∧jx args h
def jx:List Ex→List T→Prop
 | [],cs=>cs= []
 |x::xs,cs=> ∃c r,cs=c++r∧lv x c∧jx xs r
end
theorem lv.cells{x:Ex}{cs:List T}(h:lv x cs): ∃a D,cs= [.i .i64 x.op,.i .i64 x.num,.s x.name,a]∧IsSl a x.args.length D∧jx x.args D:=by
 obtain⟨o,n,s,a⟩:=x
 rw[lv]at h
 exact h
theorem lv.of{x:Ex}{a:T}{h:List T}(D:IsSl a x.args.length h)(E:jx x.args h):lv x [.i .i64 x.op,.i .i64 x.num,.s x.name,a]:=by
 obtain⟨o,n,s,l⟩:=x
 rw[lv]
 exact⟨a,h,rfl,D,E⟩
theorem lv.len{x:Ex}{cs:List T}(h:lv x cs):cs.length=4:=by
 obtain⟨a,D,rfl,_⟩:=h.cells;rfl
theorem jx.len: ∀{xs:List Ex} {cs:List T},jx xs cs→cs.length=xs.length*4
 | [],cs,h=>by grind [jx]
 |x::xs,cs,h=>by
  rw[jx]at h
  obtain⟨c,r,rfl,D,E⟩:=h
  rw[List.length_append,D.len,E.len,List.length_cons];omega
theorem jx.cons{x:Ex}{xs:List Ex}{c r:List T}(h:lv x c)(D:jx xs r):jx (x::xs) (c++r):=by
 grind [jx]
theorem jx.drop: ∀{xs:List Ex} {cs:List T} (k:Nat) (D:k<xs.length),jx xs cs→ ∃c r,cs.drop (k*4)=c++r∧lv xs[k] c∧jx (xs.drop (k+1)) r
 | [],cs,k,D,h=>by simp at D
 |x::xs,cs,0,D,h=>by
  grind [jx]
 |x::xs,cs,k+1,D,h=>by
  rw[jx]at h
  obtain⟨c,r,rfl,E,F⟩:=h
  obtain⟨H,I,e,J,K⟩:=jx.drop k (by simpa using D) F
  refine⟨H,I, ?_,J,by simpa using K⟩
  have:(k+1)*4=c.length+k*4:=by rw[E.len];omega
  grind [List.drop_append,Nat.add_sub_cancel_left,List.drop_eq_nil_of_le]
theorem nJ{xs:List Ex}{a:T}{D:List T}(I:IsSl a xs.length D)(E:jx xs D)(k:Nat)(F:k<xs.length):
  ∃b h r,(∀kk,pv a (.i kk (k:Int)) 4=some (.vp (.i .i64 xs[k].op:: .i .i64 xs[k].num:: .s xs[k].name::b::r)))∧IsSl b xs[k].args.length h∧jx xs[k].args h∧lv xs[k] [.i .i64 xs[k].op,.i .i64 xs[k].num,.s xs[k].name,b]:=by
 obtain⟨c,r,e,H,N⟩:=jx.drop k F E
 obtain⟨b,h,rfl,J,K⟩:=H.cells
 refine⟨b,h,r,fun kk=> ?_,J,K,H⟩
 rw[I.ia (sz:=4) E.len F,e];rfl
mutual
def Ex.nodes:Ex→Nat
 | .mk _ _ _ args=>1+jz args
def jz:List Ex→Nat
 | []=>0
 |x::xs=>x.nodes+jz xs
end
mutual
def Ex.depth:Ex→Nat
 | .mk _ _ _ args=>1+oJ args
def oJ:List Ex→Nat
 | []=>0
 |x::xs=>max x.depth (oJ xs)
end
theorem Ex.nodes_eq(x:Ex):x.nodes=1+jz x.args:=by obtain⟨_,_,_,_⟩:=x;rw[Ex.nodes];rfl
theorem Ex.depth_eq(x:Ex):x.depth=1+oJ x.args:=by obtain⟨_,_,_,_⟩:=x;rw[Ex.depth];rfl
theorem jQ: ∀xs:List Ex,xs.length≤jz xs
 | []=>by simp
 |x::xs=>by
  have:=jQ xs
  rw[jz,List.length_cons,x.nodes_eq];omega
theorem l8: ∀{xs:List Ex} {x:Ex},x∈xs→x.nodes≤jz xs
 |y::xs,x,h=>by
  rw[jz]
  rcases List.mem_cons.1 h with rfl|h
  ·omega
  ·have:=l8 h;omega
theorem Ex.ind{P:Ex→Prop}(h: ∀x:Ex,(∀y∈x.args,P y)→P x)(x:Ex):P x:=by
 have: ∀n (x:Ex),x.nodes≤n→P x:=by
  intro n
  induction n with
  |zero=>intro x D;rw[x.nodes_eq]at D;omega
  |succ n ih=>
   intro x D
   refine h x fun y E=>ih y ?_
   have:=l8 E
   rw[x.nodes_eq]at D;omega
 exact this _ x (Nat.le_refl _)
def DJ(c:Nat):Prop:=(97:Int)≤c∧(c:Int)≤122
def Gc(c:Nat):Prop:=(48:Int)≤c∧(c:Int)≤57
instance (c:Nat):Decidable (DJ c):=by unfold DJ;infer_instance
instance (c:Nat):Decidable (Gc c):=by unfold Gc;infer_instance
def wc(c:Nat):Bool:=decide (DJ c∨Gc c∨(c:Int)=95)
def ou:List Nat→Bool
 | []=>false
 |c::cs=>decide (cs.length<16)&&(decide (DJ c)&&cs.all wc)
theorem IU(c:Nat):hZ pE 184 [.i .u8 c] []=some (.b (decide (DJ c)),[]):=by
 rw[im abA (by simp[Oq])]
 by_cases h:(97:Int)≤c
 ·by_cases D:(c:Int)≤122 <;> simp only[qA,seval,Oq,h,D,DJ]
 ·simp only[qA,seval,Oq,h,DJ]
theorem EB(c:Nat):hZ pE 181 [.i .u8 c] []=some (.b (decide (Gc c)),[]):=by
 rw[im aby (by simp[Oo])]
 by_cases h:(48:Int)≤c
 ·by_cases D:(c:Int)≤57 <;> simp only[qA,seval,Oo,h,D,Gc]
 ·simp only[qA,seval,Oo,h,Gc]
theorem we{s:List Nat}{k:Nat}(h:k<s.length)(kk:IntKind):DI (.s s) (.i kk (k:Int))=some (.i .u8 (s[k]:Int)):=by
 rw[KR,if_pos (Int.natCast_nonneg k),Int.toNat_natCast,List.getElem?_eq_getElem h];rfl
theorem iM{k:Nat}(h:k<4611686018427387904):wr .i64 ((k:Int)+1)=((k+1:Nat):Int):=by rw[jw (by omega)];omega
theorem afn(s:List Nat)(hs:s.length≤16)(fr:Fr)(lh:iz ib)(sh:List ib)(I:an fr 0= .s s)(O:an fr 3= .i .i64 0):
  UC pE 42 xb fr lh sh 0 2 (s.all wc=true) (.b false) (fun E F=>E=lh∧F=sh):=by
 refine qt Oc (by simp[iI]) (fun k f E F=>an f 3= .i .i64 (k:Int)∧E=lh∧F=sh∧s.all wc=(s.drop k).all wc) s.length ⟨O,rfl,rfl,rfl⟩ ?_ ?_
 ·rintro k f _ _ J h ⟨H,rfl,rfl,D⟩
  have U:(k:Int)<s.length:=by omega
  have V:=iM (k:=k) (by omega)
  have K:=jE (IU s[k])
  have N:=jE (EB s[k])
  rw[List.drop_eq_getElem_cons J,List.all_cons]at D
  simp only[qB,seval,gd,xb,h,I,H,U,we J,V,K,N,Su,abz]
  clear h K N
  unfold wc at*
  grind
 ·rintro f _ _ h ⟨H,rfl,rfl,D⟩
  rw[List.drop_length,List.all_nil]at D
  simp only[qB,seval,gd,xb,h,I,H,Int.lt_irrefl,D]
theorem xT(s:List Nat):hZ pE 146 [.s s] []=some (.b (ou s),[]):=by
 rw[im aa2 (by simp[Kj])]
 cases s with
 |nil=>simp only[qA,seval,Kj,ou]
 |cons c cs=>
  have J5:DI (.s (c::cs)) (.i .i64 0)=some (.i .u8 (c:Int)):=by rw[KR];rfl
  have h:=jE (IU c)
  unfold ou
  by_cases E:cs.length<16
  ·have D:=afn (c::cs) (by simp;omega)
   simp only[qB,seval,Kj,J5,h,Su,D]
   clear D h
   grind [wc]
  ·simp only[qB,seval,Kj,J5,h,Su]
   clear h
   grind
def chC(k:Nat)(c:Nat):Bool:=decide (DJ c)||(decide (0<k)&&wc c)
def DK:Nat→List Nat→Bool
 |_,[]=>true
 |k,c::cs=>chC k c&&DK (k+1) cs
theorem IV: ∀(cs:List Nat) (k:Nat),0<k→DK k cs=cs.all wc
 | [],k,h=>rfl
 |c::cs,k,h=>by
  rw[DK,List.all_cons,IV cs (k+1) (by omega)]
  congr 1
  unfold chC
  by_cases D:DJ c <;> simp[h,D,wc]
theorem afo(s:List Nat)(hs:s.length≤16)(fr:Fr)(lh:iz ib)(sh:List ib)(K:an fr 0= .s s)(I:an fr 14= .i .i64 (s.length:Int))(Ar:an fr 15= .i .i64 0):
  UC pE 44 wY fr lh sh 0 2 (DK 0 s=true) (.b false) (fun E F=>E=lh∧F=sh):=by
 refine qt NW (by simp[iI]) (fun k f E F=>an f 15= .i .i64 (k:Int)∧E=lh∧F=sh∧DK 0 s=DK k (s.drop k)) s.length ⟨Ar,rfl,rfl,rfl⟩ ?_ ?_
 ·rintro k f _ _ J h ⟨H,rfl,rfl,D⟩
  have N:(k:Int)<s.length:=by omega
  have O:=iM (k:=k) (by omega)
  rw[List.drop_eq_getElem_cons J,DK]at D
  simp only[qB,seval,gd,wY,h,K,I,H,N,we J,O]
  clear h
  unfold chC wc DJ Gc at*
  grind (splits:=30)
 ·rintro f _ _ h ⟨H,rfl,rfl,D⟩
  rw[List.drop_length,DK]at D
  simp only[qB,seval,gd,wY,h,I,H,Int.lt_irrefl,D]
theorem xU(s:List Nat):hZ pE 104 [.s s] []=some (.b (ou s),[]):=by
 rw[im aax (by simp[NX])]
 have E:ou s=(decide (s.length≤16)&&decide (1≤s.length)&&DK 0 s):=by
  cases s with
  |nil=>rfl
  |cons c cs=>rw[DK,IV cs 1 (by omega)];unfold ou chC;grind
 by_cases D:s.length≤16
 ·have h:=afo s D
  simp only[qB,seval,NX,h]
  clear h
  grind
 ·simp only[qB,seval,NX]
  grind
def afp:List (List Nat):= [[97,110,100],[111,114],[110,111,116],[105,109,112,108,105,101,115],[105,110],[116,111],[116,114,117,101],[102,97,108,115,101],[109,105,110],[109,97,120],[105,102],[116,104,101,110],[101,108,115,101]]
def Zh:List (List Nat):= [[108,101,103,115],[104,101,97,100,115],[116,121,112,101,115]]
def Zi:List (List Nat):= [[98,108,111,99,107],[115,112,97,110],[110,105,103,104,116],[108,111,110,103,101,115,116],[115,104,111,114,116,101,115,116],[115,104,105,102,116]]
def Zj:List (List Nat):= [[115,116,97,114,116],[101,110,100]]
def MV:List (List Nat):= [[100,117,116,105,101,115],[108,101,103,115],[104,101,97,100,115],[100,97,121,115]]
def MW:List (List Nat):= [[98,108,111,99,107],[115,112,97,110],[99,114,101,100,105,116]]
def iK:List (List Nat):= [[108,101,103,115],[104,101,97,100,115],[116,121,112,101,115],[98,108,111,99,107],[115,112,97,110],[110,105,103,104,116],[108,111,110,103,101,115,116],[115,104,111,114,116,101,115,116],[115,104,105,102,116],[115,116,97,114,116],[101,110,100]]
def k8:List (List Nat):= [[114,101,115,116],[110,105,103,104,116,115],[104,111,109,101],[98,101,102,111,114,101,46,108,101,103,115],[98,101,102,111,114,101,46,104,101,97,100,115],[98,101,102,111,114,101,46,116,121,112,101,115],[98,101,102,111,114,101,46,98,108,111,99,107],[98,101,102,111,114,101,46,115,112,97,110],[98,101,102,111,114,101,46,110,105,103,104,116],[98,101,102,111,114,101,46,108,111,110,103,101,115,116],[98,101,102,111,114,101,46,115,104,111,114,116,101,115,116],[98,101,102,111,114,101,46,115,104,105,102,116],[98,101,102,111,114,101,46,115,116,97,114,116],[98,101,102,111,114,101,46,101,110,100],[97,102,116,101,114,46,108,101,103,115],[97,102,116,101,114,46,104,101,97,100,115],[97,102,116,101,114,46,116,121,112,101,115],[97,102,116,101,114,46,98,108,111,99,107],[97,102,116,101,114,46,115,112,97,110],[97,102,116,101,114,46,110,105,103,104,116],[97,102,116,101,114,46,108,111,110,103,101,115,116],[97,102,116,101,114,46,115,104,111,114,116,101,115,116],[97,102,116,101,114,46,115,104,105,102,116],[97,102,116,101,114,46,115,116,97,114,116],[97,102,116,101,114,46,101,110,100]]
def pb:List (List Nat):= [[100,117,116,105,101,115],[108,101,103,115],[104,101,97,100,115],[100,97,121,115],[98,108,111,99,107],[115,112,97,110],[99,114,101,100,105,116]]
def UD(s:List Nat):Bool:=decide (s∈afp)
def rE(s:List Nat):Bool:=ou s&& !UD s
def pH(s:List Nat):Int:=if s∈Zh then 1 else if s∈Zi then 2 else if s∈Zj then 3 else 0
def xV(s:List Nat):Int:=if s∈MV then 1 else if s∈MW then 2 else 0
def J6:List Nat:= [98,101,102,111,114,101,46]
def K4:List Nat:= [97,102,116,101,114,46]
def tj(p s:List Nat):Prop:=p.length≤s.length∧s.take p.length=p
instance (p s:List Nat):Decidable (tj p s):=by unfold tj;infer_instance
def xW(s:List Nat):Int:=if s= [114,101,115,116]then 2 else if s= [110,105,103,104,116,115]then 1 else if s= [104,111,109,101]then 4 else if tj J6 s then pH (s.drop 7)else if tj K4 s then pH (s.drop 6)else 0
def kA(scope:Int)(s:List Nat):Int:=if scope=1 then pH s else if scope=2 then xW s else if scope=3 then xV s else 0
theorem Zk(s:List Nat):hZ pE 189 [.s s] []=some (.b (UD s),[]):=by
 rw[im abG (by simp[RC])]
 simp only[qB,seval,RC,UD,afp,List.mem_cons,List.not_mem_nil,or_false]
 grind (splits:=40)
theorem xX(s:List Nat):hZ pE 114 [.s s] []=some (.i .i64 (pH s),[]):=by
 rw[im aaH (by simp[Q8])]
 simp only[qB,seval,Q8,pH,Zh,Zi,Zj,List.mem_cons,List.not_mem_nil,or_false]
 grind (splits:=40)
theorem UE(s:List Nat):hZ pE 116 [.s s] []=some (.i .i64 (xV s),[]):=by
 rw[im aaJ (by simp[Q9])]
 simp only[qB,seval,Q9,xV,MV,MW,List.mem_cons,List.not_mem_nil,or_false]
 grind (splits:=40)
theorem Zl(s:List Nat):hZ pE 147 [.s s] []=some (.b (UD s),[]):=by
 rw[im aa3 (by simp[Rk])]
 simp only[qB,seval,lu,repl,Rk,vq,L2,UD,afp,List.mem_cons,List.not_mem_nil,or_false]
 grind (splits:=40)
theorem se(s:List Nat):hZ pE 156 [.s s] []=some (.b (rE s),[]):=by
 rw[im abd (by simp[Rq])]
 cases h:ou s <;> simp only[qA,seval,Rq,xU,Zk,HY,amq,h,rE]
theorem sf(s:List Nat):hZ pE 93 [.s s] []=some (.b (rE s),[]):=by
 rw[im aly (by simp[c93])]
 cases h:ou s <;> simp only[qA,seval,c93,xT,Zl,Ec,alY,h,rE]
theorem EC(s p:List Nat):hZ pE 216 [.s s,.s p] []=some (.b (decide (tj p s)),[]):=by
 rw[im abW (by simp[Oz])]
 by_cases h:p.length≤s.length
 ·have D:(p.length:Int)≤s.length:=by omega
  simp only[qA,seval,te,Oz,h,D,tj,Nat.sub_zero]
 ·have D: ¬(p.length:Int)≤s.length:=by omega
  simp only[qA,seval,Oz,h,D,tj]
theorem ED(s p:List Nat):hZ pE 160 [.s s,.s p] []=some (if tj p s then .tup [.s (s.drop p.length),.b true]else .tup [.s s,.b false],[]):=by
 rw[im abi (by simp[Rs])]
 have D:hZ pE 192 [.s s,.s p] []=some (if tj p s then .tup [.s (s.drop p.length),.b true]else .tup [.s s,.b false],[]):=by
  rw[im abJ (by simp[Ow])]
  by_cases h:tj p s
  ·have E:p.length≤s.length:=h.1
   have F:List.take (s.length-p.length) (s.drop p.length)=s.drop p.length:=List.take_of_length_le (by simp)
   simp only[qA,seval,te,Ow,EC,abX,h,E,F]
  ·simp only[qA,seval,Ow,EC,abX,h]
 by_cases h:tj p s <;> simp only[h]at D <;> simp only[qA,seval,Rs,D,amt,h]
theorem UF(s:List Nat):hZ pE 115 [.s s] []=some (.i .i64 (xW s),[]):=by
 by_cases E:s= [114,101,115,116]
 ·subst E;exact jZ (m:=100) (jX (by kernel_rfl))
 ·by_cases F:s= [110,105,103,104,116,115]
  ·subst F;exact jZ (m:=100) (jX (by kernel_rfl))
  ·by_cases H:s= [104,111,109,101]
   ·subst H;exact jZ (m:=100) (jX (by kernel_rfl))
   ·have h:=ED s J6
    have D:=ED s K4
    have K:J6.length=7:=rfl
    have N:K4.length=6:=rfl
    rw[xW,if_neg E,if_neg F,if_neg H]
    rw[im aaI (by simp[Kh])]
    rw[K]at h
    rw[N]at D
    by_cases I:tj J6 s
    ·rw[if_pos I]at h
     unfold J6 at h
     simp only[qA,seval,Kh,E,F,H,h,xX,Sj,L5,I]
    ·rw[if_neg I]at h
     by_cases J:tj K4 s
     ·rw[if_pos J]at D
      unfold J6 at h
      unfold K4 at D
      simp only[qA,seval,Kh,E,F,H,h,D,xX,Sj,L5,I,J]
     ·rw[if_neg J]at D
      unfold J6 at h
      unfold K4 at D
      simp only[qA,seval,Kh,E,F,H,h,D,xX,Sj,L5,I,J]
def sg(scope:Int)(s:List Nat):Int:=if kA scope s=0 then 6 else 0
theorem IW(scope:Int)(s:List Nat):hZ pE 62 [.i .i64 scope,.s s] []=some (.tup [.i .i64 (kA scope s),.i .i64 (sg scope s)],[]):=by
 rw[im alb (by simp[c62])]
 by_cases D:scope=1
 ·by_cases h:pH s=0 <;> simp only[qA,seval,c62,D,sg,kA,xX,L5,h]
 ·by_cases E:scope=2
  ·by_cases h:xW s=0 <;> simp only[qA,seval,c62,E,sg,kA,UF,alM,h]
  ·by_cases F:scope=3
   ·by_cases h:xV s=0 <;> simp only[qA,seval,c62,F,sg,kA,UE,alN,h]
   ·simp only[qA,seval,c62,D,E,F,sg,kA]
def strs(l:List (List Nat)):List T:=l.map T.s
theorem CA(l:List (List Nat)):(strs l).length=l.length:=by simp[strs]
theorem EE(l:List (List Nat))(k:Nat)(h:k<l.length):(strs l).drop k=T.s l[k]::(strs l).drop (k+1):=by
 rw[List.drop_eq_getElem_cons (by rw[CA];exact h)];simp[strs]
theorem CB:hZ pE 75 [.i .i64 1] []=some (.sl (strs iK) 11 true,[]):=jZ (m:=100) (jX (by kernel_rfl))
theorem wE:hZ pE 75 [.i .i64 2] []=some (.sl (strs k8) 25 false,[]):=jZ (m:=100) (jX (by kernel_rfl))
theorem K5:hZ pE 75 [.i .i64 3] []=some (.sl (strs pb) 7 true,[]):=jZ (m:=100) (jX (by kernel_rfl))
theorem K6(scope:Int)(h:scope≠1)(D:scope≠2)(E:scope≠3):hZ pE 75 [.i .i64 scope] []=some (.nilsl,[]):=by
 rw[im als (by simp[c75])]
 simp only[qA,seval,repl,c75,h,D,E]
theorem UG(s:List Nat)(v:T)(l:List (List Nat))(h:IsSl v l.length (strs l))(V:l.length<1000)(hs:s∉l)(fr:Fr)(lh:iz ib)(sh:List ib)(I:an fr 1= .s s)(H:an fr 6=v)(J:an fr 7= .i .i64 0):
  Lp pE 69 sM fr lh sh (.ext 0) fun f l s=>l=lh∧s=sh:=by
 refine px N6 (fun k f l s=>an f 7= .i .i64 (k:Int)∧l=lh∧s=sh) l.length ⟨J,rfl,rfl⟩ ?_ ?_
 ·rintro k f _ _ D E ⟨F,rfl,rfl⟩
  have K:(k:Int)<l.length:=by omega
  have N:=iM (k:=k) (by omega)
  have O: ¬l[k]=s:=fun e=>hs (e▸List.getElem_mem D)
  have U: ∀kk,pv v (.i kk (k:Int)) 1=some (.vp (T.s l[k]::(strs l).drop (k+1))):=fun kk=>by rw[h.ia (sz:=1) (by rw[CA];omega) D,Nat.mul_one,EE l k D]
  simp only[qB,seval,gd,sM,E,I,H,F,h.lenI,K,U,O,N]
 ·rintro f _ _ E ⟨F,rfl,rfl⟩
  simp only[qB,seval,gd,sM,E,H,F,h.lenI,Int.lt_irrefl]
theorem xY(s:List Nat):hZ pE 131 [.i .i64 1,.s s] []=some (.tup [.i .i64 (pH s),.i .i64 (if pH s=0 then 6 else 0)],[]):=by
 rw[im BP (by simp[tN])]
 simp only[qB,seval,te,lu,repl,tN,CB,Kq,vq,sM,strs,iK,pH,Zh,Zi,Zj,List.mem_cons,List.not_mem_nil,or_false]
 grind (splits:=40)
theorem PC(s:List Nat):hZ pE 131 [.i .i64 3,.s s] []=some (.tup [.i .i64 (xV s),.i .i64 (if xV s=0 then 6 else 0)],[]):=by
 rw[im BP (by simp[tN])]
 simp only[qB,seval,te,lu,repl,tN,K5,Kq,vq,sM,strs,pb,xV,MV,MW,List.mem_cons,List.not_mem_nil,or_false]
 grind (splits:=40)
theorem PD{s:List Nat}(hs:s∈k8):s= [114,101,115,116]∨s= [110,105,103,104,116,115]∨s= [104,111,109,101]∨(7<s.length∧s.take 7=J6)∨(6<s.length∧s.take 6=K4):=by
 simp only[k8,List.mem_cons,List.not_mem_nil,or_false]at hs
 rcases hs with rfl|rfl|rfl|rfl|rfl|rfl|rfl|rfl|rfl|rfl|rfl|rfl|rfl|rfl|rfl|rfl|rfl|rfl|rfl|rfl|rfl|rfl|rfl|rfl|rfl <;> decide
theorem CC(s:List Nat):tj J6 s↔(7≤s.length∧s.take 7=J6):=Iff.rfl
theorem CD(s:List Nat):tj K4 s↔(6≤s.length∧s.take 6=K4):=Iff.rfl
theorem PE(s:List Nat):hZ pE 131 [.i .i64 2,.s s] []=some (.tup [.i .i64 (xW s),.i .i64 (if xW s=0 then 6 else 0)],[]):=by
 by_cases O:s= [114,101,115,116]
 ·subst O;exact jZ (m:=100) (jX (by kernel_rfl))
 by_cases U:s= [110,105,103,104,116,115]
 ·subst U;exact jZ (m:=100) (jX (by kernel_rfl))
 by_cases V:s= [104,111,109,101]
 ·subst V;exact jZ (m:=100) (jX (by kernel_rfl))
 rw[xW,if_neg O,if_neg U,if_neg V]
 by_cases J:tj J6 s
 ·rw[if_pos J]
  have W:=(CC s).1 J
  by_cases F:7<s.length
  ·have E:(7:Int)<s.length:=by omega
   have D:7≤s.length:=by omega
   have e:=W.2
   unfold J6 at e
   have K:List.take (s.length-7) (s.drop 7)=s.drop 7:=List.take_of_length_le (by simp)
   rw[im BP (by simp[tN])]
   simp only[qA,seval,te,tN,E,D,Nat.sub_zero,e,xY,vV,K]
  ·have:s=J6:=by
    grind
   subst this
   exact jZ (m:=100) (jX (by kernel_rfl))
 ·rw[if_neg J]
  have b1: ¬((7:Int)<s.length∧s.take 7=J6):=fun⟨a,b⟩=>J ((CC s).2 ⟨by omega,b⟩)
  by_cases N:tj K4 s
  ·rw[if_pos N]
   have OI:=(CD s).1 N
   by_cases F:6<s.length
   ·have E:(6:Int)<s.length:=by omega
    have D:6≤s.length:=by omega
    have e:=OI.2
    unfold K4 at e
    have K:List.take (s.length-6) (s.drop 6)=s.drop 6:=List.take_of_length_le (by simp)
    rw[im BP (by simp[tN])]
    by_cases H:(7:Int)<s.length
    ·have I:7≤s.length:=by omega
     have X: ¬s.take 7= [98,101,102,111,114,101,46]:=fun b=>b1 ⟨H,b⟩
     simp only[qA,seval,te,tN,E,D,H,I,X,Nat.sub_zero,e,xY,vV,K]
    ·simp only[qA,seval,te,tN,E,D,H,Nat.sub_zero,e,xY,vV,K]
   ·have:s=K4:=by
     grind
    subst this
    exact jZ (m:=100) (jX (by kernel_rfl))
  ·rw[if_neg N]
   have b2: ¬((6:Int)<s.length∧s.take 6=K4):=fun⟨a,b⟩=>N ((CD s).2 ⟨by omega,b⟩)
   have hs:s∉k8:=fun hm=>by
    rcases PD hm with h|h|h|⟨a,b⟩|⟨a,b⟩
    ·exact O h
    ·exact U h
    ·exact V h
    ·grind
    ·grind
   have Y:=UG s (.sl (strs k8) 25 false) k8 (Or.inr ⟨false,rfl⟩) (by decide) hs
   rw[im BP (by simp[tN])]
   by_cases H:(7:Int)<s.length
   ·have F:(6:Int)<s.length:=by omega
    have I:7≤s.length:=by omega
    have D:6≤s.length:=by omega
    have X: ¬s.take 7= [98,101,102,111,114,101,46]:=fun b=>b1 ⟨H,b⟩
    have Z: ¬s.take 6= [97,102,116,101,114,46]:=fun b=>b2 ⟨F,b⟩
    simp only[qA,seval,te,tN,F,H,D,I,X,Z,Nat.sub_zero,wE,Kq,Y]
   ·by_cases F:(6:Int)<s.length
    ·have D:6≤s.length:=by omega
     have Z: ¬s.take 6= [97,102,116,101,114,46]:=fun b=>b2 ⟨F,b⟩
     simp only[qA,seval,te,tN,F,H,D,Z,Nat.sub_zero,wE,Kq,Y]
    ·simp only[qA,seval,te,tN,F,H,wE,Kq,Y]
theorem xZ(scope:Int)(s:List Nat):hZ pE 131 [.i .i64 scope,.s s] []=some (.tup [.i .i64 (kA scope s),.i .i64 (sg scope s)],[]):=by
 unfold sg kA
 by_cases D:scope=1
 ·grind [xY]
 ·by_cases h:scope=2
  ·grind [PE]
  ·by_cases E:scope=3
   ·grind [PC]
   ·simp only[D,h,E,if_false,if_true]
    rw[im BP (by simp[tN])]
    have F:=UG s .nilsl [] (Or.inl ⟨rfl,rfl,rfl⟩) (by decide) (by simp)
    simp only[qA,seval,te,tN,h,K6 scope D h E,Kq,F]
def oK:List Nat→Option Nat
 | []=>none
 |c::cs=>if c=46 then some 0 else(oK cs).map (· +1)
def tl(s:List Nat):Bool:=match oK s with
 |none=>rE s
 |some i=>ou (s.take i)&&ou (s.drop (i+1))
def j5(op:Int)(n:Nat):Bool:=
 if op≤6 then decide (n=0)else if op=7∨op=19 then decide (n=1)else if op=12∨op=13 then decide (2≤n)
 else if op=14∨op=15 then decide (n=3)else decide (n=2)
def CE(op:Int):Int:=if op=1∨op=2 then 1099511627776 else if op=3 then 1439 else 0
def rF(op num:Int)(name:List Nat)(n:Nat):Bool:=
 decide (1≤op)&&(decide (op≤22)&&(j5 op n&&(decide (0≤num∧num≤CE op)&&(if op=6 then tl name else decide (name= [])))))
mutual
def Ex.wf:Ex→Bool
 | .mk op num name args=>rF op num name args.length&&wP args
def wP:List Ex→Bool
 | []=>true
 |x::xs=>x.wf&&wP xs
end
theorem Ex.wf_eq(x:Ex):x.wf=(rF x.op x.num x.name x.args.length&&wP x.args):=by obtain⟨_,_,_,_⟩:=x;rw[Ex.wf];rfl
theorem vw: ∀{xs:List Ex},wP xs=true↔ ∀x∈xs,x.wf=true
 | []=>by simp[wP]
 |x::xs=>by rw[wP,Bool.and_eq_true,vw (xs:=xs)];simp
def big(x:Ex):Prop:=200<x.nodes∨16<x.depth
instance (x:Ex):Decidable (big x):=by unfold big;infer_instance
def jh(x:Ex):Int:=if big x then 10 else if x.wf then 0 else 1
def mi(ts:List Int)(k:Int):Bool:=ts.all fun t=>decide (t=k)
def CF(op a b:Int):Int:=
 if a=1∧b=1 then 1 else if a=2∧b=1 then 2 else if op=10∧a=1∧b=2 then 2 else if op=11∧a=2∧b=2 then 1 else 0
def a0(ts:List Int):Int:=ts.getD 0 0
def a1(ts:List Int):Int:=ts.getD 1 0
def a2(ts:List Int):Int:=ts.getD 2 0
def py(op:Int)(ts:List Int):Int:=
 if op=1 then 1 else if op=2 then 2 else if op=3 then 3 else if op=4 then 4 else if op=5 then 4
 else if op=7∨op=8∨op=9∨op=12∨op=13 then(if mi ts 1 then 1 else if mi ts 2 then 2 else 0)
 else if op=10∨op=11 then CF op (a0 ts) (a1 ts)
 else if op=14 then(if a0 ts=4∧a1 ts=a2 ts then a1 ts else 0)
 else if op=15 then(if mi ts 3 then 4 else 0)
 else if op=16∨op=17 then(if(a0 ts=1∨a0 ts=2)∧a0 ts=a1 ts then 4 else 0)
 else if op=18 then(if a0 ts=a1 ts then 4 else 0)
 else(if mi ts 4 then 4 else 0)
mutual
def Ex.ty(cl:List Nat→Int×Int)(scope:Int):Ex→Int×Int
 | .mk op _ name args=>
   if op=6 then(if kA scope name≠0 then(kA scope name,0)else cl name)
   else match pc cl scope args with
    | .error e=>(0,e)
    | .ok ts=>if py op ts=0 then(0,9)else(py op ts,0)
def pc(cl:List Nat→Int×Int)(scope:Int):List Ex→Except Int (List Int)
 | []=> .ok []
 |x::xs=>if(x.ty cl scope).2≠0 then .error (x.ty cl scope).2 else match pc cl scope xs with
  | .error e=> .error e
  | .ok ts=> .ok ((x.ty cl scope).1::ts)
end
theorem Ex.ty_eq(cl:List Nat→Int×Int)(scope:Int)(x:Ex):x.ty cl scope=
  if x.op=6 then(if kA scope x.name≠0 then(kA scope x.name,0)else cl x.name)
  else match pc cl scope x.args with
   | .error e=>(0,e)
   | .ok ts=>if py x.op ts=0 then(0,9)else(py x.op ts,0):=by obtain⟨_,_,_,_⟩:=x;rw[Ex.ty];rfl
abbrev Cs:=List (List Nat×Ex)
def lN:Cs→List Nat→Option Nat
 | [],_=>none
 |c::cs,s=>if c.1=s then some 0 else(lN cs s).map (· +1)
def clk(l:Cs)(h:List (Int×Int))(s:List Nat):Int×Int:=match lN l s with
 |none=>(0,6)
 |some i=>h.getD i (0,6)
def tV(l:Cs)(h:List (Int×Int))(x:Ex):Int×Int:=if jh x≠0 then(0,jh x)else x.ty (clk l h) 0
def kB(l:Cs):Nat→List (Int×Int)
 |0=> []
 |n+1=>kB l n++ [tV (l.take n) (kB l n) (l.getD n ([],.mk 0 0 [] [])).2]
def si(l:Cs)(scope:Int)(x:Ex):Int×Int:=if jh x≠0 then(0,jh x)else x.ty (clk l (kB l l.length)) scope
def isLit(x:Ex):Bool:=match x with
 | .mk op _ _ args=>decide (op=1∨op=2∨op=3∨op=4∨op=5)||(decide (op=7)&&(match args with|y::_=>decide (y.op=1∨y.op=2)| []=>false))
def Zm(x:Ex):Int:=match x with
 | .mk op num _ args=>if op=4 then 1 else if op=5 then 0 else if op=7 then(match args with|y::_=> -y.num| []=>0)else num
def nP(op num:Int):Ex:= .mk op num [] []
def vP(k n:Int):Ex:=
 if k=4 then(if n=0 then nP 5 0 else nP 4 0)else if k=3 then nP 3 n
 else if n<0 then .mk 7 0 [] [nP (if k=2 then 2 else 1) (-n)]else nP (if k=2 then 2 else 1) n
def jj(n:Int):Int:=max (-1099511627776) (min 1099511627776 n)
def K7(a b:Int):Int:=if b=0 then 0 else jj (Int.fdiv a b)
def kC(c f t:Int):Bool:=if f≤t then decide (f≤c∧c<t)else decide (f≤c∨c<t)
def uE(b:Bool):Int:=if b then 1 else 0
def afr:Int→List Int→Int
 |m,[]=>m
 |m,v::h=>afr (min m v) h
def afs:Int→List Int→Int
 |m,[]=>m
 |m,v::h=>afs (max m v) h
def DL(op:Int)(h:List Int):Int:=
 if op=7 then-a0 h else if op=8 then jj (a0 h+a1 h)else if op=9 then jj (a0 h-a1 h)else if op=10 then jj (a0 h*a1 h)
 else if op=11 then K7 (a0 h) (a1 h)else if op=12 then afr (a0 h) h.tail else if op=13 then afs (a0 h) h.tail
 else if op=14 then(if a0 h=0 then a2 h else a1 h)else if op=15 then uE (kC (a0 h) (a1 h) (a2 h))
 else if op=16 then uE (decide (a0 h<a1 h))else if op=17 then uE (decide (a0 h≤a1 h))else if op=18 then uE (decide (a0 h=a1 h))
 else if op=19 then 1-a0 h else if op=20 then min (a0 h) (a1 h)else if op=21 then max (a0 h) (a1 h)else max (1-a0 h) (a1 h)
def UH(x:Ex):Bool:=decide (x.op=1∨x.op=2)&&decide (x.num=0)
def afu(x:Ex):Bool:=decide (x.op=1)&&decide (x.num=1)
def aor(op:Int)(h:List Ex):Ex:=
 match h with
 | [a]=>if op=19∧a.op=19 then a.args.headD (nP 0 0)else .mk op 0 [] h
 | [a,b]=>
   if op=20 then(if a.op=5∨b.op=5 then nP 5 0 else if a.op=4 then b else if b.op=4 then a else .mk op 0 [] h)
   else if op=21 then(if a.op=4∨b.op=4 then nP 4 0 else if a.op=5 then b else if b.op=5 then a else .mk op 0 [] h)
   else if op=22 then(if a.op=5∨b.op=4 then nP 4 0 else if a.op=4 then b else if b.op=5 then(if a.op=19 then a.args.headD (nP 0 0)else .mk 19 0 [] [a])else .mk op 0 [] h)
   else if op=8 then(if UH b then a else if UH a then b else .mk op 0 [] h)
   else if op=9 then(if UH b then a else .mk op 0 [] h)
   else if op=10 then(if afu b then a else if afu a then b else .mk op 0 [] h)
   else if op=11 then(if afu b then a else .mk op 0 [] h)
   else .mk op 0 [] h
 | [a,b,c]=>if op=14 then(if a.op=4 then b else if a.op=5 then c else .mk op 0 [] h)else .mk op 0 [] h
 |_=> .mk op 0 [] h
mutual
def Ex.fold(cl:List Nat→Int×Int)(cx:List Nat→Ex)(scope:Int):Ex→Ex
 | .mk op num name args=>
   if op=6 then(if kA scope name≠0 then .mk op num name args else cx name)
   else if args.isEmpty then .mk op num name args
   else if(rf cl cx scope args).all isLit then vP ((Ex.mk op num name args).ty cl scope).1 (DL op ((rf cl cx scope args).map Zm))
   else aor op (rf cl cx scope args)
def rf(cl:List Nat→Int×Int)(cx:List Nat→Ex)(scope:Int):List Ex→List Ex
 | []=> []
 |x::xs=>x.fold cl cx scope::rf cl cx scope xs
end
theorem pd{k:Nat}(h:k≤1000000):wr .i64 ((k:Int)+1)=((k+1:Nat):Int):=iM (Nat.lt_of_le_of_lt h (by decide))
theorem Zn{a b:Nat}(h:a≤1000000)(D:b≤1000000):wr .i64 ((a:Int)+b)=((a+b:Nat):Int):=by
 rw[jw (by omega)];omega
def oh:Nat:=1000000
theorem kI{k:Nat}(h:k≤100000):k≤oh:=Nat.le_trans h (by decide)
theorem iG{k:Nat}(h:k≤oh):wr .i64 ((k:Int)+1)=((k+1:Nat):Int):=pd h
def mJ:Nat:=1125899906842624
theorem yb{k:Nat}(h:k≤mJ):wr .i64 ((k:Int)+1)=((k+1:Nat):Int):=iM (Nat.lt_of_le_of_lt h (by decide))
def CG(n:Nat):List ib:= [⟨1,.cells [.i .i64 (n:Int)] 0 true⟩]
def ki(n level:Nat)(x:Ex):Prop:=n+x.nodes≤200∧level+x.depth≤17
def ji(n level:Nat)(xs:List Ex):Prop:=n+jz xs≤200∧level+oJ xs≤17
instance (n level:Nat) (x:Ex):Decidable (ki n level x):=by unfold ki;infer_instance
instance (n level:Nat) (x:List Ex):Decidable (ji n level x):=by unfold ji;infer_instance
theorem vA{xs:List Ex}{k:Nat}(h:k<xs.length):xs.drop k=xs[k]::xs.drop (k+1):=List.drop_eq_getElem_cons h
def aos(level n:Nat)(a:T)(xs:List Ex)(k:Nat)(st:St):Prop:=
 ∃fr lh m,st=⟨fr,lh,CG m⟩∧an fr 1= .i .i64 (level:Int)∧an fr 2= .ptr .S 0 1 0∧an fr 23=a∧an fr 24= .i .i64 (xs.length:Int)∧an fr 25= .i .i64 (k:Int)∧
  k≤m∧m≤200∧(ji m (level+1) (xs.drop k)↔ji n (level+1) xs)∧(ji n (level+1) xs→m+jz (xs.drop k)=n+jz xs)
def acu(y:Ex):Prop:= ∀(level n:Nat) (cs:List T),lv y cs→n≤200→level≤17→ ∃h:Nat,hZ pE 157 [.agg cs,.i .i64 (level:Int),.ptr .S 0 1 0] (CG n)=some (.b (decide (ki n level y)),CG h)∧(ki n level y→h=n+y.nodes)
theorem aot(xs:List Ex)(ih: ∀y∈xs,acu y)(a:T)(U:List T)(ha:IsSl a xs.length U)(hx:jx xs U)(level n:Nat)(hl:level≤16)(hn:n≤200)(o:Out)(V:o=if ji n (level+1) xs then .ext 0 else .ret)(fr:Fr)(lh:iz ib)(sh:List ib)(lC:sh=CG n)
  (E:an fr 1= .i .i64 (level:Int)) (F:an fr 2= .ptr .S 0 1 0) (K8:an fr 23=a) (PF:an fr 24= .i .i64 (xs.length:Int)) (h:an fr 25= .i .i64 0):
  rD 36 qN fr lh sh o∧
  ((ji n (level+1) xs→ng pE 36 qN fr lh sh=CG (n+jz xs))∧(¬ji n (level+1) xs→an (pw pE 36 qN fr lh sh) 6= .b false∧ ∃m,ng pE 36 qN fr lh sh=CG m)):=by
 refine jc (P:=fun fr lh sh=>(ji n (level+1) xs→sh=CG (n+jz xs))∧(¬ji n (level+1) xs→an fr 6= .b false∧ ∃m,sh=CG m)) (jm (aos level n a xs) _ xs.length ?_ ?_ 0 _ (Nat.zero_le _) ⟨fr,lh,n,by rw[lC],E,F,K8,PF,h,Nat.zero_le _,hn,Iff.rfl,fun _=>rfl⟩)
 ·rintro k _ N ⟨fr,lh,m,rfl,E,F,K8,PF,h,UI,W,H,hs⟩
  have X:(k:Int)<xs.length:=by omega
  have Mo:=xs[k].nodes_eq
  have hw:=pd (k:=k) (by omega)
  have MX:=pd (k:=level) (by omega)
  obtain⟨b,cb,r,Y,Z,tK,hb⟩:=nJ ha hx k N
  obtain⟨m',K,O⟩:=ih xs[k] (List.getElem_mem N) (level+1) m _ hb W (by omega)
  rw[vA N]at H hs
  simp only[ji,jz,oJ]at H hs
  by_cases I:ki m (level+1) xs[k]
  ·left
   rw[decide_eq_true I]at K
   simp only[qA,seval,kD,qN,E,F,K8,PF,h,X,Y,hw,MX,K,Mb,Z.kept1]
   refine⟨_,rfl,_,_,m',rfl, ?_, ?_, ?_, ?_, ?_, ?_, ?_, ?_, ?_⟩
   all_goals first|(simp only[qA,seval,E,F,K8,PF];done)|skip
   all_goals (rw[O I];unfold ki at I;first|omega|(simp only[ji];omega)|(intro J;have:=hs (by simpa only[ji]using J);omega))
  ·right
   rw[decide_eq_false I]at K
   simp only[qA,seval,kD,qN,E,F,K8,PF,h,X,Y,MX,K,Mb,Z.kept1]
   have tT: ¬ji n (level+1) xs:=by unfold ki at I;unfold ji;omega
   refine⟨_,_,HS,rfl, ?_,fun J=>absurd J tT,fun _=>⟨by simp only[qA,seval],m',rfl⟩⟩
   rw[V,if_neg tT]
 ·rintro _ ⟨fr,lh,m,rfl,E,F,K8,PF,h,UI,W,H,hs⟩
  rw[List.drop_length]at H hs
  have D:ji n (level+1) xs:=H.1 (by unfold ji;rw[jz,oJ];omega)
  simp only[qA,seval,qN,PF,h,Int.lt_irrefl]
  refine⟨_,_,qH,rfl,by rw[V,if_pos D],fun _=> ?_,fun J=>absurd D J⟩
  have:=hs D
  rw[jz,Nat.add_zero]at this
  rw[this]
theorem Zp(x:Ex):acu x:=by
 induction x using Ex.ind with
 |h x ih=>
  intro level n cs V hn hl
  obtain⟨a,W,rfl,U,AJ⟩:=V.cells
  rw[im abe (by simp[HQ])]
  have J:=pd (k:=n) (by omega)
  have Y:=x.nodes_eq
  have Z:=x.depth_eq
  unfold CG
  by_cases E:(200:Int)<((n+1:Nat):Int)
  ·have D: ¬ki n level x:=by unfold ki;omega
   rw[decide_eq_false D]
   simp only[qA,seval,nl,HQ,J,E]
   exact⟨n+1,rfl,fun h=>absurd h D⟩
  ·by_cases F:(16:Int)<(level:Int)
   ·have D: ¬ki n level x:=by unfold ki;omega
    rw[decide_eq_false D]
    simp only[qA,seval,nl,HQ,J,E,F]
    exact⟨n+1,rfl,fun h=>absurd h D⟩
   ·have IX:ki n level x↔ji (n+1) (level+1) x.args:=by unfold ki ji;omega
    have H:=fun fr lh sh I=>aot x.args ih a W U AJ level (n+1) (by omega) (by omega) _ rfl fr lh sh I
    unfold CG at H
    by_cases D:ji (n+1) (level+1) x.args
    ·rw[decide_eq_true (IX.2 D)]
     simp only[D,if_true,forall_const,not_true_eq_false,false_implies,and_true]at H
     simp only[qA,seval,nl,HQ,J,E,F,U.lenI,H]
     exact⟨n+1+jz x.args,rfl,fun _=>by omega⟩
    ·rw[decide_eq_false (fun h=>D (IX.1 h))]
     simp only[D,if_false,forall_const,not_false_eq_true,false_implies,true_and]at H
     have Zq:=fun fr lh sh I E F K N O=>(H fr lh sh I E F K N O).2.2
     have Ha:=fun fr lh sh I E F K N O=>And.intro (H fr lh sh I E F K N O).1 (H fr lh sh I E F K N O).2.1
     simp only[qA,seval,nl,HQ,J,E,F,U.lenI,Ha]
     generalize hX:ng _ _ _ _ _ _=X
     obtain⟨m,hm⟩: ∃m:Nat,X= [⟨1,.cells [.i .i64 (m:Int)] 0 true⟩]:=by
      rw[←hX]
      refine Zq _ _ _ rfl ?_ ?_ ?_ ?_ ?_ <;> simp only[qA,seval]
     rw[hm]
     exact⟨m,rfl,fun h=>absurd (IX.1 h) D⟩
mutual
def Ex.sz:Ex→Nat→Nat×Nat
 | .mk _ _ _ args,level=>if 16<level then(1,1)else AZ args level (1,1)
def AZ:List Ex→Nat→Nat×Nat→Nat×Nat
 | [],_,p=>p
 |x::xs,level,p=>if p.1≤200 then AZ xs level (p.1+(x.sz (level+1)).1,max p.2 ((x.sz (level+1)).2+1))else p
end
theorem Ex.sz_eq(x:Ex)(level:Nat):x.sz level=if 16<level then(1,1)else AZ x.args level (1,1):=by obtain⟨_,_,_,_⟩:=x;rw[Ex.sz];rfl
theorem afw{xs:List Ex}{level:Nat}(ih: ∀y∈xs,(y.sz (level+1)).1≤1+200*(17-(level+1))∧(y.sz (level+1)).2≤18-(level+1))(D:level≤16): ∀p:Nat×Nat,p.1≤1+200*(17-level)→p.2≤18-level→(AZ xs level p).1≤1+200*(17-level)∧(AZ xs level p).2≤18-level:=by
 induction xs with
 |nil=>grind [AZ]
 |cons y E Ta=>
  intro p F H
  rw[AZ]
  have I:=ih y (by simp)
  split
  ·refine Ta (fun z h=>ih z (by simp[h])) _ ?_ ?_ <;> simp only <;> omega
  ·grind
theorem aou(x:Ex): ∀level,level≤17→(x.sz level).1≤1+200*(17-level)∧(x.sz level).2≤18-level:=by
 induction x using Ex.ind with
 |h x ih=>
  intro level E
  rw[Ex.sz_eq]
  split
  ·grind
  ·exact afw (fun y D=>ih y D (level+1) (by omega)) (by omega) _ (by simp only;omega) (by simp only;omega)
theorem afx(x:Ex){level:Nat}(h:level≤17):(x.sz level).1≤4000∧(x.sz level).2≤18:=by
 grind [aou]
theorem CH: ∀(xs:List Ex) (level:Nat) (p:Nat×Nat),p.1≤(AZ xs level p).1∧p.2≤(AZ xs level p).2
 | [],level,p=>by rw[AZ];simp
 |x::xs,level,p=>by
  rw[AZ]
  split
  ·have:=CH xs level (p.1+(x.sz (level+1)).1,max p.2 ((x.sz (level+1)).2+1))
   grind
  ·simp
def aov(x:Ex):Prop:= ∀level,level≤17→if ki 0 level x then x.sz level=(x.nodes,x.depth)else 200<(x.sz level).1∨17<level+(x.sz level).2
theorem afy{xs:List Ex}{level:Nat}(ih: ∀y∈xs,aov y)(N:level≤16): ∀p:Nat×Nat,1≤p.2→p.1≤200→
  if ji p.1 (level+1) xs then AZ xs level p=(p.1+jz xs,max p.2 (oJ xs+1))else 200<(AZ xs level p).1∨17<level+(AZ xs level p).2:=by
 induction xs with
 |nil=>
  grind [ji,jz,oJ,AZ,Nat.max_eq_left]
 |cons y D Ta=>
  intro p O I
  have H:=ih y (by simp) (level+1) (by omega)
  have WI:=Ta fun z J=>ih z (by simp[J])
  have UJ:=CH D level (p.1+(y.sz (level+1)).1,max p.2 ((y.sz (level+1)).2+1))
  rw[AZ,if_pos I]
  by_cases E:ki 0 (level+1) y
  ·rw[if_pos E]at H
   rw[H]at UJ ⊢
   simp only at UJ ⊢
   by_cases K:p.1+y.nodes≤200
   ·have:=WI (p.1+y.nodes,max p.2 (y.depth+1)) (by simp only;omega) K
    simp only at this
    by_cases F:ji (p.1+y.nodes) (level+1) D
    ·rw[if_pos F]at this
     have h:ji p.1 (level+1) (y::D):=by unfold ji at F ⊢; unfold ki at E;rw[jz,oJ];omega
     rw[if_pos h,this,jz,oJ]
     refine Prod.ext ?_ ?_ <;> simp only <;> omega
    ·rw[if_neg F]at this
     have h: ¬ji p.1 (level+1) (y::D):=by unfold ji at F ⊢; unfold ki at E;rw[jz,oJ];omega
     rw[if_neg h];exact this
   ·have h: ¬ji p.1 (level+1) (y::D):=by unfold ji;rw[jz,oJ];omega
    rw[if_neg h];omega
  ·rw[if_neg E]at H
   have h: ¬ji p.1 (level+1) (y::D):=by unfold ji;unfold ki at E;rw[jz,oJ];omega
   rw[if_neg h]
   simp only at UJ;omega
theorem aow(x:Ex):aov x:=by
 induction x using Ex.ind with
 |h x ih=>
  intro level I
  have F:=x.nodes_eq
  have H:=x.depth_eq
  rw[Ex.sz_eq]
  by_cases h:16<level
  ·grind [ki]
  ·rw[if_neg h]
   have:=afy ih (level:=level) (by omega) (1,1) (by simp) (by simp)
   simp only at this
   by_cases D:ji 1 (level+1) x.args
   ·rw[if_pos D]at this
    have E:ki 0 level x:=by unfold ji at D;unfold ki;omega
    rw[if_pos E,this]
    refine Prod.ext ?_ ?_ <;> simp only <;> omega
   ·rw[if_neg D]at this
    have E: ¬ki 0 level x:=by unfold ji at D;unfold ki;omega
    rw[if_neg E];exact this
theorem afz(x:Ex):(200<(x.sz 1).1∨16<(x.sz 1).2)↔big x:=by
 have:=aow x 1 (by omega)
 grind [big,ki]
def szP(y:Ex):Prop:= ∀(level:Nat) (cs:List T),lv y cs→level≤17→hZ pE 185 [.agg cs,.i .i64 (level:Int)] []=some (.tup [.i .i64 ((y.sz level).1:Int),.i .i64 ((y.sz level).2:Int)],[])
theorem aox(xs:List Ex)(ih: ∀y∈xs,szP y)(a:T)(cc:List T)(J:IsSl a xs.length cc)(hx:jx xs cc)(level:Nat)(hl:level≤16)(op num:Int)(s:List Nat)(g:Nat)(fr:Fr)(lh:iz ib)(sh:List ib)
  (F:an fr 1= .i .i64 (level:Int)) (D:an fr 2= .ptr .L 2 g 0) (E:an fr 6= .i .i64 1) (H:an fr 7= .i .i64 1) (I:an fr 8= .i .i64 0) (N:a6 lh 2=⟨g,.cells [.i .i64 op,.i .i64 num,.s s,a] 0 true⟩):
  rD 44 oM fr lh sh (.ext 0)∧
  (an (pw pE 44 oM fr lh sh) 6= .i .i64 ((AZ xs level (1,1)).1:Int)∧an (pw pE 44 oM fr lh sh) 7= .i .i64 ((AZ xs level (1,1)).2:Int)∧lZ pE 44 oM fr lh sh=lh∧ng pE 44 oM fr lh sh=sh):=by
 refine jc (P:=fun fr iN jb=>an fr 6= .i .i64 ((AZ xs level (1,1)).1:Int)∧an fr 7= .i .i64 ((AZ xs level (1,1)).2:Int)∧iN=lh∧jb=sh) (jm (fun k st=> ∃(fr:Fr) (p:Nat×Nat),st=⟨fr,lh,sh⟩∧an fr 1= .i .i64 (level:Int)∧an fr 2= .ptr .L 2 g 0∧an fr 6= .i .i64 (p.1:Int)∧an fr 7= .i .i64 (p.2:Int)∧an fr 8= .i .i64 (k:Int)∧
   AZ (xs.drop k) level p=AZ xs level (1,1)∧k≤p.1∧p.2≤19∧p.1≤4300) _ xs.length ?_ ?_ 0 _ (Nat.zero_le _) ⟨fr,(1,1),rfl,F,D,E,H,I,rfl,by simp,by simp,by simp⟩)
 ·rintro k _ U ⟨fr,p,rfl,F,D,E,H,I,h,hp,V,W⟩
  have X:(k:Int)<xs.length:=by omega
  obtain⟨b,cb,r,iS,kg,tK,hb⟩:=nJ J hx k U
  have Y:=ih xs[k] (List.getElem_mem U) (level+1) _ hb (by omega)
  have tU:=afx xs[k] (level:=level+1) (by omega)
  have wy:1≤(xs[k].sz (level+1)).1:=by
   rw[Ex.sz_eq];split
   ·simp
   ·exact(CH xs[k].args (level+1) (1,1)).1
  rw[vA U,AZ]at h
  generalize xs[k].sz (level+1)=q at Y tU wy h
  obtain⟨Z,hq2⟩:=tU
  by_cases O:p.1≤200
  ·left
   have Zr:(p.1:Int)≤200:=by omega
   have hw:=pd (k:=k) (Nat.le_trans hp (Nat.le_trans O (by decide)))
   have MX:=pd (k:=level) (Nat.le_trans hl (by decide))
   have K:=pd (k:=q.2) (Nat.le_trans hq2 (by decide))
   have WM:=Zn (a:=p.1) (b:=q.1) (Nat.le_trans O (by decide)) (Nat.le_trans Z (by decide))
   rw[if_pos O]at h
   by_cases Wy:(p.2:Int)<((q.2+1:Nat):Int)
   ·have azY:(p.2:Int)<((q.2+1:Nat):Int):=Wy
    simp only[qA,seval,oM,F,D,E,H,I,N,X,J.lenI,Zr,iS,hw,MX,K,WM,Y,Sv,kg.froz1,Wy]
    refine⟨_,rfl,_,(p.1+q.1,q.2+1),rfl, ?_, ?_, ?_, ?_, ?_, ?_, ?_, ?_, ?_⟩
    all_goals first|(simp only[qA,seval,F,D];done)|skip
    ·grind
    all_goals (simp only;omega)
   ·simp only[qA,seval,oM,F,D,E,H,I,N,X,J.lenI,Zr,iS,hw,MX,K,WM,Y,Sv,kg.froz1,Wy]
    refine⟨_,rfl,_,(p.1+q.1,p.2),rfl, ?_, ?_, ?_, ?_, ?_, ?_, ?_, ?_, ?_⟩
    all_goals first|(simp only[qA,seval,F,D];done)|skip
    ·grind
    all_goals (simp only;omega)
  ·right
   have Zr: ¬(p.1:Int)≤200:=by omega
   rw[if_neg O]at h
   simp only[qA,seval,oM,D,E,I,N,X,J.lenI,Zr]
   exact⟨_,_,qH,rfl,rfl,by simp only[qA,seval,E,←h],by simp only[qA,seval,H,←h],rfl,rfl⟩
 ·rintro _ ⟨fr,p,rfl,F,D,E,H,I,h,hp,V,W⟩
  rw[List.drop_length,AZ]at h
  simp only[qA,seval,oM,D,I,N,J.lenI,Int.lt_irrefl]
  exact⟨_,_,qH,rfl,rfl,by simp only[qA,seval,E,←h],by simp only[qA,seval,H,←h],rfl,rfl⟩
end Go.Proofs.YtbdfboojnfinkaaGreat
