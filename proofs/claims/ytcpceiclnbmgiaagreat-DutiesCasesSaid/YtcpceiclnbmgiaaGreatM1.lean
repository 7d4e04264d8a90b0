/- Walks of functions of the program and of the reference, and their plain laws, part 1. Conditions: the theorems' own. -/
import Derived.Test.YtcpceiclnbmgiaaGreatGS
import Derived.KernelRfl
set_option maxRecDepth 100000
set_option linter.unusedSimpArgs false
set_option linter.unusedVariables false
set_option maxRecDepth 1000000
set_option maxHeartbeats 16000000
namespace Go.Proofs.YtcpceiclnbmgiaaGreat
open Go Go.Ev
theorem dj{m f:Nat}{args:List T}{r:T×List ah}(h:cV pE m f args []=some r):ae pE f args []=some r:=DCall_iff.2 ⟨m,h⟩
theorem aeY{m f:Nat}{args:List T}{v:T}(h:(cV pE m f args []).map (·.1)=some v): ∃s,ae pE f args []=some (v,s):=by
 cases hc:cV pE m f args []with
 |none=>grind
 |some r=>
  rw[hc]at h
  obtain⟨a,s⟩:=r
  simp at h
  subst h
  exact⟨s,DCall_iff.2 ⟨m,hc⟩⟩
inductive Ex where
 |mk (op num:Int) (name:List Nat) (args:List Ex)
def Ex.op:Ex→Int| .mk o _ _ _=>o
def Ex.num:Ex→Int| .mk _ n _ _=>n
def Ex.name:Ex→List Nat| .mk _ _ s _=>s
def Ex.args:Ex→List Ex| .mk _ _ _ a=>a
mutual
def kz:Ex→List T
 | .mk op n s a=> [.i .i64 op,.i .i64 n,.s s,match a with| []=> .nilsl|b::r=> .sl (kz b++qn r) (r.length+1) (!decide (op=13))]
def qn:List Ex→List T
 | []=> []
 |x::r=>kz x++qn r
end
def jI(x:Ex)(cs:List T):Prop:=cs=kz x
def cG(l:List Ex)(cs:List T):Prop:=cs=qn l
theorem jI.cells{x:Ex}{cs:List T}(h:jI x cs): ∃a D,cs= [.i .i64 x.op,.i .i64 x.num,.s x.name,a]∧IsSl a x.args.length D∧cG x.args D:=by
 obtain⟨o,n,s,l⟩:=x
 unfold jI at h
 subst h
 cases l with
 |nil=>exact⟨.nilsl,[],by rw[kz];rfl,.inl ⟨rfl,rfl,rfl⟩,by rw[cG,Ex.args,qn]⟩
 |cons b r=>exact⟨_,qn (b::r),by rw[kz,qn];rfl,.inr ⟨_,rfl⟩,rfl⟩
theorem jI.len{x:Ex}{cs:List T}(h:jI x cs):cs.length=4:=by
 obtain⟨a,r,rfl,_⟩:=h.cells;rfl
theorem pD(x:Ex):(kz x).length=4:=jI.len (x:=x) rfl
theorem cG.len: ∀{xs:List Ex} {cs:List T},cG xs cs→cs.length=xs.length*4
 | [],cs,h=>by rw[cG,qn]at h;rw[h];rfl
 |x::xs,cs,h=>by
  rw[cG,qn]at h
  rw[h,List.length_append,pD,cG.len (xs:=xs) rfl,List.length_cons];omega
theorem cG.nil:cG [] []:=by rw[cG,qn]
theorem cG.cons{x:Ex}{xs:List Ex}{c r:List T}(h1:jI x c)(h2:cG xs r):cG (x::xs) (c++r):=by
 rw[cG,qn,h1,h2]
theorem cG.append: ∀{xs D:List Ex} {c r:List T},cG xs c→cG D r→cG (xs++D) (c++r)
 | [],D,c,r,h1,h2=>by rw[cG,qn]at h1;rw[h1];exact h2
 |x::xs,D,c,r,h1,h2=>by
  rw[cG,qn]at h1
  rw[h1,List.append_assoc]
  exact cG.cons rfl (cG.append rfl h2)
theorem cG.one{x:Ex}{c:List T}(h:jI x c):cG [x] c:=by
 have:=cG.cons h cG.nil
 grind
theorem cG.drop: ∀{xs:List Ex} {cs:List T} (k:Nat) (hk:k<xs.length),cG xs cs→ ∃c r,cs.drop (k*4)=c++r∧jI xs[k] c∧cG (xs.drop (k+1)) r
 | [],cs,k,hk,h=>by simp at hk
 |x::xs,cs,0,hk,h=>by
  rw[cG,qn]at h
  exact⟨_,_,by rw[h];rfl,rfl,rfl⟩
 |x::xs,cs,k+1,hk,h=>by
  rw[cG,qn]at h
  subst h
  obtain⟨D,F,e,h3,h4⟩:=cG.drop (cs:=qn xs) k (by simpa using hk) rfl
  refine⟨D,F, ?_,h3,by simpa using h4⟩
  rw[show(k+1)*4=(kz x).length+k*4 by rw[pD];omega,List.drop_length_add_append]
  exact e
theorem ma{xs:List Ex}{a:T}{F:List T}(h1:IsSl a xs.length F)(h2:cG xs F)(k:Nat)(hk:k<xs.length):
  ∃b D r,(∀kk,dV a (.i kk (k:Int)) 4=some (.vp (.i .i64 xs[k].op:: .i .i64 xs[k].num:: .s xs[k].name::b::r)))∧IsSl b xs[k].args.length D∧cG xs[k].args D∧jI xs[k] [.i .i64 xs[k].op,.i .i64 xs[k].num,.s xs[k].name,b]:=by
 obtain⟨c,r,e,h3,h4⟩:=cG.drop k hk h2
 obtain⟨b,D,rfl,h5,h6⟩:=h3.cells
 refine⟨b,D,r,fun kk=> ?_,h5,h6,h3⟩
 rw[h1.ia (sz:=4) h2.len hk,e];rfl
mutual
def Ex.nodes:Ex→Nat
 | .mk _ _ _ args=>1+ic args
def ic:List Ex→Nat
 | []=>0
 |x::xs=>x.nodes+ic xs
end
mutual
def Ex.depth:Ex→Nat
 | .mk _ _ _ args=>1+XT args
def XT:List Ex→Nat
 | []=>0
 |x::xs=>max x.depth (XT xs)
end
theorem Ex.nodes_eq(x:Ex):x.nodes=1+ic x.args:=by obtain⟨_,_,_,_⟩:=x;rw[Ex.nodes];rfl
theorem ig: ∀xs:List Ex,xs.length≤ic xs
 | []=>by simp
 |x::xs=>by
  have:=ig xs
  rw[ic,List.length_cons,x.nodes_eq];omega
theorem mb: ∀{xs:List Ex} {x:Ex},x∈xs→x.nodes≤ic xs
 |y::xs,x,h=>by
  rw[ic]
  rcases List.mem_cons.1 h with rfl|h
  ·omega
  ·have:=mb h;omega
theorem Ex.ind{P:Ex→Prop}(h: ∀x:Ex,(∀y∈x.args,P y)→P x)(x:Ex):P x:=by
 have: ∀n (x:Ex),x.nodes≤n→P x:=by
  intro n
  induction n with
  |zero=>intro x hx;rw[x.nodes_eq]at hx;omega
  |succ n ih=>
   intro x hx
   refine h x fun y r=>ih y ?_
   have:=mb r
   rw[x.nodes_eq]at hx;omega
 exact this _ x (Nat.le_refl _)
def Dh(c:Nat):Prop:=(97:Int)≤c∧(c:Int)≤122
def Ga(c:Nat):Prop:=(48:Int)≤c∧(c:Int)≤57
instance (c:Nat):Decidable (Dh c):=by unfold Dh;infer_instance
instance (c:Nat):Decidable (Ga c):=by unfold Ga;infer_instance
def sU(c:Nat):Bool:=decide (Dh c∨Ga c∨(c:Int)=95)
def np:List Nat→Bool
 | []=>false
 |c::cs=>decide (cs.length<16)&&(decide (Dh c)&&cs.all sU)
theorem I7(c:Nat):ae pE 208 [.i .u8 c] []=some (.b (decide (Dh c)),[]):=by
 rw[an ah0 (by simp[PZ])]
 by_cases h1:(97:Int)≤c
 ·by_cases h2:(c:Int)≤122 <;> simp only[qA,seval,PZ,h1,h2,Dh]
 ·simp only[qA,seval,PZ,h1,Dh]
theorem D4(c:Nat):ae pE 205 [.i .u8 c] []=some (.b (decide (Ga c)),[]):=by
 rw[an ahY (by simp[PY])]
 by_cases h1:(48:Int)≤c
 ·by_cases h2:(c:Int)≤57 <;> simp only[qA,seval,PY,h1,h2,Ga]
 ·simp only[qA,seval,PY,h1,Ga]
theorem yk{s:List Nat}{k:Nat}(hk:k<s.length)(kk:IntKind):Dg (.s s) (.i kk (k:Int))=some (.i .u8 (s[k]:Int)):=by
 rw[LG,if_pos (Int.natCast_nonneg k),Int.toNat_natCast,List.getElem?_eq_getElem hk];rfl
theorem aI{k:Nat}(h:k<4611686018427387904):wr .i64 ((k:Int)+1)=((k+1:Nat):Int):=by rw[bo zO];omega
theorem amk(s:List Nat)(hs:s.length≤16)(fr:Fr)(lh:aB ah)(sh:List ah)(h0:aa fr 0= .s s)(h3:aa fr 3= .i .i64 0):
  LpC pE 42 zq fr lh sh 0 2 (s.all sU=true) (.b false) (fun D F=>D=lh∧F=sh):=by
 refine pz apa (by simp[ba]) (fun k f D F=>aa f 3= .i .i64 (k:Int)∧D=lh∧F=sh∧s.all sU=(s.drop k).all sU) s.length ⟨h3,rfl,rfl,rfl⟩ ?_ ?_
 ·rintro k f _ _ hk r ⟨H,rfl,rfl,hr⟩
  have K:(k:Int)<s.length:=zO
  have N:=aI (k:=k) zO
  have I:=cO (I7 s[k])
  have J:=cO (D4 s[k])
  rw[List.drop_eq_getElem_cons hk,List.all_cons]at hr
  simp only[qB,seval,gd,zq,r,h0,H,K,yk hk,N,I,J,Va,ahZ]
  clear r I J
  unfold sU at*
  grind
 ·rintro f _ _ r ⟨H,rfl,rfl,hr⟩
  rw[List.drop_length,List.all_nil]at hr
  simp only[qB,seval,gd,zq,r,h0,H,Int.lt_irrefl,hr]
theorem BL(s:List Nat):ae pE 175 [.s s] []=some (.b (np s),[]):=by
 rw[an ahA (by simp[K0])]
 cases s with
 |nil=>simp only[qA,seval,K0,np]
 |cons c cs=>
  have Rd:Dg (.s (c::cs)) (.i .i64 0)=some (.i .u8 (c:Int)):=by rw[LG];rfl
  have r:=cO (I7 c)
  unfold np
  by_cases h3:cs.length<16
  ·have D:=amk (c::cs) (by simp;omega)
   simp only[qB,seval,K0,Rd,r,Va,D]
   clear D r
   grind [sU]
  ·simp only[qB,seval,K0,Rd,r,Va]
   clear r
   grind
def chC(k:Nat)(c:Nat):Bool:=decide (Dh c)||(decide (0<k)&&sU c)
def Di:Nat→List Nat→Bool
 |_,[]=>true
 |k,c::cs=>chC k c&&Di (k+1) cs
theorem I8: ∀(cs:List Nat) (k:Nat),0<k→Di k cs=cs.all sU
 | [],k,h=>rfl
 |c::cs,k,h=>by
  rw[Di,List.all_cons,I8 cs (k+1) zO]
  congr 1
  unfold chC
  by_cases h1:Dh c <;> simp[h,h1,sU]
theorem aml(s:List Nat)(hs:s.length≤16)(fr:Fr)(lh:aB ah)(sh:List ah)(h0:aa fr 0= .s s)(I:aa fr 14= .i .i64 (s.length:Int))(J:aa fr 15= .i .i64 0):
  LpC pE 44 zh fr lh sh 0 2 (Di 0 s=true) (.b false) (fun D F=>D=lh∧F=sh):=by
 refine pz apb (by simp[ba]) (fun k f D F=>aa f 15= .i .i64 (k:Int)∧D=lh∧F=sh∧Di 0 s=Di k (s.drop k)) s.length ⟨J,rfl,rfl,rfl⟩ ?_ ?_
 ·rintro k f _ _ hk r ⟨H,rfl,rfl,hr⟩
  have K:(k:Int)<s.length:=zO
  have N:=aI (k:=k) zO
  rw[List.drop_eq_getElem_cons hk,Di]at hr
  simp only[qB,seval,gd,zh,r,h0,I,H,K,yk hk,N]
  clear r
  unfold chC sU Dh Ga at*
  grind (splits:=30)
 ·rintro f _ _ r ⟨H,rfl,rfl,hr⟩
  rw[List.drop_length,Di]at hr
  simp only[qB,seval,gd,zh,r,I,H,Int.lt_irrefl,hr]
theorem BM(s:List Nat):ae pE 133 [.s s] []=some (.b (np s),[]):=by
 rw[an ag2 (by simp[PM])]
 have h3:np s=(decide (s.length≤16)&&decide (1≤s.length)&&Di 0 s):=by
  cases s with
  |nil=>rfl
  |cons c cs=>rw[Di,I8 cs 1 zO];unfold np chC;grind
 by_cases h2:s.length≤16
 ·have r:=aml s h2
  simp only[qB,seval,PM,r]
  clear r
  grind
 ·simp only[qB,seval,PM]
  grind
def amm:List (List Nat):= [[97,110,100],[111,114],[110,111,116],[105,109,112,108,105,101,115],[105,110],[116,111],[116,114,117,101],[102,97,108,115,101],[109,105,110],[109,97,120],[105,102],[116,104,101,110],[101,108,115,101]]
def aeZ:List (List Nat):= [[108,101,103,115],[104,101,97,100,115],[116,121,112,101,115]]
def ae0:List (List Nat):= [[98,108,111,99,107],[115,112,97,110],[110,105,103,104,116],[108,111,110,103,101,115,116],[115,104,111,114,116,101,115,116],[115,104,105,102,116]]
def ae1:List (List Nat):= [[115,116,97,114,116],[101,110,100]]
def Oi:List (List Nat):= [[100,117,116,105,101,115],[108,101,103,115],[104,101,97,100,115],[100,97,121,115]]
def Oj:List (List Nat):= [[98,108,111,99,107],[115,112,97,110],[99,114,101,100,105,116]]
def bG:List (List Nat):= [[108,101,103,115],[104,101,97,100,115],[116,121,112,101,115],[98,108,111,99,107],[115,112,97,110],[110,105,103,104,116],[108,111,110,103,101,115,116],[115,104,111,114,116,101,115,116],[115,104,105,102,116],[115,116,97,114,116],[101,110,100]]
def eM:List (List Nat):= [[114,101,115,116],[110,105,103,104,116,115],[104,111,109,101],[98,101,102,111,114,101,46,108,101,103,115],[98,101,102,111,114,101,46,104,101,97,100,115],[98,101,102,111,114,101,46,116,121,112,101,115],[98,101,102,111,114,101,46,98,108,111,99,107],[98,101,102,111,114,101,46,115,112,97,110],[98,101,102,111,114,101,46,110,105,103,104,116],[98,101,102,111,114,101,46,108,111,110,103,101,115,116],[98,101,102,111,114,101,46,115,104,111,114,116,101,115,116],[98,101,102,111,114,101,46,115,104,105,102,116],[98,101,102,111,114,101,46,115,116,97,114,116],[98,101,102,111,114,101,46,101,110,100],[97,102,116,101,114,46,108,101,103,115],[97,102,116,101,114,46,104,101,97,100,115],[97,102,116,101,114,46,116,121,112,101,115],[97,102,116,101,114,46,98,108,111,99,107],[97,102,116,101,114,46,115,112,97,110],[97,102,116,101,114,46,110,105,103,104,116],[97,102,116,101,114,46,108,111,110,103,101,115,116],[97,102,116,101,114,46,115,104,111,114,116,101,115,116],[97,102,116,101,114,46,115,104,105,102,116],[97,102,116,101,114,46,115,116,97,114,116],[97,102,116,101,114,46,101,110,100]]
def kO:List (List Nat):= [[100,117,116,105,101,115],[108,101,103,115],[104,101,97,100,115],[100,97,121,115],[98,108,111,99,107],[115,112,97,110],[99,114,101,100,105,116]]
def XU(s:List Nat):Bool:=decide (s∈amm)
def jB(s:List Nat):Bool:=np s&& !XU s
def lu(s:List Nat):Int:=if s∈aeZ then 1 else if s∈ae0 then 2 else if s∈ae1 then 3 else 0
def ve(s:List Nat):Int:=if s∈Oi then 1 else if s∈Oj then 2 else 0
def KM:List Nat:= [98,101,102,111,114,101,46]
def LZ:List Nat:= [97,102,116,101,114,46]
def pF(p s:List Nat):Prop:=p.length≤s.length∧s.take p.length=p
instance (p s:List Nat):Decidable (pF p s):=by unfold pF;infer_instance
def vf(s:List Nat):Int:=if s= [114,101,115,116]then 2 else if s= [110,105,103,104,116,115]then 1 else if s= [104,111,109,101]then 4 else if pF KM s then lu (s.drop 7)else if pF LZ s then lu (s.drop 6)else 0
def dZ(scope:Int)(s:List Nat):Int:=if scope=1 then lu s else if scope=2 then vf s else if scope=3 then ve s else 0
theorem ae2(s:List Nat):ae pE 212 [.s s] []=some (.b (XU s),[]):=by
 rw[an ah1 (by simp[Ud])]
 simp only[qB,seval,Ud,XU,amm,List.mem_cons,List.not_mem_nil,or_false]
 grind (splits:=40)
theorem vg(s:List Nat):ae pE 143 [.s s] []=some (.i .i64 (lu s),[]):=by
 rw[an ahb (by simp[TH])]
 simp only[qB,seval,TH,lu,aeZ,ae0,ae1,List.mem_cons,List.not_mem_nil,or_false]
 grind (splits:=40)
theorem XV(s:List Nat):ae pE 145 [.s s] []=some (.i .i64 (ve s),[]):=by
 rw[an ahd (by simp[TI])]
 simp only[qB,seval,TI,ve,Oi,Oj,List.mem_cons,List.not_mem_nil,or_false]
 grind (splits:=40)
theorem ae3(s:List Nat):ae pE 176 [.s s] []=some (.b (XU s),[]):=by
 rw[an ahB (by simp[TW])]
 simp only[qB,seval,di,repl,TW,sd,M9,XU,amm,List.mem_cons,List.not_mem_nil,or_false]
 grind (splits:=40)
theorem se(s:List Nat):ae pE 179 [.s s] []=some (.b (jB s),[]):=by
 rw[an ahC (by simp[TX])]
 cases h:np s <;> simp only[qA,seval,TX,BM,ae2,Nf,avP,h,jB]
theorem oh(s:List Nat):ae pE 130 [.s s] []=some (.b (jB s),[]):=by
 rw[an ag0 (by simp[Ty])]
 cases h:np s <;> simp only[qA,seval,Ty,BL,ae3,H4,avH,h,jB]
theorem D5(s p:List Nat):ae pE 228 [.s s,.s p] []=some (.b (decide (pF p s)),[]):=by
 rw[an aie (by simp[P3])]
 by_cases h:p.length≤s.length
 ·have r:(p.length:Int)≤s.length:=zO
  simp only[qA,seval,tq,P3,h,r,pF,Nat.sub_zero]
 ·have r: ¬(p.length:Int)≤s.length:=zO
  simp only[qA,seval,P3,h,r,pF]
theorem D6(s p:List Nat):ae pE 183 [.s s,.s p] []=some (if pF p s then .tup [.s (s.drop p.length),.b true]else .tup [.s s,.b false],[]):=by
 rw[an ahE (by simp[TZ])]
 have h1:ae pE 215 [.s s,.s p] []=some (if pF p s then .tup [.s (s.drop p.length),.b true]else .tup [.s s,.b false],[]):=by
  rw[an ah2 (by simp[P0])]
  by_cases h:pF p s
  ·have r:p.length≤s.length:=h.1
   have D:List.take (s.length-p.length) (s.drop p.length)=s.drop p.length:=List.take_of_length_le xv
   simp only[qA,seval,tq,P0,D5,aif,h,r,D]
  ·simp only[qA,seval,P0,D5,aif,h]
 by_cases h:pF p s <;> simp only[h]at h1 <;> simp only[qA,seval,TZ,h1,avQ,h]
theorem XW(s:List Nat):ae pE 144 [.s s] []=some (.i .i64 (vf s),[]):=by
 by_cases h1:s= [114,101,115,116]
 ·subst h1;exact dj (m:=100) (dh (by kernel_rfl))
 ·by_cases h2:s= [110,105,103,104,116,115]
  ·subst h2;exact dj (m:=100) (dh (by kernel_rfl))
  ·by_cases h3:s= [104,111,109,101]
   ·subst h3;exact dj (m:=100) (dh (by kernel_rfl))
   ·have r:=D6 s KM
    have D:=D6 s LZ
    have F:KM.length=7:=rfl
    have H:LZ.length=6:=rfl
    rw[vf,if_neg h1,if_neg h2,if_neg h3]
    rw[an ahc (by simp[KX])]
    rw[F]at r
    rw[H]at D
    by_cases h4:pF KM s
    ·rw[if_pos h4]at r
     unfold KM at r
     simp only[qA,seval,KX,h1,h2,h3,r,vg,U2,Nh,h4]
    ·rw[if_neg h4]at r
     by_cases h5:pF LZ s
     ·rw[if_pos h5]at D
      unfold KM at r
      unfold LZ at D
      simp only[qA,seval,KX,h1,h2,h3,r,D,vg,U2,Nh,h4,h5]
     ·rw[if_neg h5]at D
      unfold KM at r
      unfold LZ at D
      simp only[qA,seval,KX,h1,h2,h3,r,D,vg,U2,Nh,h4,h5]
def qS(scope:Int)(s:List Nat):Int:=if dZ scope s=0 then 6 else 0
theorem I9(scope:Int)(s:List Nat):ae pE 90 [.i .i64 scope,.s s] []=some (.tup [.i .i64 (dZ scope s),.i .i64 (qS scope s)],[]):=by
 rw[an auS (by simp[c90])]
 by_cases h1:scope=1
 ·by_cases h:lu s=0 <;> simp only[qA,seval,c90,h1,qS,dZ,vg,Nh,h]
 ·by_cases h2:scope=2
  ·by_cases h:vf s=0 <;> simp only[qA,seval,c90,h2,qS,dZ,XW,avp,h]
  ·by_cases h3:scope=3
   ·by_cases h:ve s=0 <;> simp only[qA,seval,c90,h3,qS,dZ,XV,avq,h]
   ·simp only[qA,seval,c90,h1,h2,h3,qS,dZ]
def strs(l:List (List Nat)):List T:=l.map T.s
theorem BN(l:List (List Nat)):(strs l).length=l.length:=by simp[strs]
theorem D7(l:List (List Nat))(k:Nat)(hk:k<l.length):(strs l).drop k=T.s l[k]::(strs l).drop (k+1):=by
 rw[List.drop_eq_getElem_cons (by rw[BN];exact hk)];simp[strs]
theorem BO:ae pE 217 [.i .i64 1] []=some (.sl (strs bG) 11 true,[]):=dj (m:=100) (dh (by kernel_rfl))
theorem tB:ae pE 217 [.i .i64 2] []=some (.sl (strs eM) 25 false,[]):=dj (m:=100) (dh (by kernel_rfl))
theorem L0:ae pE 217 [.i .i64 3] []=some (.sl (strs kO) 7 true,[]):=dj (m:=100) (dh (by kernel_rfl))
theorem L1(scope:Int)(h1:scope≠1)(h2:scope≠2)(h3:scope≠3):ae pE 217 [.i .i64 scope] []=some (.nilsl,[]):=by
 rw[an ah5 (by simp[Ue])]
 simp only[qA,seval,repl,Ue,h1,h2,h3]
theorem XX(s:List Nat)(v:T)(l:List (List Nat))(r:IsSl v l.length (strs l))(O:l.length<1000)(hs:s∉l)(fr:Fr)(lh:aB ah)(sh:List ah)(h1:aa fr 1= .s s)(h6:aa fr 6=v)(H:aa fr 7= .i .i64 0):
  Lp pE 69 rJ fr lh sh (.ext 0) fun f l s=>l=lh∧s=sh:=by
 refine bV apc (fun k f l s=>aa f 7= .i .i64 (k:Int)∧l=lh∧s=sh) l.length ⟨H,rfl,rfl⟩ ?_ ?_
 ·rintro k f _ _ hk D ⟨F,rfl,rfl⟩
  have I:(k:Int)<l.length:=zO
  have J:=aI (k:=k) zO
  have K: ¬l[k]=s:=fun e=>hs (e▸List.getElem_mem hk)
  have N: ∀kk,dV v (.i kk (k:Int)) 1=some (.vp (T.s l[k]::(strs l).drop (k+1))):=fun kk=>by rw[r.ia (sz:=1) (by rw[BN];omega) hk,Nat.mul_one,D7 l k hk]
  simp only[qB,seval,gd,rJ,D,h1,h6,F,r.lenI,I,N,K,J]
 ·rintro f _ _ D ⟨F,rfl,rfl⟩
  simp only[qB,seval,gd,rJ,D,h6,F,r.lenI,Int.lt_irrefl]
theorem vh(s:List Nat):ae pE 190 [.i .i64 1,.s s] []=some (.tup [.i .i64 (lu s),.i .i64 (if lu s=0 then 6 else 0)],[]):=by
 rw[an AR (by simp[qf])]
 simp only[qB,seval,tq,di,repl,qf,BO,AS,sd,rJ,strs,bG,lu,aeZ,ae0,ae1,List.mem_cons,List.not_mem_nil,or_false]
 grind (splits:=40)
theorem Re(s:List Nat):ae pE 190 [.i .i64 3,.s s] []=some (.tup [.i .i64 (ve s),.i .i64 (if ve s=0 then 6 else 0)],[]):=by
 rw[an AR (by simp[qf])]
 simp only[qB,seval,tq,di,repl,qf,L0,AS,sd,rJ,strs,kO,ve,Oi,Oj,List.mem_cons,List.not_mem_nil,or_false]
 grind (splits:=40)
theorem Rf{s:List Nat}(hs:s∈eM):s= [114,101,115,116]∨s= [110,105,103,104,116,115]∨s= [104,111,109,101]∨(7<s.length∧s.take 7=KM)∨(6<s.length∧s.take 6=LZ):=by
 simp only[eM,List.mem_cons,List.not_mem_nil,or_false]at hs
 rcases hs with rfl|rfl|rfl|rfl|rfl|rfl|rfl|rfl|rfl|rfl|rfl|rfl|rfl|rfl|rfl|rfl|rfl|rfl|rfl|rfl|rfl|rfl|rfl|rfl|rfl <;> decide
theorem BP(s:List Nat):pF KM s↔(7≤s.length∧s.take 7=KM):=Iff.rfl
theorem BQ(s:List Nat):pF LZ s↔(6≤s.length∧s.take 6=LZ):=Iff.rfl
theorem Rg(s:List Nat):ae pE 190 [.i .i64 2,.s s] []=some (.tup [.i .i64 (vf s),.i .i64 (if vf s=0 then 6 else 0)],[]):=by
 by_cases h1:s= [114,101,115,116]
 ·subst h1;exact dj (m:=100) (dh (by kernel_rfl))
 by_cases h2:s= [110,105,103,104,116,115]
 ·subst h2;exact dj (m:=100) (dh (by kernel_rfl))
 by_cases h3:s= [104,111,109,101]
 ·subst h3;exact dj (m:=100) (dh (by kernel_rfl))
 rw[vf,if_neg h1,if_neg h2,if_neg h3]
 by_cases h4:pF KM s
 ·rw[if_pos h4]
  have J:=(BP s).1 h4
  by_cases h6:7<s.length
  ·have D:(7:Int)<s.length:=zO
   have r:7≤s.length:=zO
   have e:=J.2
   unfold KM at e
   have I:List.take (s.length-7) (s.drop 7)=s.drop 7:=List.take_of_length_le xv
   rw[an AR (by simp[qf])]
   simp only[qA,seval,tq,qf,D,r,Nat.sub_zero,e,vh,DH,I]
  ·have:s=KM:=by
    grind
   subst this
   exact dj (m:=100) (dh (by kernel_rfl))
 ·rw[if_neg h4]
  have U: ¬((7:Int)<s.length∧s.take 7=KM):=fun⟨a,b⟩=>h4 ((BP s).2 ⟨by omega,b⟩)
  by_cases h5:pF LZ s
  ·rw[if_pos h5]
   have Qd:=(BQ s).1 h5
   by_cases h6:6<s.length
   ·have D:(6:Int)<s.length:=zO
    have r:6≤s.length:=zO
    have e:=Qd.2
    unfold LZ at e
    have I:List.take (s.length-6) (s.drop 6)=s.drop 6:=List.take_of_length_le xv
    rw[an AR (by simp[qf])]
    by_cases F:(7:Int)<s.length
    ·have H:7≤s.length:=zO
     have K: ¬s.take 7= [98,101,102,111,114,101,46]:=fun b=>U ⟨F,b⟩
     simp only[qA,seval,tq,qf,D,r,F,H,K,Nat.sub_zero,e,vh,DH,I]
    ·simp only[qA,seval,tq,qf,D,r,F,Nat.sub_zero,e,vh,DH,I]
   ·have:s=LZ:=by
     grind
    subst this
    exact dj (m:=100) (dh (by kernel_rfl))
  ·rw[if_neg h5]
   have V: ¬((6:Int)<s.length∧s.take 6=LZ):=fun⟨a,b⟩=>h5 ((BQ s).2 ⟨by omega,b⟩)
   have hs:s∉eM:=fun W=>by
    rcases Rf W with h|h|h|⟨a,b⟩|⟨a,b⟩
    ·exact h1 h
    ·exact h2 h
    ·exact h3 h
    ·grind
    ·grind
   have N:=XX s (.sl (strs eM) 25 false) eM (Or.inr ⟨false,rfl⟩) yv hs
   rw[an AR (by simp[qf])]
   by_cases F:(7:Int)<s.length
   ·have h6:(6:Int)<s.length:=zO
    have H:7≤s.length:=zO
    have r:6≤s.length:=zO
    have K: ¬s.take 7= [98,101,102,111,114,101,46]:=fun b=>U ⟨F,b⟩
    have O: ¬s.take 6= [97,102,116,101,114,46]:=fun b=>V ⟨h6,b⟩
    simp only[qA,seval,tq,qf,h6,F,r,H,K,O,Nat.sub_zero,tB,AS,N]
   ·by_cases h6:(6:Int)<s.length
    ·have r:6≤s.length:=zO
     have O: ¬s.take 6= [97,102,116,101,114,46]:=fun b=>V ⟨h6,b⟩
     simp only[qA,seval,tq,qf,h6,F,r,O,Nat.sub_zero,tB,AS,N]
    ·simp only[qA,seval,tq,qf,h6,F,tB,AS,N]
theorem Ja(scope:Int)(s:List Nat):ae pE 190 [.i .i64 scope,.s s] []=some (.tup [.i .i64 (dZ scope s),.i .i64 (qS scope s)],[]):=by
 unfold qS dZ
 by_cases h1:scope=1
 ·grind [vh]
 ·by_cases h2:scope=2
  ·grind [Rg]
  ·by_cases h3:scope=3
   ·grind [Re]
   ·simp only[h1,h2,h3,if_false,if_true]
    rw[an AR (by simp[qf])]
    have r:=XX s .nilsl [] (Or.inl ⟨rfl,rfl,rfl⟩) yv xv
    simp only[qA,seval,tq,qf,h2,L1 scope h1 h2 h3,AS,r]
def ayb:List Nat→Option Nat
 | []=>none
 |c::cs=>if c=46 then some 0 else(ayb cs).map (· +1)
def Gb(s:List Nat):Bool:=match ayb s with
 |none=>jB s
 |some i=>np (s.take i)&&np (s.drop (i+1))
def eo(op:Int)(n:Nat):Bool:=
 if op≤6 then decide (n=0)else if op=7∨op=19 then decide (n=1)else if op=12∨op=13 then decide (2≤n)
 else if op=14∨op=15 then decide (n=3)else decide (n=2)
def D8(op:Int):Int:=if op=1∨op=2 then 1099511627776 else if op=3 then 1439 else 0
def qT(op num:Int)(name:List Nat)(n:Nat):Bool:=
 decide (1≤op)&&(decide (op≤22)&&(eo op n&&(decide (0≤num∧num≤D8 op)&&(if op=6 then Gb name else decide (name= [])))))
mutual
def Ex.wf:Ex→Bool
 | .mk op num name args=>qT op num name args.length&&Gc args
def Gc:List Ex→Bool
 | []=>true
 |x::xs=>x.wf&&Gc xs
end
theorem Ex.wf_eq(x:Ex):x.wf=(qT x.op x.num x.name x.args.length&&Gc x.args):=by obtain⟨_,_,_,_⟩:=x;rw[Ex.wf];rfl
theorem zM: ∀{xs:List Ex},Gc xs=true↔ ∀x∈xs,x.wf=true
 | []=>by simp[Gc]
 |x::xs=>by rw[Gc,Bool.and_eq_true,zM (xs:=xs)];simp
def big(x:Ex):Prop:=200<x.nodes∨16<x.depth
instance (x:Ex):Decidable (big x):=by unfold big;infer_instance
def bW(x:Ex):Int:=if big x then 10 else if x.wf then 0 else 1
def jk(ts:List Int)(k:Int):Bool:=ts.all fun t=>decide (t=k)
def Jb(op a b:Int):Int:=
 if a=1∧b=1 then 1 else if a=2∧b=1 then 2 else if op=10∧a=1∧b=2 then 2 else if op=11∧a=2∧b=2 then 1 else 0
def a0(ts:List Int):Int:=ts.getD 0 0
def a1(ts:List Int):Int:=ts.getD 1 0
def a2(ts:List Int):Int:=ts.getD 2 0
def mc(op:Int)(ts:List Int):Int:=
 if op=1 then 1 else if op=2 then 2 else if op=3 then 3 else if op=4 then 4 else if op=5 then 4
 else if op=7∨op=8∨op=9∨op=12∨op=13 then(if jk ts 1 then 1 else if jk ts 2 then 2 else 0)
 else if op=10∨op=11 then Jb op (a0 ts) (a1 ts)
 else if op=14 then(if a0 ts=4∧a1 ts=a2 ts then a1 ts else 0)
 else if op=15 then(if jk ts 3 then 4 else 0)
 else if op=16∨op=17 then(if(a0 ts=1∨a0 ts=2)∧a0 ts=a1 ts then 4 else 0)
 else if op=18 then(if a0 ts=a1 ts then 4 else 0)
 else(if jk ts 4 then 4 else 0)
mutual
def Ex.ty(cl:List Nat→Int×Int)(scope:Int):Ex→Int×Int
 | .mk op _ name args=>
   if op=6 then(if dZ scope name≠0 then(dZ scope name,0)else cl name)
   else match lz cl scope args with
    | .error e=>(0,e)
    | .ok ts=>if mc op ts=0 then(0,9)else(mc op ts,0)
def lz(cl:List Nat→Int×Int)(scope:Int):List Ex→Except Int (List Int)
 | []=> .ok []
 |x::xs=>if(x.ty cl scope).2≠0 then .error (x.ty cl scope).2 else match lz cl scope xs with
  | .error e=> .error e
  | .ok ts=> .ok ((x.ty cl scope).1::ts)
end
theorem Ex.ty_eq(cl:List Nat→Int×Int)(scope:Int)(x:Ex):x.ty cl scope=
  if x.op=6 then(if dZ scope x.name≠0 then(dZ scope x.name,0)else cl x.name)
  else match lz cl scope x.args with
   | .error e=>(0,e)
   | .ok ts=>if mc x.op ts=0 then(0,9)else(mc x.op ts,0):=by obtain⟨_,_,_,_⟩:=x;rw[Ex.ty];rfl
abbrev Cs:=List (List Nat×Ex)
def fL:Cs→List Nat→Option Nat
 | [],_=>none
 |c::cs,s=>if c.1=s then some 0 else(fL cs s).map (· +1)
def clk(l:Cs)(Hy:List (Int×Int))(s:List Nat):Int×Int:=match fL l s with
 |none=>(0,6)
 |some i=>Hy.getD i (0,6)
def Gf(l:Cs)(Hy:List (Int×Int))(x:Ex):Int×Int:=if bW x≠0 then(0,bW x)else x.ty (clk l Hy) 0
def jC(l:Cs):Nat→List (Int×Int)
 |0=> []
 |n+1=>jC l n++ [Gf (l.take n) (jC l n) (l.getD n ([],.mk 0 0 [] [])).2]
def dc(l:Cs)(scope:Int)(x:Ex):Int×Int:=if bW x≠0 then(0,bW x)else x.ty (clk l (jC l l.length)) scope
def isLit(x:Ex):Bool:=match x with
 | .mk op _ _ args=>decide (op=1∨op=2∨op=3∨op=4∨op=5)||(decide (op=7)&&(match args with|y::_=>decide (y.op=1∨y.op=2)| []=>false))
def ae4(x:Ex):Int:=match x with
 | .mk op num _ args=>if op=4 then 1 else if op=5 then 0 else if op=7 then(match args with|y::_=> -y.num| []=>0)else num
def iU(op num:Int):Ex:= .mk op num [] []
def sD(k n:Int):Ex:=
 if k=4 then(if n=0 then iU 5 0 else iU 4 0)else if k=3 then iU 3 n
 else if n<0 then .mk 7 0 [] [iU (if k=2 then 2 else 1) (-n)]else iU (if k=2 then 2 else 1) n
def bJ(n:Int):Int:=max (-1099511627776) (min 1099511627776 n)
def L2(a b:Int):Int:=if b=0 then 0 else bJ (Int.fdiv a b)
def dQ(c f t:Int):Bool:=if f≤t then decide (f≤c∧c<t)else decide (f≤c∨c<t)
def nq(b:Bool):Int:=if b then 1 else 0
def amo:Int→List Int→Int
 |m,[]=>m
 |m,v::r=>amo (min m v) r
def amp:Int→List Int→Int
 |m,[]=>m
 |m,v::r=>amp (max m v) r
def Gg(op:Int)(r:List Int):Int:=
 if op=7 then-a0 r else if op=8 then bJ (a0 r+a1 r)else if op=9 then bJ (a0 r-a1 r)else if op=10 then bJ (a0 r*a1 r)
 else if op=11 then L2 (a0 r) (a1 r)else if op=12 then amo (a0 r) r.tail else if op=13 then amp (a0 r) r.tail
 else if op=14 then(if a0 r=0 then a2 r else a1 r)else if op=15 then nq (dQ (a0 r) (a1 r) (a2 r))
 else if op=16 then nq (decide (a0 r<a1 r))else if op=17 then nq (decide (a0 r≤a1 r))else if op=18 then nq (decide (a0 r=a1 r))
 else if op=19 then 1-a0 r else if op=20 then min (a0 r) (a1 r)else if op=21 then max (a0 r) (a1 r)else max (1-a0 r) (a1 r)
def XY(x:Ex):Bool:=decide (x.op=1∨x.op=2)&&decide (x.num=0)
def amq(x:Ex):Bool:=decide (x.op=1)&&decide (x.num=1)
def ayc(op:Int)(r:List Ex):Ex:=
 match r with
 | [a]=>if op=19∧a.op=19 then a.args.headD (iU 0 0)else .mk op 0 [] r
 | [a,b]=>
   if op=20 then(if a.op=5∨b.op=5 then iU 5 0 else if a.op=4 then b else if b.op=4 then a else .mk op 0 [] r)
   else if op=21 then(if a.op=4∨b.op=4 then iU 4 0 else if a.op=5 then b else if b.op=5 then a else .mk op 0 [] r)
   else if op=22 then(if a.op=5∨b.op=4 then iU 4 0 else if a.op=4 then b else if b.op=5 then(if a.op=19 then a.args.headD (iU 0 0)else .mk 19 0 [] [a])else .mk op 0 [] r)
   else if op=8 then(if XY b then a else if XY a then b else .mk op 0 [] r)
   else if op=9 then(if XY b then a else .mk op 0 [] r)
   else if op=10 then(if amq b then a else if amq a then b else .mk op 0 [] r)
   else if op=11 then(if amq b then a else .mk op 0 [] r)
   else .mk op 0 [] r
 | [a,b,c]=>if op=14 then(if a.op=4 then b else if a.op=5 then c else .mk op 0 [] r)else .mk op 0 [] r
 |_=> .mk op 0 [] r
mutual
def Ex.fold(cl:List Nat→Int×Int)(cx:List Nat→Ex)(scope:Int):Ex→Ex
 | .mk op num name args=>
   if op=6 then(if dZ scope name≠0 then .mk op num name args else cx name)
   else if args.isEmpty then .mk op num name args
   else if(nv cl cx scope args).all isLit then sD ((Ex.mk op num name args).ty cl scope).1 (Gg op ((nv cl cx scope args).map ae4))
   else ayc op (nv cl cx scope args)
def nv(cl:List Nat→Int×Int)(cx:List Nat→Ex)(scope:Int):List Ex→List Ex
 | []=> []
 |x::xs=>x.fold cl cx scope::nv cl cx scope xs
end
structure Ru where
 sc:Int
 nm:List Nat
 x:Ex
structure Co where
 sc:Int
 x:Ex
def qo:List Ru:= [
 ⟨1,[115,105,122,101],.mk 17 0 [] [.mk 8 0 [] [.mk 6 0 [108,101,103,115] [],.mk 6 0 [104,101,97,100,115] []],.mk 1 3 [] []]⟩,
 ⟨1,[115,112,97,110],.mk 17 0 [] [.mk 6 0 [115,112,97,110] [],.mk 9 0 [] [.mk 2 780 [] [],.mk 10 0 [] [.mk 2 30 [] [],.mk 9 0 [] [.mk 6 0 [108,101,103,115] [],.mk 1 1 [] []]]]]⟩,
 ⟨1,[110,105,103,104,116],.mk 22 0 [] [.mk 15 0 [] [.mk 6 0 [115,116,97,114,116] [],.mk 3 1320 [] [],.mk 3 300 [] []],.mk 17 0 [] [.mk 6 0 [115,112,97,110] [],.mk 2 480 [] []]]⟩,
 ⟨1,[98,108,111,99,107],.mk 17 0 [] [.mk 6 0 [98,108,111,99,107] [],.mk 2 360 [] []]⟩,
 ⟨1,[116,121,112,101,115],.mk 17 0 [] [.mk 6 0 [116,121,112,101,115] [],.mk 1 1 [] []]⟩,
 ⟨1,[111,100,100],.mk 21 0 [] [.mk 21 0 [] [.mk 18 0 [] [.mk 6 0 [108,101,103,115] [],.mk 1 1 [] []],.mk 18 0 [] [.mk 6 0 [108,101,103,115] [],.mk 1 3 [] []]],.mk 18 0 [] [.mk 6 0 [104,101,97,100,115] [],.mk 1 1 [] []]]⟩,
 ⟨1,[103,97,112],.mk 21 0 [] [.mk 17 0 [] [.mk 6 0 [108,111,110,103,101,115,116] [],.mk 2 120 [] []],.mk 17 0 [] [.mk 2 360 [] [],.mk 6 0 [115,112,97,110] []]]⟩,
 ⟨2,[108,101,97,115,116],.mk 17 0 [] [.mk 2 480 [] [],.mk 6 0 [114,101,115,116] []]⟩,
 ⟨2,[98,101,102,111,114,101],.mk 17 0 [] [.mk 13 0 [] [.mk 2 360 [] [],.mk 6 0 [98,101,102,111,114,101,46,115,112,97,110] []],.mk 6 0 [114,101,115,116] []]⟩,
 ⟨2,[110,105,103,104,116,115],.mk 21 0 [] [.mk 17 0 [] [.mk 6 0 [110,105,103,104,116,115] [],.mk 1 1 [] []],.mk 6 0 [104,111,109,101] []]⟩,
 ⟨2,[104,111,109,101],.mk 22 0 [] [.mk 6 0 [104,111,109,101] [],.mk 17 0 [] [.mk 6 0 [114,101,115,116] [],.mk 2 1200 [] []]]⟩,
 ⟨2,[97,102,116,101,114],.mk 21 0 [] [.mk 15 0 [] [.mk 6 0 [97,102,116,101,114,46,115,116,97,114,116] [],.mk 3 360 [] [],.mk 3 1200 [] []],.mk 17 0 [] [.mk 2 540 [] [],.mk 6 0 [114,101,115,116] []]]⟩,
 ⟨3,[100,97,121,115],.mk 17 0 [] [.mk 6 0 [100,97,121,115] [],.mk 1 3 [] []]⟩,
 ⟨3,[100,117,116,105,101,115],.mk 17 0 [] [.mk 6 0 [100,117,116,105,101,115] [],.mk 1 3 [] []]⟩,
 ⟨3,[98,108,111,99,107],.mk 17 0 [] [.mk 6 0 [98,108,111,99,107] [],.mk 2 540 [] []]⟩,
 ⟨3,[99,114,101,100,105,116],.mk 17 0 [] [.mk 6 0 [99,114,101,100,105,116] [],.mk 2 720 [] []]⟩,
 ⟨3,[115,112,97,110],.mk 17 0 [] [.mk 6 0 [115,112,97,110] [],.mk 2 3000 [] []]⟩,
 ⟨3,[108,101,103,115],.mk 17 0 [] [.mk 1 2 [] [],.mk 6 0 [108,101,103,115] []]⟩]
def tC:List Co:= [
 ⟨1,.mk 8 0 [] [.mk 1 100 [] [],.mk 10 0 [] [.mk 1 10 [] [],.mk 6 0 [108,101,103,115] []]]⟩,
 ⟨1,.mk 11 0 [] [.mk 9 0 [] [.mk 6 0 [115,112,97,110] [],.mk 6 0 [98,108,111,99,107] []],.mk 2 15 [] []]⟩,
 ⟨1,.mk 14 0 [] [.mk 17 0 [] [.mk 6 0 [110,105,103,104,116] [],.mk 2 120 [] []],.mk 1 0 [] [],.mk 1 30 [] []]⟩,
 ⟨2,.mk 14 0 [] [.mk 6 0 [104,111,109,101] [],.mk 1 0 [] [],.mk 1 50 [] []]⟩,
 ⟨2,.mk 11 0 [] [.mk 6 0 [114,101,115,116] [],.mk 2 60 [] []]⟩,
 ⟨3,.mk 10 0 [] [.mk 1 20 [] [],.mk 6 0 [100,97,121,115] []]⟩,
 ⟨3,.mk 11 0 [] [.mk 13 0 [] [.mk 2 0 [] [],.mk 9 0 [] [.mk 6 0 [99,114,101,100,105,116] [],.mk 2 480 [] []]],.mk 2 30 [] []]⟩,
 ⟨1,.mk 7 0 [] [.mk 10 0 [] [.mk 1 5 [] [],.mk 6 0 [104,101,97,100,115] []]]⟩,
 ⟨1,.mk 10 0 [] [.mk 6 0 [116,121,112,101,115] [],.mk 6 0 [116,121,112,101,115] []]⟩,
 ⟨3,.mk 8 0 [] [.mk 7 0 [] [.mk 10 0 [] [.mk 1 3 [] [],.mk 6 0 [108,101,103,115] []]],.mk 6 0 [115,104,105,102,116,115] []]⟩]
def D9:List Ex:= [
 .mk 13 0 [] [.mk 6 0 [98,108,111,99,107] [],.mk 2 240 [] []],
 .mk 11 0 [] [.mk 6 0 [115,112,97,110] [],.mk 1 2 [] []],
 .mk 8 0 [] [.mk 6 0 [98,108,111,99,107] [],.mk 10 0 [] [.mk 2 20 [] [],.mk 6 0 [108,101,103,115] []]]]
def shB:List Ex:= [.mk 1 2 [] [],.mk 11 0 [] [.mk 1 7 [] [],.mk 1 2 [] []],.mk 7 0 [] [.mk 1 1 [] []]]
def yl:List Nat:= [115,104,105,102,116,115]
def oO(k:Nat):Ex:=shB.getD k (.mk 1 2 [] [])
def exB:List Ex:=qo.map Ru.x++tC.map Co.x++D9++shB
def Ex.sm(x:Ex):Prop:=x∈exB
theorem dK{α:Type}(L:List α)(f:Nat)(g:α→List T)(v:α→T)(h:(L.map fun x=>(NN pE 1000 f (g x) []).map (·.1))=L.map fun x=>some (v x)): ∀x∈L,∃s,ae pE f (g x) []=some (v x,s):=fun x hx=>aeY (m:=1000) (List.map_inj_left.1 h x hx)
theorem L3{α:Type}(L:List α)(f:Nat)(g:α→List T)(v:α→T)(h:(L.map fun x=>NN pE 1000 f (g x) [])=L.map fun x=>some (v x,[])): ∀x∈L,ae pE f (g x) []=some (v x,[]):=fun x hx=>DCall_iff.2 ⟨1000,List.map_inj_left.1 h x hx⟩
theorem td{α:Type}{P:α→Prop}{L:List α}(m:Nat)(a: ∀x∈L.take m,P x)(b: ∀x∈L.drop m,P x): ∀x∈L,P x:=fun x hx=>by
 rw[←List.take_append_drop m L]at hx
 exact(List.mem_append.1 hx).elim (a x) (b x)
def sg(j:Nat):List (List Nat×Ex):= [(yl,oO j)]
def Ea:List (Int×Ex):=qo.map (fun u=>(u.sc,u.x))++tC.map (fun u=>(u.sc,u.x))++D9.map fun x=>(1,x)
def vB(e:Bool)(j:Nat):T:= .sl (.s yl::kz (oO j)) 1 e
end Go.Proofs.YtcpceiclnbmgiaaGreat
