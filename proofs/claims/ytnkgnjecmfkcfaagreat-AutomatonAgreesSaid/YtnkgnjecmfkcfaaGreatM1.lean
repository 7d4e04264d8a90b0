/- Walks of functions of the program and of the reference, and their plain laws, part 1. Conditions: the theorems' own. -/
import Derived.Test.YtnkgnjecmfkcfaaGreatGS
import Derived.KernelRfl
set_option maxRecDepth 100000
set_option linter.unusedSimpArgs false
set_option linter.unusedVariables false
set_option maxRecDepth 1000000
set_option maxHeartbeats 16000000
namespace Go.Proofs.YtnkgnjecmfkcfaaGreat
open Go Go.Ev
theorem cW{m f:Nat}{args:List T}{r:T×List ah}(h:cK pE m f args []=some r):ae pE f args []=some r:=DCall_iff.2 ⟨m,h⟩
theorem adM{m f:Nat}{args:List T}{v:T}(h:(cK pE m f args []).map (·.1)=some v): ∃s,ae pE f args []=some (v,s):=by
 cases hc:cK pE m f args []with
 |none=>grind
 |some r=>
  rw[hc]at h
  obtain⟨a,s⟩:=r
  simp at h
  subst h
  exact⟨s,DCall_iff.2 ⟨m,hc⟩⟩
inductive Ex where
 |mk (op num:Int) (name:List Nat) (args:List Ex)
def Ex.op:Ex→Int| .mk o _ _ _=>o
def Ex.num:Ex→Int| .mk _ n _ _=>n
def Ex.name:Ex→List Nat| .mk _ _ s _=>s
def Ex.args:Ex→List Ex| .mk _ _ _ a=>a
mutual
def jJ:Ex→List T
 | .mk op n s a=> [.i .i64 op,.i .i64 n,.s s,match a with| []=> .nilsl|b::r=> .sl (jJ b++pU r) (r.length+1) (!decide (op=13))]
def pU:List Ex→List T
 | []=> []
 |x::r=>jJ x++pU r
end
def jA(x:Ex)(cs:List T):Prop:=cs=jJ x
def cu(l:List Ex)(cs:List T):Prop:=cs=pU l
theorem jA.cells{x:Ex}{cs:List T}(h:jA x cs): ∃a D,cs= [.i .i64 x.op,.i .i64 x.num,.s x.name,a]∧IsSl a x.args.length D∧cu x.args D:=by
 obtain⟨o,n,s,l⟩:=x
 unfold jA at h
 subst h
 cases l with
 |nil=>exact⟨.nilsl,[],by rw[jJ];rfl,.inl ⟨rfl,rfl,rfl⟩,by rw[cu,Ex.args,pU]⟩
 |cons b r=>exact⟨_,pU (b::r),by rw[jJ,pU];rfl,.inr ⟨_,rfl⟩,rfl⟩
theorem jA.len{x:Ex}{cs:List T}(h:jA x cs):cs.length=4:=by
 obtain⟨a,r,rfl,_⟩:=h.cells;rfl
theorem oY(x:Ex):(jJ x).length=4:=jA.len (x:=x) rfl
theorem cu.len: ∀{xs:List Ex} {cs:List T},cu xs cs→cs.length=xs.length*4
 | [],cs,h=>by rw[cu,pU]at h;rw[h];rfl
 |x::xs,cs,h=>by
  rw[cu,pU]at h
  rw[h,List.length_append,oY,cu.len (xs:=xs) rfl,List.length_cons];omega
theorem cu.nil:cu [] []:=by rw[cu,pU]
theorem cu.cons{x:Ex}{xs:List Ex}{c r:List T}(h1:jA x c)(h2:cu xs r):cu (x::xs) (c++r):=by
 rw[cu,pU,h1,h2]
theorem cu.append: ∀{xs D:List Ex} {c r:List T},cu xs c→cu D r→cu (xs++D) (c++r)
 | [],D,c,r,h1,h2=>by rw[cu,pU]at h1;rw[h1];exact h2
 |x::xs,D,c,r,h1,h2=>by
  rw[cu,pU]at h1
  rw[h1,List.append_assoc]
  exact cu.cons rfl (cu.append rfl h2)
theorem cu.one{x:Ex}{c:List T}(h:jA x c):cu [x] c:=by
 have:=cu.cons h cu.nil
 grind
theorem cu.drop: ∀{xs:List Ex} {cs:List T} (k:Nat) (hk:k<xs.length),cu xs cs→ ∃c r,cs.drop (k*4)=c++r∧jA xs[k] c∧cu (xs.drop (k+1)) r
 | [],cs,k,hk,h=>by simp at hk
 |x::xs,cs,0,hk,h=>by
  rw[cu,pU]at h
  exact⟨_,_,by rw[h];rfl,rfl,rfl⟩
 |x::xs,cs,k+1,hk,h=>by
  rw[cu,pU]at h
  subst h
  obtain⟨D,F,e,h3,h4⟩:=cu.drop (cs:=pU xs) k (by simpa using hk) rfl
  refine⟨D,F, ?_,h3,by simpa using h4⟩
  rw[show(k+1)*4=(jJ x).length+k*4 by rw[oY];omega,List.drop_length_add_append]
  exact e
theorem oZ{xs:List Ex}{a:T}{F:List T}(h1:IsSl a xs.length F)(h2:cu xs F)(k:Nat)(hk:k<xs.length):
  ∃b D r,(∀kk,iaV a (.i kk (k:Int)) 4=some (.vp (.i .i64 xs[k].op:: .i .i64 xs[k].num:: .s xs[k].name::b::r)))∧IsSl b xs[k].args.length D∧cu xs[k].args D∧jA xs[k] [.i .i64 xs[k].op,.i .i64 xs[k].num,.s xs[k].name,b]:=by
 obtain⟨c,r,e,h3,h4⟩:=cu.drop k hk h2
 obtain⟨b,D,rfl,h5,h6⟩:=h3.cells
 refine⟨b,D,r,fun kk=> ?_,h5,h6,h3⟩
 rw[h1.ia (sz:=4) h2.len hk,e];rfl
mutual
def Ex.nodes:Ex→Nat
 | .mk _ _ _ args=>1+fW args
def fW:List Ex→Nat
 | []=>0
 |x::xs=>x.nodes+fW xs
end
mutual
def Ex.depth:Ex→Nat
 | .mk _ _ _ args=>1+XL args
def XL:List Ex→Nat
 | []=>0
 |x::xs=>max x.depth (XL xs)
end
theorem Ex.nodes_eq(x:Ex):x.nodes=1+fW x.args:=by obtain⟨_,_,_,_⟩:=x;rw[Ex.nodes];rfl
theorem fX: ∀xs:List Ex,xs.length≤fW xs
 | []=>by simp
 |x::xs=>by
  have:=fX xs
  rw[fW,List.length_cons,x.nodes_eq];omega
theorem lP: ∀{xs:List Ex} {x:Ex},x∈xs→x.nodes≤fW xs
 |y::xs,x,h=>by
  rw[fW]
  rcases List.mem_cons.1 h with rfl|h
  ·omega
  ·have:=lP h;omega
theorem Ex.ind{P:Ex→Prop}(h: ∀x:Ex,(∀y∈x.args,P y)→P x)(x:Ex):P x:=by
 have: ∀n (x:Ex),x.nodes≤n→P x:=by
  intro n
  induction n with
  |zero=>intro x hx;rw[x.nodes_eq]at hx;omega
  |succ n ih=>
   intro x hx
   refine h x fun y r=>ih y ?_
   have:=lP r
   rw[x.nodes_eq]at hx;omega
 exact this _ x (Nat.le_refl _)
def CN(c:Nat):Prop:=(97:Int)≤c∧(c:Int)≤122
def FD(c:Nat):Prop:=(48:Int)≤c∧(c:Int)≤57
instance (c:Nat):Decidable (CN c):=by unfold CN;infer_instance
instance (c:Nat):Decidable (FD c):=by unfold FD;infer_instance
def sD(c:Nat):Bool:=decide (CN c∨FD c∨(c:Int)=95)
def ji:List Nat→Bool
 | []=>false
 |c::cs=>decide (cs.length<16)&&(decide (CN c)&&cs.all sD)
theorem IZ(c:Nat):ae pE 168 [.i .u8 c] []=some (.b (decide (CN c)),[]):=by
 rw[au agu (by simp[PU])]
 by_cases h1:(97:Int)≤c
 ·by_cases h2:(c:Int)≤122 <;> simp only[qA,seval,PU,h1,h2,CN]
 ·simp only[qA,seval,PU,h1,CN]
theorem DS(c:Nat):ae pE 169 [.i .u8 c] []=some (.b (decide (FD c)),[]):=by
 rw[au agv (by simp[PV])]
 by_cases h1:(48:Int)≤c
 ·by_cases h2:(c:Int)≤57 <;> simp only[qA,seval,PV,h1,h2,FD]
 ·simp only[qA,seval,PV,h1,FD]
theorem yk{s:List Nat}{k:Nat}(hk:k<s.length)(kk:IntKind):CM (.s s) (.i kk (k:Int))=some (.i .u8 (s[k]:Int)):=by
 rw[LA,if_pos (Int.natCast_nonneg k),Int.toNat_natCast,List.getElem?_eq_getElem hk];rfl
theorem aG{k:Nat}(h:k<4611686018427387904):wr .i64 ((k:Int)+1)=((k+1:Nat):Int):=by rw[bj yv];omega
theorem aln(s:List Nat)(hs:s.length≤16)(fr:Fr)(lh:aD ah)(sh:List ah)(h0:aa fr 0= .s s)(h3:aa fr 3= .i .i64 0):
  LpC pE 42 Ah fr lh sh 0 2 (s.all sD=true) (.b false) (fun D F=>D=lh∧F=sh):=by
 refine m8 Tg (by simp[aQ]) (fun k f D F=>aa f 3= .i .i64 (k:Int)∧D=lh∧F=sh∧s.all sD=(s.drop k).all sD) s.length ⟨h3,rfl,rfl,rfl⟩ ?_ ?_
 ·rintro k f _ _ hk r ⟨H,rfl,rfl,hr⟩
  have I:(k:Int)<s.length:=yv
  have N:=aG (k:=k) yv
  have J:=cG (IZ s[k])
  have K:=cG (DS s[k])
  rw[List.drop_eq_getElem_cons hk,List.all_cons]at hr
  simp only[qB,seval,gd,Ah,r,h0,H,I,yk hk,N,J,K,UZ,agw]
  clear r J K
  unfold sD at*
  grind
 ·rintro f _ _ r ⟨H,rfl,rfl,hr⟩
  rw[List.drop_length,List.all_nil]at hr
  simp only[qB,seval,gd,Ah,r,h0,H,Int.lt_irrefl,hr]
theorem Bk(s:List Nat):ae pE 96 [.s s] []=some (.b (ji s),[]):=by
 rw[au ate (by simp[c96])]
 cases s with
 |nil=>simp only[qA,seval,c96,ji]
 |cons c cs=>
  have Rk:CM (.s (c::cs)) (.i .i64 0)=some (.i .u8 (c:Int)):=by rw[LA];rfl
  have r:=cG (IZ c)
  unfold ji
  by_cases h3:cs.length<16
  ·have D:=aln (c::cs) (by simp;omega)
   simp only[qB,seval,c96,Rk,r,UZ,D]
   clear D r
   grind [sD]
  ·simp only[qB,seval,c96,Rk,r,UZ]
   clear r
   grind
def chC(k:Nat)(c:Nat):Bool:=decide (CN c)||(decide (0<k)&&sD c)
def CP:Nat→List Nat→Bool
 |_,[]=>true
 |k,c::cs=>chC k c&&CP (k+1) cs
theorem I0: ∀(cs:List Nat) (k:Nat),0<k→CP k cs=cs.all sD
 | [],k,h=>rfl
 |c::cs,k,h=>by
  rw[CP,List.all_cons,I0 cs (k+1) yv]
  congr 1
  unfold chC
  by_cases h1:CN c <;> simp[h,h1,sD]
theorem alo(s:List Nat)(hs:s.length≤16)(fr:Fr)(lh:aD ah)(sh:List ah)(h0:aa fr 0= .s s)(J:aa fr 14= .i .i64 (s.length:Int))(K:aa fr 15= .i .i64 0):
  LpC pE 44 zZ fr lh sh 0 2 (CP 0 s=true) (.b false) (fun D F=>D=lh∧F=sh):=by
 refine m8 Te (by simp[aQ]) (fun k f D F=>aa f 15= .i .i64 (k:Int)∧D=lh∧F=sh∧CP 0 s=CP k (s.drop k)) s.length ⟨K,rfl,rfl,rfl⟩ ?_ ?_
 ·rintro k f _ _ hk r ⟨H,rfl,rfl,hr⟩
  have I:(k:Int)<s.length:=yv
  have N:=aG (k:=k) yv
  rw[List.drop_eq_getElem_cons hk,CP]at hr
  simp only[qB,seval,gd,zZ,r,h0,J,H,I,yk hk,N]
  clear r
  unfold chC sD CN FD at*
  grind (splits:=30)
 ·rintro f _ _ r ⟨H,rfl,rfl,hr⟩
  rw[List.drop_length,CP]at hr
  simp only[qB,seval,gd,zZ,r,J,H,Int.lt_irrefl,hr]
theorem ve(s:List Nat):ae pE 78 [.s s] []=some (.b (ji s),[]):=by
 rw[au as3 (by simp[c78])]
 have h3:ji s=(decide (s.length≤16)&&decide (1≤s.length)&&CP 0 s):=by
  cases s with
  |nil=>rfl
  |cons c cs=>rw[CP,I0 cs 1 yv];unfold ji chC;grind
 by_cases h2:s.length≤16
 ·have r:=alo s h2
  simp only[qB,seval,c78,r]
  clear r
  grind
 ·simp only[qB,seval,c78]
  grind
def alp:List (List Nat):= [[97,110,100],[111,114],[110,111,116],[105,109,112,108,105,101,115],[105,110],[116,111],[116,114,117,101],[102,97,108,115,101],[109,105,110],[109,97,120],[105,102],[116,104,101,110],[101,108,115,101]]
def adN:List (List Nat):= [[108,101,103,115],[104,101,97,100,115],[116,121,112,101,115]]
def adO:List (List Nat):= [[98,108,111,99,107],[115,112,97,110],[110,105,103,104,116],[108,111,110,103,101,115,116],[115,104,111,114,116,101,115,116],[115,104,105,102,116]]
def adP:List (List Nat):= [[115,116,97,114,116],[101,110,100]]
def Oc:List (List Nat):= [[100,117,116,105,101,115],[108,101,103,115],[104,101,97,100,115],[100,97,121,115]]
def Od:List (List Nat):= [[98,108,111,99,107],[115,112,97,110],[99,114,101,100,105,116]]
def bw:List (List Nat):= [[108,101,103,115],[104,101,97,100,115],[116,121,112,101,115],[98,108,111,99,107],[115,112,97,110],[110,105,103,104,116],[108,111,110,103,101,115,116],[115,104,111,114,116,101,115,116],[115,104,105,102,116],[115,116,97,114,116],[101,110,100]]
def dZ:List (List Nat):= [[114,101,115,116],[110,105,103,104,116,115],[104,111,109,101],[98,101,102,111,114,101,46,108,101,103,115],[98,101,102,111,114,101,46,104,101,97,100,115],[98,101,102,111,114,101,46,116,121,112,101,115],[98,101,102,111,114,101,46,98,108,111,99,107],[98,101,102,111,114,101,46,115,112,97,110],[98,101,102,111,114,101,46,110,105,103,104,116],[98,101,102,111,114,101,46,108,111,110,103,101,115,116],[98,101,102,111,114,101,46,115,104,111,114,116,101,115,116],[98,101,102,111,114,101,46,115,104,105,102,116],[98,101,102,111,114,101,46,115,116,97,114,116],[98,101,102,111,114,101,46,101,110,100],[97,102,116,101,114,46,108,101,103,115],[97,102,116,101,114,46,104,101,97,100,115],[97,102,116,101,114,46,116,121,112,101,115],[97,102,116,101,114,46,98,108,111,99,107],[97,102,116,101,114,46,115,112,97,110],[97,102,116,101,114,46,110,105,103,104,116],[97,102,116,101,114,46,108,111,110,103,101,115,116],[97,102,116,101,114,46,115,104,111,114,116,101,115,116],[97,102,116,101,114,46,115,104,105,102,116],[97,102,116,101,114,46,115,116,97,114,116],[97,102,116,101,114,46,101,110,100]]
def jX:List (List Nat):= [[100,117,116,105,101,115],[108,101,103,115],[104,101,97,100,115],[100,97,121,115],[98,108,111,99,107],[115,112,97,110],[99,114,101,100,105,116]]
def XM(s:List Nat):Bool:=decide (s∈alp)
def iW(s:List Nat):Bool:=ji s&& !XM s
def kJ(s:List Nat):Int:=if s∈adN then 1 else if s∈adO then 2 else if s∈adP then 3 else 0
def vf(s:List Nat):Int:=if s∈Oc then 1 else if s∈Od then 2 else 0
def KF:List Nat:= [98,101,102,111,114,101,46]
def LV:List Nat:= [97,102,116,101,114,46]
def pa(p s:List Nat):Prop:=p.length≤s.length∧s.take p.length=p
instance (p s:List Nat):Decidable (pa p s):=by unfold pa;infer_instance
def vg(s:List Nat):Int:=if s= [114,101,115,116]then 2 else if s= [110,105,103,104,116,115]then 1 else if s= [104,111,109,101]then 4 else if pa KF s then kJ (s.drop 7)else if pa LV s then kJ (s.drop 6)else 0
def dB(scope:Int)(s:List Nat):Int:=if scope=1 then kJ s else if scope=2 then vg s else if scope=3 then vf s else 0
theorem adQ(s:List Nat):ae pE 286 [.s s] []=some (.b (XM s),[]):=by
 rw[au ahE (by simp[Us])]
 simp only[qB,seval,Us,XM,alp,List.mem_cons,List.not_mem_nil,or_false]
 grind (splits:=40)
theorem vh(s:List Nat):ae pE 153 [.s s] []=some (.i .i64 (kJ s),[]):=by
 rw[au agm (by simp[TD])]
 simp only[qB,seval,TD,kJ,adN,adO,adP,List.mem_cons,List.not_mem_nil,or_false]
 grind (splits:=40)
theorem XN(s:List Nat):ae pE 155 [.s s] []=some (.i .i64 (vf s),[]):=by
 rw[au ago (by simp[TE])]
 simp only[qB,seval,TE,vf,Oc,Od,List.mem_cons,List.not_mem_nil,or_false]
 grind (splits:=40)
theorem adR(s:List Nat):ae pE 253 [.s s] []=some (.b (XM s),[]):=by
 rw[au aho (by simp[Ug])]
 simp only[qB,seval,cO,repl,Ug,rJ,M4,XM,alp,List.mem_cons,List.not_mem_nil,or_false]
 grind (splits:=40)
theorem rN(s:List Nat):ae pE 256 [.s s] []=some (.b (iW s),[]):=by
 rw[au ahs (by simp[Uj])]
 cases h:ji s <;> simp only[qA,seval,Uj,ve,adQ,Qk,auC,h,iW]
theorem nM(s:List Nat):ae pE 200 [.s s] []=some (.b (iW s),[]):=by
 rw[au agK (by simp[TT])]
 cases h:ji s <;> simp only[qA,seval,TT,Bk,adR,UC,aur,h,iW]
theorem DT(s p:List Nat):ae pE 303 [.s s,.s p] []=some (.b (decide (pa p s)),[]):=by
 rw[au ahH (by simp[Qe])]
 by_cases h:p.length≤s.length
 ·have r:(p.length:Int)≤s.length:=yv
  simp only[qA,seval,tc,Qe,h,r,pa,Nat.sub_zero]
 ·have r: ¬(p.length:Int)≤s.length:=yv
  simp only[qA,seval,Qe,h,r,pa]
theorem DU(s p:List Nat):ae pE 231 [.s s,.s p] []=some (if pa p s then .tup [.s (s.drop p.length),.b true]else .tup [.s s,.b false],[]):=by
 rw[au ahc (by simp[Ua])]
 have h1:ae pE 271 [.s s,.s p] []=some (if pa p s then .tup [.s (s.drop p.length),.b true]else .tup [.s s,.b false],[]):=by
  rw[au ahA (by simp[Qc])]
  by_cases h:pa p s
  ·have r:p.length≤s.length:=h.1
   have D:List.take (s.length-p.length) (s.drop p.length)=s.drop p.length:=List.take_of_length_le xv
   simp only[qA,seval,tc,Qc,DT,ahI,h,r,D]
  ·simp only[qA,seval,Qc,DT,ahI,h]
 by_cases h:pa p s <;> simp only[h]at h1 <;> simp only[qA,seval,Ua,h1,auy,h]
theorem XP(s:List Nat):ae pE 154 [.s s] []=some (.i .i64 (vg s),[]):=by
 by_cases h1:s= [114,101,115,116]
 ·subst h1;exact cW (m:=100) (cS (by kernel_rfl))
 ·by_cases h2:s= [110,105,103,104,116,115]
  ·subst h2;exact cW (m:=100) (cS (by kernel_rfl))
  ·by_cases h3:s= [104,111,109,101]
   ·subst h3;exact cW (m:=100) (cS (by kernel_rfl))
   ·have r:=DU s KF
    have D:=DU s LV
    have F:KF.length=7:=rfl
    have H:LV.length=6:=rfl
    rw[vg,if_neg h1,if_neg h2,if_neg h3]
    rw[au agn (by simp[KV])]
    rw[F]at r
    rw[H]at D
    by_cases h4:pa KF s
    ·rw[if_pos h4]at r
     unfold KF at r
     simp only[qA,seval,KV,h1,h2,h3,r,vh,Ve,Na,h4]
    ·rw[if_neg h4]at r
     by_cases h5:pa LV s
     ·rw[if_pos h5]at D
      unfold KF at r
      unfold LV at D
      simp only[qA,seval,KV,h1,h2,h3,r,D,vh,Ve,Na,h4,h5]
     ·rw[if_neg h5]at D
      unfold KF at r
      unfold LV at D
      simp only[qA,seval,KV,h1,h2,h3,r,D,vh,Ve,Na,h4,h5]
def qz(scope:Int)(s:List Nat):Int:=if dB scope s=0 then 6 else 0
theorem I1(scope:Int)(s:List Nat):ae pE 87 [.i .i64 scope,.s s] []=some (.tup [.i .i64 (dB scope s),.i .i64 (qz scope s)],[]):=by
 rw[au atc (by simp[c87])]
 by_cases h1:scope=1
 ·by_cases h:kJ s=0 <;> simp only[qA,seval,c87,h1,qz,dB,vh,Na,h]
 ·by_cases h2:scope=2
  ·by_cases h:vg s=0 <;> simp only[qA,seval,c87,h2,qz,dB,XP,atK,h]
  ·by_cases h3:scope=3
   ·by_cases h:vf s=0 <;> simp only[qA,seval,c87,h3,qz,dB,XN,atL,h]
   ·simp only[qA,seval,c87,h1,h2,h3,qz,dB]
def strs(l:List (List Nat)):List T:=l.map T.s
theorem Bl(l:List (List Nat)):(strs l).length=l.length:=by simp[strs]
theorem DV(l:List (List Nat))(k:Nat)(hk:k<l.length):(strs l).drop k=T.s l[k]::(strs l).drop (k+1):=by
 rw[List.drop_eq_getElem_cons (by rw[Bl];exact hk)];simp[strs]
theorem Bm:ae pE 55 [.i .i64 1] []=some (.sl (strs bw) 11 true,[]):=cW (m:=100) (cS (by kernel_rfl))
theorem th:ae pE 55 [.i .i64 2] []=some (.sl (strs dZ) 25 false,[]):=cW (m:=100) (cS (by kernel_rfl))
theorem LW:ae pE 55 [.i .i64 3] []=some (.sl (strs jX) 7 true,[]):=cW (m:=100) (cS (by kernel_rfl))
theorem LX(scope:Int)(h1:scope≠1)(h2:scope≠2)(h3:scope≠3):ae pE 55 [.i .i64 scope] []=some (.nilsl,[]):=by
 rw[au asQ (by simp[c55])]
 simp only[qA,seval,repl,c55,h1,h2,h3]
theorem XQ(s:List Nat)(v:T)(l:List (List Nat))(r:IsSl v l.length (strs l))(O:l.length<1000)(hs:s∉l)(fr:Fr)(lh:aD ah)(sh:List ah)(h1:aa fr 1= .s s)(h6:aa fr 6=v)(K:aa fr 7= .i .i64 0):
  Lp pE 69 ou fr lh sh (.ext 0) fun f l s=>l=lh∧s=sh:=by
 refine cV Pz (fun k f l s=>aa f 7= .i .i64 (k:Int)∧l=lh∧s=sh) l.length ⟨K,rfl,rfl⟩ ?_ ?_
 ·rintro k f _ _ hk D ⟨F,rfl,rfl⟩
  have H:(k:Int)<l.length:=yv
  have N:=aG (k:=k) yv
  have I: ¬l[k]=s:=fun e=>hs (e▸List.getElem_mem hk)
  have J: ∀kk,iaV v (.i kk (k:Int)) 1=some (.vp (T.s l[k]::(strs l).drop (k+1))):=fun kk=>by rw[r.ia (sz:=1) (by rw[Bl];omega) hk,Nat.mul_one,DV l k hk]
  simp only[qB,seval,gd,ou,D,h1,h6,F,r.lenI,H,J,I,N]
 ·rintro f _ _ D ⟨F,rfl,rfl⟩
  simp only[qB,seval,gd,ou,D,h6,F,r.lenI,Int.lt_irrefl]
theorem vi(s:List Nat):ae pE 103 [.i .i64 1,.s s] []=some (.tup [.i .i64 (kJ s),.i .i64 (if kJ s=0 then 6 else 0)],[]):=by
 rw[au Ak (by simp[pO])]
 simp only[qB,seval,tc,cO,repl,pO,Bm,K2,rJ,ou,strs,bw,kJ,adN,adO,adP,List.mem_cons,List.not_mem_nil,or_false]
 grind (splits:=40)
theorem Rl(s:List Nat):ae pE 103 [.i .i64 3,.s s] []=some (.tup [.i .i64 (vf s),.i .i64 (if vf s=0 then 6 else 0)],[]):=by
 rw[au Ak (by simp[pO])]
 simp only[qB,seval,tc,cO,repl,pO,LW,K2,rJ,ou,strs,jX,vf,Oc,Od,List.mem_cons,List.not_mem_nil,or_false]
 grind (splits:=40)
theorem Rm{s:List Nat}(hs:s∈dZ):s= [114,101,115,116]∨s= [110,105,103,104,116,115]∨s= [104,111,109,101]∨(7<s.length∧s.take 7=KF)∨(6<s.length∧s.take 6=LV):=by
 simp only[dZ,List.mem_cons,List.not_mem_nil,or_false]at hs
 rcases hs with rfl|rfl|rfl|rfl|rfl|rfl|rfl|rfl|rfl|rfl|rfl|rfl|rfl|rfl|rfl|rfl|rfl|rfl|rfl|rfl|rfl|rfl|rfl|rfl|rfl <;> decide
theorem Bn(s:List Nat):pa KF s↔(7≤s.length∧s.take 7=KF):=Iff.rfl
theorem Bo(s:List Nat):pa LV s↔(6≤s.length∧s.take 6=LV):=Iff.rfl
theorem Rn(s:List Nat):ae pE 103 [.i .i64 2,.s s] []=some (.tup [.i .i64 (vg s),.i .i64 (if vg s=0 then 6 else 0)],[]):=by
 by_cases h1:s= [114,101,115,116]
 ·subst h1;exact cW (m:=100) (cS (by kernel_rfl))
 by_cases h2:s= [110,105,103,104,116,115]
 ·subst h2;exact cW (m:=100) (cS (by kernel_rfl))
 by_cases h3:s= [104,111,109,101]
 ·subst h3;exact cW (m:=100) (cS (by kernel_rfl))
 rw[vg,if_neg h1,if_neg h2,if_neg h3]
 by_cases h4:pa KF s
 ·rw[if_pos h4]
  have J:=(Bn s).1 h4
  by_cases h6:7<s.length
  ·have D:(7:Int)<s.length:=yv
   have r:7≤s.length:=yv
   have e:=J.2
   unfold KF at e
   have I:List.take (s.length-7) (s.drop 7)=s.drop 7:=List.take_of_length_le xv
   rw[au Ak (by simp[pO])]
   simp only[qA,seval,tc,pO,D,r,Nat.sub_zero,e,vi,Dt,I]
  ·have:s=KF:=by
    grind
   subst this
   exact cW (m:=100) (cS (by kernel_rfl))
 ·rw[if_neg h4]
  have U: ¬((7:Int)<s.length∧s.take 7=KF):=fun⟨a,b⟩=>h4 ((Bn s).2 ⟨by omega,b⟩)
  by_cases h5:pa LV s
  ·rw[if_pos h5]
   have Qm:=(Bo s).1 h5
   by_cases h6:6<s.length
   ·have D:(6:Int)<s.length:=yv
    have r:6≤s.length:=yv
    have e:=Qm.2
    unfold LV at e
    have I:List.take (s.length-6) (s.drop 6)=s.drop 6:=List.take_of_length_le xv
    rw[au Ak (by simp[pO])]
    by_cases F:(7:Int)<s.length
    ·have H:7≤s.length:=yv
     have K: ¬s.take 7= [98,101,102,111,114,101,46]:=fun b=>U ⟨F,b⟩
     simp only[qA,seval,tc,pO,D,r,F,H,K,Nat.sub_zero,e,vi,Dt,I]
    ·simp only[qA,seval,tc,pO,D,r,F,Nat.sub_zero,e,vi,Dt,I]
   ·have:s=LV:=by
     grind
    subst this
    exact cW (m:=100) (cS (by kernel_rfl))
  ·rw[if_neg h5]
   have V: ¬((6:Int)<s.length∧s.take 6=LV):=fun⟨a,b⟩=>h5 ((Bo s).2 ⟨by omega,b⟩)
   have hs:s∉dZ:=fun W=>by
    rcases Rm W with h|h|h|⟨a,b⟩|⟨a,b⟩
    ·exact h1 h
    ·exact h2 h
    ·exact h3 h
    ·grind
    ·grind
   have N:=XQ s (.sl (strs dZ) 25 false) dZ (Or.inr ⟨false,rfl⟩) xW hs
   rw[au Ak (by simp[pO])]
   by_cases F:(7:Int)<s.length
   ·have h6:(6:Int)<s.length:=yv
    have H:7≤s.length:=yv
    have r:6≤s.length:=yv
    have K: ¬s.take 7= [98,101,102,111,114,101,46]:=fun b=>U ⟨F,b⟩
    have O: ¬s.take 6= [97,102,116,101,114,46]:=fun b=>V ⟨h6,b⟩
    simp only[qA,seval,tc,pO,h6,F,r,H,K,O,Nat.sub_zero,th,K2,N]
   ·by_cases h6:(6:Int)<s.length
    ·have r:6≤s.length:=yv
     have O: ¬s.take 6= [97,102,116,101,114,46]:=fun b=>V ⟨h6,b⟩
     simp only[qA,seval,tc,pO,h6,F,r,O,Nat.sub_zero,th,K2,N]
    ·simp only[qA,seval,tc,pO,h6,F,th,K2,N]
theorem I2(scope:Int)(s:List Nat):ae pE 103 [.i .i64 scope,.s s] []=some (.tup [.i .i64 (dB scope s),.i .i64 (qz scope s)],[]):=by
 unfold qz dB
 by_cases h1:scope=1
 ·grind [vi]
 ·by_cases h2:scope=2
  ·grind [Rn]
  ·by_cases h3:scope=3
   ·grind [Rl]
   ·simp only[h1,h2,h3,if_false,if_true]
    rw[au Ak (by simp[pO])]
    have r:=XQ s .nilsl [] (Or.inl ⟨rfl,rfl,rfl⟩) xW xv
    simp only[qA,seval,tc,pO,h2,LX scope h1 h2 h3,K2,r]
def awC:List Nat→Option Nat
 | []=>none
 |c::cs=>if c=46 then some 0 else(awC cs).map (· +1)
def FE(s:List Nat):Bool:=match awC s with
 |none=>iW s
 |some i=>ji (s.take i)&&ji (s.drop (i+1))
def dG(op:Int)(n:Nat):Bool:=
 if op≤6 then decide (n=0)else if op=7∨op=19 then decide (n=1)else if op=12∨op=13 then decide (2≤n)
 else if op=14∨op=15 then decide (n=3)else decide (n=2)
def DW(op:Int):Int:=if op=1∨op=2 then 1099511627776 else if op=3 then 1439 else 0
def qC(op num:Int)(name:List Nat)(n:Nat):Bool:=
 decide (1≤op)&&(decide (op≤22)&&(dG op n&&(decide (0≤num∧num≤DW op)&&(if op=6 then FE name else decide (name= [])))))
mutual
def Ex.wf:Ex→Bool
 | .mk op num name args=>qC op num name args.length&&FF args
def FF:List Ex→Bool
 | []=>true
 |x::xs=>x.wf&&FF xs
end
theorem Ex.wf_eq(x:Ex):x.wf=(qC x.op x.num x.name x.args.length&&FF x.args):=by obtain⟨_,_,_,_⟩:=x;rw[Ex.wf];rfl
theorem zg: ∀{xs:List Ex},FF xs=true↔ ∀x∈xs,x.wf=true
 | []=>by simp[FF]
 |x::xs=>by rw[FF,Bool.and_eq_true,zg (xs:=xs)];simp
def big(x:Ex):Prop:=200<x.nodes∨16<x.depth
instance (x:Ex):Decidable (big x):=by unfold big;infer_instance
def bL(x:Ex):Int:=if big x then 10 else if x.wf then 0 else 1
def iE(ts:List Int)(k:Int):Bool:=ts.all fun t=>decide (t=k)
def I3(op a b:Int):Int:=
 if a=1∧b=1 then 1 else if a=2∧b=1 then 2 else if op=10∧a=1∧b=2 then 2 else if op=11∧a=2∧b=2 then 1 else 0
def a0(ts:List Int):Int:=ts.getD 0 0
def a1(ts:List Int):Int:=ts.getD 1 0
def a2(ts:List Int):Int:=ts.getD 2 0
def lQ(op:Int)(ts:List Int):Int:=
 if op=1 then 1 else if op=2 then 2 else if op=3 then 3 else if op=4 then 4 else if op=5 then 4
 else if op=7∨op=8∨op=9∨op=12∨op=13 then(if iE ts 1 then 1 else if iE ts 2 then 2 else 0)
 else if op=10∨op=11 then I3 op (a0 ts) (a1 ts)
 else if op=14 then(if a0 ts=4∧a1 ts=a2 ts then a1 ts else 0)
 else if op=15 then(if iE ts 3 then 4 else 0)
 else if op=16∨op=17 then(if(a0 ts=1∨a0 ts=2)∧a0 ts=a1 ts then 4 else 0)
 else if op=18 then(if a0 ts=a1 ts then 4 else 0)
 else(if iE ts 4 then 4 else 0)
mutual
def Ex.ty(cl:List Nat→Int×Int)(scope:Int):Ex→Int×Int
 | .mk op _ name args=>
   if op=6 then(if dB scope name≠0 then(dB scope name,0)else cl name)
   else match kK cl scope args with
    | .error e=>(0,e)
    | .ok ts=>if lQ op ts=0 then(0,9)else(lQ op ts,0)
def kK(cl:List Nat→Int×Int)(scope:Int):List Ex→Except Int (List Int)
 | []=> .ok []
 |x::xs=>if(x.ty cl scope).2≠0 then .error (x.ty cl scope).2 else match kK cl scope xs with
  | .error e=> .error e
  | .ok ts=> .ok ((x.ty cl scope).1::ts)
end
theorem Ex.ty_eq(cl:List Nat→Int×Int)(scope:Int)(x:Ex):x.ty cl scope=
  if x.op=6 then(if dB scope x.name≠0 then(dB scope x.name,0)else cl x.name)
  else match kK cl scope x.args with
   | .error e=>(0,e)
   | .ok ts=>if lQ x.op ts=0 then(0,9)else(lQ x.op ts,0):=by obtain⟨_,_,_,_⟩:=x;rw[Ex.ty];rfl
abbrev Cs:=List (List Nat×Ex)
def fj:Cs→List Nat→Option Nat
 | [],_=>none
 |c::cs,s=>if c.1=s then some 0 else(fj cs s).map (· +1)
def clk(l:Cs)(r:List (Int×Int))(s:List Nat):Int×Int:=match fj l s with
 |none=>(0,6)
 |some i=>r.getD i (0,6)
def FG(l:Cs)(r:List (Int×Int))(x:Ex):Int×Int:=if bL x≠0 then(0,bL x)else x.ty (clk l r) 0
def iX(l:Cs):Nat→List (Int×Int)
 |0=> []
 |n+1=>iX l n++ [FG (l.take n) (iX l n) (l.getD n ([],.mk 0 0 [] [])).2]
def cP(l:Cs)(scope:Int)(x:Ex):Int×Int:=if bL x≠0 then(0,bL x)else x.ty (clk l (iX l l.length)) scope
def isLit(x:Ex):Bool:=match x with
 | .mk op _ _ args=>decide (op=1∨op=2∨op=3∨op=4∨op=5)||(decide (op=7)&&(match args with|y::_=>decide (y.op=1∨y.op=2)| []=>false))
def adS(x:Ex):Int:=match x with
 | .mk op num _ args=>if op=4 then 1 else if op=5 then 0 else if op=7 then(match args with|y::_=> -y.num| []=>0)else num
def hZ(op num:Int):Ex:= .mk op num [] []
def r9(k n:Int):Ex:=
 if k=4 then(if n=0 then hZ 5 0 else hZ 4 0)else if k=3 then hZ 3 n
 else if n<0 then .mk 7 0 [] [hZ (if k=2 then 2 else 1) (-n)]else hZ (if k=2 then 2 else 1) n
def bC(n:Int):Int:=max (-1099511627776) (min 1099511627776 n)
def LY(a b:Int):Int:=if b=0 then 0 else bC (Int.fdiv a b)
def dw(c f t:Int):Bool:=if f≤t then decide (f≤c∧c<t)else decide (f≤c∨c<t)
def mE(b:Bool):Int:=if b then 1 else 0
def alr:Int→List Int→Int
 |m,[]=>m
 |m,v::r=>alr (min m v) r
def als:Int→List Int→Int
 |m,[]=>m
 |m,v::r=>als (max m v) r
def FH(op:Int)(r:List Int):Int:=
 if op=7 then-a0 r else if op=8 then bC (a0 r+a1 r)else if op=9 then bC (a0 r-a1 r)else if op=10 then bC (a0 r*a1 r)
 else if op=11 then LY (a0 r) (a1 r)else if op=12 then alr (a0 r) r.tail else if op=13 then als (a0 r) r.tail
 else if op=14 then(if a0 r=0 then a2 r else a1 r)else if op=15 then mE (dw (a0 r) (a1 r) (a2 r))
 else if op=16 then mE (decide (a0 r<a1 r))else if op=17 then mE (decide (a0 r≤a1 r))else if op=18 then mE (decide (a0 r=a1 r))
 else if op=19 then 1-a0 r else if op=20 then min (a0 r) (a1 r)else if op=21 then max (a0 r) (a1 r)else max (1-a0 r) (a1 r)
def XS(x:Ex):Bool:=decide (x.op=1∨x.op=2)&&decide (x.num=0)
def alu(x:Ex):Bool:=decide (x.op=1)&&decide (x.num=1)
def awD(op:Int)(r:List Ex):Ex:=
 match r with
 | [a]=>if op=19∧a.op=19 then a.args.headD (hZ 0 0)else .mk op 0 [] r
 | [a,b]=>
   if op=20 then(if a.op=5∨b.op=5 then hZ 5 0 else if a.op=4 then b else if b.op=4 then a else .mk op 0 [] r)
   else if op=21 then(if a.op=4∨b.op=4 then hZ 4 0 else if a.op=5 then b else if b.op=5 then a else .mk op 0 [] r)
   else if op=22 then(if a.op=5∨b.op=4 then hZ 4 0 else if a.op=4 then b else if b.op=5 then(if a.op=19 then a.args.headD (hZ 0 0)else .mk 19 0 [] [a])else .mk op 0 [] r)
   else if op=8 then(if XS b then a else if XS a then b else .mk op 0 [] r)
   else if op=9 then(if XS b then a else .mk op 0 [] r)
   else if op=10 then(if alu b then a else if alu a then b else .mk op 0 [] r)
   else if op=11 then(if alu b then a else .mk op 0 [] r)
   else .mk op 0 [] r
 | [a,b,c]=>if op=14 then(if a.op=4 then b else if a.op=5 then c else .mk op 0 [] r)else .mk op 0 [] r
 |_=> .mk op 0 [] r
mutual
def Ex.fold(cl:List Nat→Int×Int)(cx:List Nat→Ex)(scope:Int):Ex→Ex
 | .mk op num name args=>
   if op=6 then(if dB scope name≠0 then .mk op num name args else cx name)
   else if args.isEmpty then .mk op num name args
   else if(mF cl cx scope args).all isLit then r9 ((Ex.mk op num name args).ty cl scope).1 (FH op ((mF cl cx scope args).map adS))
   else awD op (mF cl cx scope args)
def mF(cl:List Nat→Int×Int)(cx:List Nat→Ex)(scope:Int):List Ex→List Ex
 | []=> []
 |x::xs=>x.fold cl cx scope::mF cl cx scope xs
end
structure Ru where
 sc:Int
 nm:List Nat
 x:Ex
structure Co where
 sc:Int
 x:Ex
def pH:List Ru:= [
 ⟨1,[115,105,122,101],.mk 17 0 [] [.mk 8 0 [] [.mk 6 0 [108,101,103,115] [],.mk 6 0 [104,101,97,100,115] []],.mk 1 3 [] []]⟩,
 ⟨1,[115,112,97,110],.mk 17 0 [] [.mk 6 0 [115,112,97,110] [],.mk 9 0 [] [.mk 2 780 [] [],.mk 10 0 [] [.mk 2 30 [] [],.mk 9 0 [] [.mk 6 0 [108,101,103,115] [],.mk 1 1 [] []]]]]⟩,
 ⟨1,[110,105,103,104,116],.mk 22 0 [] [.mk 15 0 [] [.mk 6 0 [115,116,97,114,116] [],.mk 3 1320 [] [],.mk 3 300 [] []],.mk 17 0 [] [.mk 6 0 [115,112,97,110] [],.mk 2 480 [] []]]⟩,
 ⟨1,[98,108,111,99,107],.mk 17 0 [] [.mk 6 0 [98,108,111,99,107] [],.mk 2 360 [] []]⟩,
 ⟨1,[116,121,112,101,115],.mk 17 0 [] [.mk 6 0 [116,121,112,101,115] [],.mk 1 1 [] []]⟩,
 ⟨1,[111,100,100],.mk 21 0 [] [.mk 21 0 [] [.mk 18 0 [] [.mk 6 0 [108,101,103,115] [],.mk 1 1 [] []],.mk 18 0 [] [.mk 6 0 [108,101,103,115] [],.mk 1 3 [] []]],.mk 18 0 [] [.mk 6 0 [104,101,97,100,115] [],.mk 1 1 [] []]]⟩,
 ⟨1,[103,97,112],.mk 21 0 [] [.mk 17 0 [] [.mk 6 0 [108,111,110,103,101,115,116] [],.mk 2 120 [] []],.mk 17 0 [] [.mk 2 360 [] [],.mk 6 0 [115,112,97,110] []]]⟩,
 ⟨2,[108,101,97,115,116],.mk 17 0 [] [.mk 2 480 [] [],.mk 6 0 [114,101,115,116] []]⟩,
 ⟨2,[98,101,102,111,114,101],.mk 17 0 [] [.mk 13 0 [] [.mk 2 360 [] [],.mk 6 0 [98,101,102,111,114,101,46,115,112,97,110] []],.mk 6 0 [114,101,115,116] []]⟩,
 ⟨2,[110,105,103,104,116,115],.mk 21 0 [] [.mk 17 0 [] [.mk 6 0 [110,105,103,104,116,115] [],.mk 1 1 [] []],.mk 6 0 [104,111,109,101] []]⟩,
 ⟨2,[104,111,109,101],.mk 22 0 [] [.mk 6 0 [104,111,109,101] [],.mk 17 0 [] [.mk 6 0 [114,101,115,116] [],.mk 2 1200 [] []]]⟩,
 ⟨2,[97,102,116,101,114],.mk 21 0 [] [.mk 15 0 [] [.mk 6 0 [97,102,116,101,114,46,115,116,97,114,116] [],.mk 3 360 [] [],.mk 3 1200 [] []],.mk 17 0 [] [.mk 2 540 [] [],.mk 6 0 [114,101,115,116] []]]⟩,
 ⟨3,[100,97,121,115],.mk 17 0 [] [.mk 6 0 [100,97,121,115] [],.mk 1 3 [] []]⟩,
 ⟨3,[100,117,116,105,101,115],.mk 17 0 [] [.mk 6 0 [100,117,116,105,101,115] [],.mk 1 3 [] []]⟩,
 ⟨3,[98,108,111,99,107],.mk 17 0 [] [.mk 6 0 [98,108,111,99,107] [],.mk 2 540 [] []]⟩,
 ⟨3,[99,114,101,100,105,116],.mk 17 0 [] [.mk 6 0 [99,114,101,100,105,116] [],.mk 2 720 [] []]⟩,
 ⟨3,[115,112,97,110],.mk 17 0 [] [.mk 6 0 [115,112,97,110] [],.mk 2 3000 [] []]⟩,
 ⟨3,[108,101,103,115],.mk 17 0 [] [.mk 1 2 [] [],.mk 6 0 [108,101,103,115] []]⟩]
def sE:List Co:= [
 ⟨1,.mk 8 0 [] [.mk 1 100 [] [],.mk 10 0 [] [.mk 1 10 [] [],.mk 6 0 [108,101,103,115] []]]⟩,
 ⟨1,.mk 11 0 [] [.mk 9 0 [] [.mk 6 0 [115,112,97,110] [],.mk 6 0 [98,108,111,99,107] []],.mk 2 15 [] []]⟩,
 ⟨1,.mk 14 0 [] [.mk 17 0 [] [.mk 6 0 [110,105,103,104,116] [],.mk 2 120 [] []],.mk 1 0 [] [],.mk 1 30 [] []]⟩,
 ⟨2,.mk 14 0 [] [.mk 6 0 [104,111,109,101] [],.mk 1 0 [] [],.mk 1 50 [] []]⟩,
 ⟨2,.mk 11 0 [] [.mk 6 0 [114,101,115,116] [],.mk 2 60 [] []]⟩,
 ⟨3,.mk 10 0 [] [.mk 1 20 [] [],.mk 6 0 [100,97,121,115] []]⟩,
 ⟨3,.mk 11 0 [] [.mk 13 0 [] [.mk 2 0 [] [],.mk 9 0 [] [.mk 6 0 [99,114,101,100,105,116] [],.mk 2 480 [] []]],.mk 2 30 [] []]⟩,
 ⟨1,.mk 7 0 [] [.mk 10 0 [] [.mk 1 5 [] [],.mk 6 0 [104,101,97,100,115] []]]⟩,
 ⟨1,.mk 10 0 [] [.mk 6 0 [116,121,112,101,115] [],.mk 6 0 [116,121,112,101,115] []]⟩,
 ⟨3,.mk 8 0 [] [.mk 7 0 [] [.mk 10 0 [] [.mk 1 3 [] [],.mk 6 0 [108,101,103,115] []]],.mk 6 0 [115,104,105,102,116,115] []]⟩]
def CQ:List Ex:= [
 .mk 13 0 [] [.mk 6 0 [98,108,111,99,107] [],.mk 2 240 [] []],
 .mk 11 0 [] [.mk 6 0 [115,112,97,110] [],.mk 1 2 [] []],
 .mk 8 0 [] [.mk 6 0 [98,108,111,99,107] [],.mk 10 0 [] [.mk 2 20 [] [],.mk 6 0 [108,101,103,115] []]]]
def shB:List Ex:= [.mk 1 2 [] [],.mk 11 0 [] [.mk 1 7 [] [],.mk 1 2 [] []],.mk 7 0 [] [.mk 1 1 [] []]]
def yC:List Nat:= [115,104,105,102,116,115]
def pV(k:Nat):Ex:=shB.getD k (.mk 1 2 [] [])
def exB:List Ex:=pH.map Ru.x++sE.map Co.x++CQ++shB
def Ex.sm(x:Ex):Prop:=x∈exB
theorem dK{α:Type}(L:List α)(f:Nat)(g:α→List T)(v:α→T)(h:(L.map fun x=>(NJ pE 1000 f (g x) []).map (·.1))=L.map fun x=>some (v x)): ∀x∈L,∃s,ae pE f (g x) []=some (v x,s):=fun x hx=>adM (m:=1000) (List.map_inj_left.1 h x hx)
theorem LZ{α:Type}(L:List α)(f:Nat)(g:α→List T)(v:α→T)(h:(L.map fun x=>NJ pE 1000 f (g x) [])=L.map fun x=>some (v x,[])): ∀x∈L,ae pE f (g x) []=some (v x,[]):=fun x hx=>DCall_iff.2 ⟨1000,List.map_inj_left.1 h x hx⟩
theorem td{α:Type}{P:α→Prop}{L:List α}(m:Nat)(a: ∀x∈L.take m,P x)(b: ∀x∈L.drop m,P x): ∀x∈L,P x:=fun x hx=>by
 rw[←List.take_append_drop m L]at hx
 exact(List.mem_append.1 hx).elim (a x) (b x)
def rO(j:Nat):List (List Nat×Ex):= [(yC,pV j)]
def DX:List (Int×Ex):=pH.map (fun u=>(u.sc,u.x))++sE.map (fun u=>(u.sc,u.x))++CQ.map fun x=>(1,x)
def vB(e:Bool)(j:Nat):T:= .sl (.s yC::jJ (pV j)) 1 e
end Go.Proofs.YtnkgnjecmfkcfaaGreat
