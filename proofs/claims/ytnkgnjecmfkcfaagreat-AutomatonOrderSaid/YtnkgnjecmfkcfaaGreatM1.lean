/- Walks of functions of the program and of the reference, and their plain laws, part 1. Conditions: the theorems' own. -/
import Derived.Test.YtnkgnjecmfkcfaaGreatGS
import Derived.KernelRfl
set_option maxRecDepth 100000
set_option linter.unusedSimpArgs false
set_option linter.unusedVariables false
set_option maxRecDepth 1000000
set_option maxHeartbeats 16000000
namespace Go.Proofs.YtnkgnjecmfkcfaaGreat
open Go Go.Ev
theorem cI{m f:Nat}{args:List T}{r:T×List ah}(h:cO pE m f args []=some r):ae pE f args []=some r:=DCall_iff.2 ⟨m,h⟩
theorem Nv{m f:Nat}{args:List T}{v:T}(h:(cO pE m f args []).map (·.1)=some v): ∃s,ae pE f args []=some (v,s):=by
 cases hc:cO pE m f args []with
 |none=>grind
 |some r=>
  rw[hc]at h
  obtain⟨a,s⟩:=r
  simp at h
  subst h
  exact⟨s,DCall_iff.2 ⟨m,hc⟩⟩
inductive Ex where
 |mk (op num:Int) (name:List Nat) (args:List Ex)
def Ex.op:Ex→Int| .mk o _ _ _=>o
def Ex.num:Ex→Int| .mk _ n _ _=>n
def Ex.name:Ex→List Nat| .mk _ _ s _=>s
def Ex.args:Ex→List Ex| .mk _ _ _ a=>a
mutual
def fw:Ex→List T
 | .mk op n s a=> [.i .i64 op,.i .i64 n,.s s,match a with| []=> .nilsl|b::r=> .sl (fw b++pF r) (r.length+1) (!decide (op=13))]
def pF:List Ex→List T
 | []=> []
 |x::r=>fw x++pF r
end
def gr(x:Ex)(cs:List T):Prop:=cs=fw x
def cw(l:List Ex)(cs:List T):Prop:=cs=pF l
theorem gr.cells{x:Ex}{cs:List T}(h:gr x cs): ∃a D,cs= [.i .i64 x.op,.i .i64 x.num,.s x.name,a]∧IsSl a x.args.length D∧cw x.args D:=by
 obtain⟨o,n,s,l⟩:=x
 unfold gr at h
 subst h
 cases l with
 |nil=>exact⟨.nilsl,[],by rw[fw];rfl,.inl ⟨rfl,rfl,rfl⟩,by rw[cw,Ex.args,pF]⟩
 |cons b r=>exact⟨_,pF (b::r),by rw[fw,pF];rfl,.inr ⟨_,rfl⟩,rfl⟩
theorem gr.len{x:Ex}{cs:List T}(h:gr x cs):cs.length=4:=by
 obtain⟨a,r,rfl,_⟩:=h.cells;rfl
theorem oP(x:Ex):(fw x).length=4:=gr.len (x:=x) rfl
theorem cw.len: ∀{xs:List Ex} {cs:List T},cw xs cs→cs.length=xs.length*4
 | [],cs,h=>by rw[cw,pF]at h;rw[h];rfl
 |x::xs,cs,h=>by
  rw[cw,pF]at h
  rw[h,List.length_append,oP,cw.len (xs:=xs) rfl,List.length_cons];omega
theorem cw.nil:cw [] []:=by rw[cw,pF]
theorem cw.cons{x:Ex}{xs:List Ex}{c r:List T}(h1:gr x c)(h2:cw xs r):cw (x::xs) (c++r):=by
 rw[cw,pF,h1,h2]
theorem cw.append: ∀{xs D:List Ex} {c r:List T},cw xs c→cw D r→cw (xs++D) (c++r)
 | [],D,c,r,h1,h2=>by rw[cw,pF]at h1;rw[h1];exact h2
 |x::xs,D,c,r,h1,h2=>by
  rw[cw,pF]at h1
  rw[h1,List.append_assoc]
  exact cw.cons rfl (cw.append rfl h2)
theorem cw.one{x:Ex}{c:List T}(h:gr x c):cw [x] c:=by
 have:=cw.cons h cw.nil
 grind
theorem cw.drop: ∀{xs:List Ex} {cs:List T} (k:Nat) (hk:k<xs.length),cw xs cs→ ∃c r,cs.drop (k*4)=c++r∧gr xs[k] c∧cw (xs.drop (k+1)) r
 | [],cs,k,hk,h=>by simp at hk
 |x::xs,cs,0,hk,h=>by
  rw[cw,pF]at h
  exact⟨_,_,by rw[h];rfl,rfl,rfl⟩
 |x::xs,cs,k+1,hk,h=>by
  rw[cw,pF]at h
  subst h
  obtain⟨D,F,e,h3,h4⟩:=cw.drop (cs:=pF xs) k (by simpa using hk) rfl
  refine⟨D,F, ?_,h3,by simpa using h4⟩
  rw[show(k+1)*4=(fw x).length+k*4 by rw[oP];omega,List.drop_length_add_append]
  exact e
theorem mK{xs:List Ex}{a:T}{F:List T}(h1:IsSl a xs.length F)(h2:cw xs F)(k:Nat)(hk:k<xs.length):
  ∃b D r,(∀kk,iaV a (.i kk (k:Int)) 4=some (.vp (.i .i64 xs[k].op:: .i .i64 xs[k].num:: .s xs[k].name::b::r)))∧IsSl b xs[k].args.length D∧cw xs[k].args D∧gr xs[k] [.i .i64 xs[k].op,.i .i64 xs[k].num,.s xs[k].name,b]:=by
 obtain⟨c,r,e,h3,h4⟩:=cw.drop k hk h2
 obtain⟨b,D,rfl,h5,h6⟩:=h3.cells
 refine⟨b,D,r,fun kk=> ?_,h5,h6,h3⟩
 rw[h1.ia (sz:=4) h2.len hk,e];rfl
mutual
def Ex.nodes:Ex→Nat
 | .mk _ _ _ args=>1+fO args
def fO:List Ex→Nat
 | []=>0
 |x::xs=>x.nodes+fO xs
end
mutual
def Ex.depth:Ex→Nat
 | .mk _ _ _ args=>1+WT args
def WT:List Ex→Nat
 | []=>0
 |x::xs=>max x.depth (WT xs)
end
theorem Ex.nodes_eq(x:Ex):x.nodes=1+fO x.args:=by obtain⟨_,_,_,_⟩:=x;rw[Ex.nodes];rfl
theorem fP: ∀xs:List Ex,xs.length≤fO xs
 | []=>by simp
 |x::xs=>by
  have:=fP xs
  rw[fO,List.length_cons,x.nodes_eq];omega
theorem lH: ∀{xs:List Ex} {x:Ex},x∈xs→x.nodes≤fO xs
 |y::xs,x,h=>by
  rw[fO]
  rcases List.mem_cons.1 h with rfl|h
  ·omega
  ·have:=lH h;omega
theorem Ex.ind{P:Ex→Prop}(h: ∀x:Ex,(∀y∈x.args,P y)→P x)(x:Ex):P x:=by
 have: ∀n (x:Ex),x.nodes≤n→P x:=by
  intro n
  induction n with
  |zero=>intro x hx;rw[x.nodes_eq]at hx;omega
  |succ n ih=>
   intro x hx
   refine h x fun y r=>ih y ?_
   have:=lH r
   rw[x.nodes_eq]at hx;omega
 exact this _ x (Nat.le_refl _)
def B8(c:Nat):Prop:=(97:Int)≤c∧(c:Int)≤122
def EU(c:Nat):Prop:=(48:Int)≤c∧(c:Int)≤57
instance (c:Nat):Decidable (B8 c):=by unfold B8;infer_instance
instance (c:Nat):Decidable (EU c):=by unfold EU;infer_instance
def r9(c:Nat):Bool:=decide (B8 c∨EU c∨(c:Int)=95)
def iX:List Nat→Bool
 | []=>false
 |c::cs=>decide (cs.length<16)&&(decide (B8 c)&&cs.all r9)
theorem It(c:Nat):ae pE 168 [.i .u8 c] []=some (.b (decide (B8 c)),[]):=by
 rw[av afL (by simp[Pc])]
 by_cases h1:(97:Int)≤c
 ·by_cases h2:(c:Int)≤122 <;> simp only[qA,seval,Pc,h1,h2,B8]
 ·simp only[qA,seval,Pc,h1,B8]
theorem De(c:Nat):ae pE 169 [.i .u8 c] []=some (.b (decide (EU c)),[]):=by
 rw[av afM (by simp[Pd])]
 by_cases h1:(48:Int)≤c
 ·by_cases h2:(c:Int)≤57 <;> simp only[qA,seval,Pd,h1,h2,EU]
 ·simp only[qA,seval,Pd,h1,EU]
theorem xO{s:List Nat}{k:Nat}(hk:k<s.length)(kk:IntKind):B7 (.s s) (.i kk (k:Int))=some (.i .u8 (s[k]:Int)):=by
 rw[K0,if_pos (Int.natCast_nonneg k),Int.toNat_natCast,List.getElem?_eq_getElem hk];rfl
theorem aG{k:Nat}(h:k<4611686018427387904):wr .i64 ((k:Int)+1)=((k+1:Nat):Int):=by rw[bI zZ];omega
theorem akN(s:List Nat)(hs:s.length≤16)(fr:Fr)(lh:aE ah)(sh:List ah)(h0:aa fr 0= .s s)(h3:aa fr 3= .i .i64 0):
  WS pE 42 zx fr lh sh 0 2 (s.all r9=true) (.b false) (fun D F=>D=lh∧F=sh):=by
 refine lG Sn (by simp[aO]) (fun k f D F=>aa f 3= .i .i64 (k:Int)∧D=lh∧F=sh∧s.all r9=(s.drop k).all r9) s.length ⟨h3,rfl,rfl,rfl⟩ ?_ ?_
 ·rintro k f _ _ hk r ⟨H,rfl,rfl,hr⟩
  have I:(k:Int)<s.length:=zZ
  have N:=aG (k:=k) zZ
  have J:=cH (It s[k])
  have K:=cH (De s[k])
  rw[List.drop_eq_getElem_cons hk,List.all_cons]at hr
  simp only[qB,seval,gd,zx,r,h0,H,I,xO hk,N,J,K,T2,afN]
  clear r J K
  unfold r9 at*
  grind
 ·rintro f _ _ r ⟨H,rfl,rfl,hr⟩
  rw[List.drop_length,List.all_nil]at hr
  simp only[qB,seval,gd,zx,r,h0,H,Int.lt_irrefl,hr]
theorem AL(s:List Nat):ae pE 96 [.s s] []=some (.b (iX s),[]):=by
 rw[av atb (by simp[c96])]
 cases s with
 |nil=>simp only[qA,seval,c96,iX]
 |cons c cs=>
  have QF:B7 (.s (c::cs)) (.i .i64 0)=some (.i .u8 (c:Int)):=by rw[K0];rfl
  have r:=cH (It c)
  unfold iX
  by_cases h3:cs.length<16
  ·have D:=akN (c::cs) (by simp;omega)
   simp only[qB,seval,c96,QF,r,T2,D]
   clear D r
   grind [r9]
  ·simp only[qB,seval,c96,QF,r,T2]
   clear r
   grind
def chC(k:Nat)(c:Nat):Bool:=decide (B8 c)||(decide (0<k)&&r9 c)
def B9:Nat→List Nat→Bool
 |_,[]=>true
 |k,c::cs=>chC k c&&B9 (k+1) cs
theorem Iu: ∀(cs:List Nat) (k:Nat),0<k→B9 k cs=cs.all r9
 | [],k,h=>rfl
 |c::cs,k,h=>by
  rw[B9,List.all_cons,Iu cs (k+1) zZ]
  congr 1
  unfold chC
  by_cases h1:B8 c <;> simp[h,h1,r9]
theorem akO(s:List Nat)(hs:s.length≤16)(fr:Fr)(lh:aE ah)(sh:List ah)(h0:aa fr 0= .s s)(J:aa fr 14= .i .i64 (s.length:Int))(K:aa fr 15= .i .i64 0):
  WS pE 44 zk fr lh sh 0 2 (B9 0 s=true) (.b false) (fun D F=>D=lh∧F=sh):=by
 refine lG Sk (by simp[aO]) (fun k f D F=>aa f 15= .i .i64 (k:Int)∧D=lh∧F=sh∧B9 0 s=B9 k (s.drop k)) s.length ⟨K,rfl,rfl,rfl⟩ ?_ ?_
 ·rintro k f _ _ hk r ⟨H,rfl,rfl,hr⟩
  have I:(k:Int)<s.length:=zZ
  have N:=aG (k:=k) zZ
  rw[List.drop_eq_getElem_cons hk,B9]at hr
  simp only[qB,seval,gd,zk,r,h0,J,H,I,xO hk,N]
  clear r
  unfold chC r9 B8 EU at*
  grind (splits:=30)
 ·rintro f _ _ r ⟨H,rfl,rfl,hr⟩
  rw[List.drop_length,B9]at hr
  simp only[qB,seval,gd,zk,r,J,H,Int.lt_irrefl,hr]
theorem uM(s:List Nat):ae pE 78 [.s s] []=some (.b (iX s),[]):=by
 rw[av asZ (by simp[c78])]
 have h3:iX s=(decide (s.length≤16)&&decide (1≤s.length)&&B9 0 s):=by
  cases s with
  |nil=>rfl
  |cons c cs=>rw[B9,Iu cs 1 zZ];unfold iX chC;grind
 by_cases h2:s.length≤16
 ·have r:=akO s h2
  simp only[qB,seval,c78,r]
  clear r
  grind
 ·simp only[qB,seval,c78]
  grind
def akP:List (List Nat):= [[97,110,100],[111,114],[110,111,116],[105,109,112,108,105,101,115],[105,110],[116,111],[116,114,117,101],[102,97,108,115,101],[109,105,110],[109,97,120],[105,102],[116,104,101,110],[101,108,115,101]]
def adb:List (List Nat):= [[108,101,103,115],[104,101,97,100,115],[116,121,112,101,115]]
def ade:List (List Nat):= [[98,108,111,99,107],[115,112,97,110],[110,105,103,104,116],[108,111,110,103,101,115,116],[115,104,111,114,116,101,115,116],[115,104,105,102,116]]
def adf:List (List Nat):= [[115,116,97,114,116],[101,110,100]]
def Nw:List (List Nat):= [[100,117,116,105,101,115],[108,101,103,115],[104,101,97,100,115],[100,97,121,115]]
def Nx:List (List Nat):= [[98,108,111,99,107],[115,112,97,110],[99,114,101,100,105,116]]
def bu:List (List Nat):= [[108,101,103,115],[104,101,97,100,115],[116,121,112,101,115],[98,108,111,99,107],[115,112,97,110],[110,105,103,104,116],[108,111,110,103,101,115,116],[115,104,111,114,116,101,115,116],[115,104,105,102,116],[115,116,97,114,116],[101,110,100]]
def dS:List (List Nat):= [[114,101,115,116],[110,105,103,104,116,115],[104,111,109,101],[98,101,102,111,114,101,46,108,101,103,115],[98,101,102,111,114,101,46,104,101,97,100,115],[98,101,102,111,114,101,46,116,121,112,101,115],[98,101,102,111,114,101,46,98,108,111,99,107],[98,101,102,111,114,101,46,115,112,97,110],[98,101,102,111,114,101,46,110,105,103,104,116],[98,101,102,111,114,101,46,108,111,110,103,101,115,116],[98,101,102,111,114,101,46,115,104,111,114,116,101,115,116],[98,101,102,111,114,101,46,115,104,105,102,116],[98,101,102,111,114,101,46,115,116,97,114,116],[98,101,102,111,114,101,46,101,110,100],[97,102,116,101,114,46,108,101,103,115],[97,102,116,101,114,46,104,101,97,100,115],[97,102,116,101,114,46,116,121,112,101,115],[97,102,116,101,114,46,98,108,111,99,107],[97,102,116,101,114,46,115,112,97,110],[97,102,116,101,114,46,110,105,103,104,116],[97,102,116,101,114,46,108,111,110,103,101,115,116],[97,102,116,101,114,46,115,104,111,114,116,101,115,116],[97,102,116,101,114,46,115,104,105,102,116],[97,102,116,101,114,46,115,116,97,114,116],[97,102,116,101,114,46,101,110,100]]
def jJ:List (List Nat):= [[100,117,116,105,101,115],[108,101,103,115],[104,101,97,100,115],[100,97,121,115],[98,108,111,99,107],[115,112,97,110],[99,114,101,100,105,116]]
def WU(s:List Nat):Bool:=decide (s∈akP)
def iL(s:List Nat):Bool:=iX s&& !WU s
def kq(s:List Nat):Int:=if s∈adb then 1 else if s∈ade then 2 else if s∈adf then 3 else 0
def uN(s:List Nat):Int:=if s∈Nw then 1 else if s∈Nx then 2 else 0
def Ka:List Nat:= [98,101,102,111,114,101,46]
def Ll:List Nat:= [97,102,116,101,114,46]
def oQ(p s:List Nat):Prop:=p.length≤s.length∧s.take p.length=p
instance (p s:List Nat):Decidable (oQ p s):=by unfold oQ;infer_instance
def uO(s:List Nat):Int:=if s= [114,101,115,116]then 2 else if s= [110,105,103,104,116,115]then 1 else if s= [104,111,109,101]then 4 else if oQ Ka s then kq (s.drop 7)else if oQ Ll s then kq (s.drop 6)else 0
def dt(scope:Int)(s:List Nat):Int:=if scope=1 then kq s else if scope=2 then uO s else if scope=3 then uN s else 0
theorem adg(s:List Nat):ae pE 286 [.s s] []=some (.b (WU s),[]):=by
 rw[av agR (by simp[Tw])]
 simp only[qB,seval,Tw,WU,akP,List.mem_cons,List.not_mem_nil,or_false]
 grind (splits:=40)
theorem uP(s:List Nat):ae pE 153 [.s s] []=some (.i .i64 (kq s),[]):=by
 rw[av afC (by simp[SG])]
 simp only[qB,seval,SG,kq,adb,ade,adf,List.mem_cons,List.not_mem_nil,or_false]
 grind (splits:=40)
theorem WV(s:List Nat):ae pE 155 [.s s] []=some (.i .i64 (uN s),[]):=by
 rw[av afE (by simp[SI])]
 simp only[qB,seval,SI,uN,Nw,Nx,List.mem_cons,List.not_mem_nil,or_false]
 grind (splits:=40)
theorem adh(s:List Nat):ae pE 253 [.s s] []=some (.b (WU s),[]):=by
 rw[av agD (by simp[Tm])]
 simp only[qB,seval,cT,repl,Tm,qY,Mx,WU,akP,List.mem_cons,List.not_mem_nil,or_false]
 grind (splits:=40)
theorem rf(s:List Nat):ae pE 256 [.s s] []=some (.b (iL s),[]):=by
 rw[av agH (by simp[Tp])]
 cases h:iX s <;> simp only[qA,seval,Tp,uM,adg,PB,auC,h,iL]
theorem nv(s:List Nat):ae pE 200 [.s s] []=some (.b (iL s),[]):=by
 rw[av af1 (by simp[SZ])]
 cases h:iX s <;> simp only[qA,seval,SZ,AL,adh,TD,auu,h,iL]
theorem Df(s p:List Nat):ae pE 303 [.s s,.s p] []=some (.b (decide (oQ p s)),[]):=by
 rw[av agU (by simp[Pv])]
 by_cases h:p.length≤s.length
 ·have r:(p.length:Int)≤s.length:=zZ
  simp only[qA,seval,sH,Pv,h,r,oQ,Nat.sub_zero]
 ·have r: ¬(p.length:Int)≤s.length:=zZ
  simp only[qA,seval,Pv,h,r,oQ]
theorem Dg(s p:List Nat):ae pE 231 [.s s,.s p] []=some (if oQ p s then .tup [.s (s.drop p.length),.b true]else .tup [.s s,.b false],[]):=by
 rw[av agq (by simp[Tf])]
 have h1:ae pE 271 [.s s,.s p] []=some (if oQ p s then .tup [.s (s.drop p.length),.b true]else .tup [.s s,.b false],[]):=by
  rw[av agM (by simp[Pt])]
  by_cases h:oQ p s
  ·have r:p.length≤s.length:=h.1
   have D:List.take (s.length-p.length) (s.drop p.length)=s.drop p.length:=List.take_of_length_le zP
   simp only[qA,seval,sH,Pt,Df,agV,h,r,D]
  ·simp only[qA,seval,Pt,Df,agV,h]
 by_cases h:oQ p s <;> simp only[h]at h1 <;> simp only[qA,seval,Tf,h1,auy,h]
theorem WW(s:List Nat):ae pE 154 [.s s] []=some (.i .i64 (uO s),[]):=by
 by_cases h1:s= [114,101,115,116]
 ·subst h1;exact cI (m:=100) (cG (by kernel_rfl))
 ·by_cases h2:s= [110,105,103,104,116,115]
  ·subst h2;exact cI (m:=100) (cG (by kernel_rfl))
  ·by_cases h3:s= [104,111,109,101]
   ·subst h3;exact cI (m:=100) (cG (by kernel_rfl))
   ·have r:=Dg s Ka
    have D:=Dg s Ll
    have F:Ka.length=7:=rfl
    have H:Ll.length=6:=rfl
    rw[uO,if_neg h1,if_neg h2,if_neg h3]
    rw[av afD (by simp[Kq])]
    rw[F]at r
    rw[H]at D
    by_cases h4:oQ Ka s
    ·rw[if_pos h4]at r
     unfold Ka at r
     simp only[qA,seval,Kq,h1,h2,h3,r,uP,Ui,MC,h4]
    ·rw[if_neg h4]at r
     by_cases h5:oQ Ll s
     ·rw[if_pos h5]at D
      unfold Ka at r
      unfold Ll at D
      simp only[qA,seval,Kq,h1,h2,h3,r,D,uP,Ui,MC,h4,h5]
     ·rw[if_neg h5]at D
      unfold Ka at r
      unfold Ll at D
      simp only[qA,seval,Kq,h1,h2,h3,r,D,uP,Ui,MC,h4,h5]
def qf(scope:Int)(s:List Nat):Int:=if dt scope s=0 then 6 else 0
theorem Iv(scope:Int)(s:List Nat):ae pE 87 [.i .i64 scope,.s s] []=some (.tup [.i .i64 (dt scope s),.i .i64 (qf scope s)],[]):=by
 rw[av as3 (by simp[c87])]
 by_cases h1:scope=1
 ·by_cases h:kq s=0 <;> simp only[qA,seval,c87,h1,qf,dt,uP,MC,h]
 ·by_cases h2:scope=2
  ·by_cases h:uO s=0 <;> simp only[qA,seval,c87,h2,qf,dt,WW,atL,h]
  ·by_cases h3:scope=3
   ·by_cases h:uN s=0 <;> simp only[qA,seval,c87,h3,qf,dt,WV,atM,h]
   ·simp only[qA,seval,c87,h1,h2,h3,qf,dt]
def strs(l:List (List Nat)):List T:=l.map T.s
theorem AM(l:List (List Nat)):(strs l).length=l.length:=by simp[strs]
theorem Dh(l:List (List Nat))(k:Nat)(hk:k<l.length):(strs l).drop k=T.s l[k]::(strs l).drop (k+1):=by
 rw[List.drop_eq_getElem_cons (by rw[AM];exact hk)];simp[strs]
theorem AN:ae pE 55 [.i .i64 1] []=some (.sl (strs bu) 11 true,[]):=cI (m:=100) (cG (by kernel_rfl))
theorem sM:ae pE 55 [.i .i64 2] []=some (.sl (strs dS) 25 false,[]):=cI (m:=100) (cG (by kernel_rfl))
theorem Lm:ae pE 55 [.i .i64 3] []=some (.sl (strs jJ) 7 true,[]):=cI (m:=100) (cG (by kernel_rfl))
theorem Ln(scope:Int)(h1:scope≠1)(h2:scope≠2)(h3:scope≠3):ae pE 55 [.i .i64 scope] []=some (.nilsl,[]):=by
 rw[av asL (by simp[c55])]
 simp only[qA,seval,repl,c55,h1,h2,h3]
theorem WX(s:List Nat)(v:T)(l:List (List Nat))(r:IsSl v l.length (strs l))(O:l.length<1000)(hs:s∉l)(fr:Fr)(lh:aE ah)(sh:List ah)(h1:aa fr 1= .s s)(h6:aa fr 6=v)(K:aa fr 7= .i .i64 0):
  Lp pE 69 od fr lh sh (.ext 0) fun f l s=>l=lh∧s=sh:=by
 refine cm OR (fun k f l s=>aa f 7= .i .i64 (k:Int)∧l=lh∧s=sh) l.length ⟨K,rfl,rfl⟩ ?_ ?_
 ·rintro k f _ _ hk D ⟨F,rfl,rfl⟩
  have H:(k:Int)<l.length:=zZ
  have N:=aG (k:=k) zZ
  have I: ¬l[k]=s:=fun e=>hs (e▸List.getElem_mem hk)
  have J: ∀kk,iaV v (.i kk (k:Int)) 1=some (.vp (T.s l[k]::(strs l).drop (k+1))):=fun kk=>by rw[r.ia (sz:=1) (by rw[AM];omega) hk,Nat.mul_one,Dh l k hk]
  simp only[qB,seval,gd,od,D,h1,h6,F,r.lenI,H,J,I,N]
 ·rintro f _ _ D ⟨F,rfl,rfl⟩
  simp only[qB,seval,gd,od,D,h6,F,r.lenI,Int.lt_irrefl]
theorem uQ(s:List Nat):ae pE 103 [.i .i64 1,.s s] []=some (.tup [.i .i64 (kq s),.i .i64 (if kq s=0 then 6 else 0)],[]):=by
 rw[av zD (by simp[pw])]
 simp only[qB,seval,sH,cT,repl,pw,AN,Kx,qY,od,strs,bu,kq,adb,ade,adf,List.mem_cons,List.not_mem_nil,or_false]
 grind (splits:=40)
theorem QG(s:List Nat):ae pE 103 [.i .i64 3,.s s] []=some (.tup [.i .i64 (uN s),.i .i64 (if uN s=0 then 6 else 0)],[]):=by
 rw[av zD (by simp[pw])]
 simp only[qB,seval,sH,cT,repl,pw,Lm,Kx,qY,od,strs,jJ,uN,Nw,Nx,List.mem_cons,List.not_mem_nil,or_false]
 grind (splits:=40)
theorem QH{s:List Nat}(hs:s∈dS):s= [114,101,115,116]∨s= [110,105,103,104,116,115]∨s= [104,111,109,101]∨(7<s.length∧s.take 7=Ka)∨(6<s.length∧s.take 6=Ll):=by
 simp only[dS,List.mem_cons,List.not_mem_nil,or_false]at hs
 rcases hs with rfl|rfl|rfl|rfl|rfl|rfl|rfl|rfl|rfl|rfl|rfl|rfl|rfl|rfl|rfl|rfl|rfl|rfl|rfl|rfl|rfl|rfl|rfl|rfl|rfl <;> decide
theorem AO(s:List Nat):oQ Ka s↔(7≤s.length∧s.take 7=Ka):=Iff.rfl
theorem AP(s:List Nat):oQ Ll s↔(6≤s.length∧s.take 6=Ll):=Iff.rfl
theorem QI(s:List Nat):ae pE 103 [.i .i64 2,.s s] []=some (.tup [.i .i64 (uO s),.i .i64 (if uO s=0 then 6 else 0)],[]):=by
 by_cases h1:s= [114,101,115,116]
 ·subst h1;exact cI (m:=100) (cG (by kernel_rfl))
 by_cases h2:s= [110,105,103,104,116,115]
 ·subst h2;exact cI (m:=100) (cG (by kernel_rfl))
 by_cases h3:s= [104,111,109,101]
 ·subst h3;exact cI (m:=100) (cG (by kernel_rfl))
 rw[uO,if_neg h1,if_neg h2,if_neg h3]
 by_cases h4:oQ Ka s
 ·rw[if_pos h4]
  have J:=(AO s).1 h4
  by_cases h6:7<s.length
  ·have D:(7:Int)<s.length:=zZ
   have r:7≤s.length:=zZ
   have e:=J.2
   unfold Ka at e
   have I:List.take (s.length-7) (s.drop 7)=s.drop 7:=List.take_of_length_le zP
   rw[av zD (by simp[pw])]
   simp only[qA,seval,sH,pw,D,r,Nat.sub_zero,e,uQ,CM,I]
  ·have:s=Ka:=by
    grind
   subst this
   exact cI (m:=100) (cG (by kernel_rfl))
 ·rw[if_neg h4]
  have R: ¬((7:Int)<s.length∧s.take 7=Ka):=fun⟨a,b⟩=>h4 ((AO s).2 ⟨by omega,b⟩)
  by_cases h5:oQ Ll s
  ·rw[if_pos h5]
   have PE:=(AP s).1 h5
   by_cases h6:6<s.length
   ·have D:(6:Int)<s.length:=zZ
    have r:6≤s.length:=zZ
    have e:=PE.2
    unfold Ll at e
    have I:List.take (s.length-6) (s.drop 6)=s.drop 6:=List.take_of_length_le zP
    rw[av zD (by simp[pw])]
    by_cases F:(7:Int)<s.length
    ·have H:7≤s.length:=zZ
     have K: ¬s.take 7= [98,101,102,111,114,101,46]:=fun b=>R ⟨F,b⟩
     simp only[qA,seval,sH,pw,D,r,F,H,K,Nat.sub_zero,e,uQ,CM,I]
    ·simp only[qA,seval,sH,pw,D,r,F,Nat.sub_zero,e,uQ,CM,I]
   ·have:s=Ll:=by
     grind
    subst this
    exact cI (m:=100) (cG (by kernel_rfl))
  ·rw[if_neg h5]
   have U: ¬((6:Int)<s.length∧s.take 6=Ll):=fun⟨a,b⟩=>h5 ((AP s).2 ⟨by omega,b⟩)
   have hs:s∉dS:=fun V=>by
    rcases QH V with h|h|h|⟨a,b⟩|⟨a,b⟩
    ·exact h1 h
    ·exact h2 h
    ·exact h3 h
    ·grind
    ·grind
   have N:=WX s (.sl (strs dS) 25 false) dS (Or.inr ⟨false,rfl⟩) zz hs
   rw[av zD (by simp[pw])]
   by_cases F:(7:Int)<s.length
   ·have h6:(6:Int)<s.length:=zZ
    have H:7≤s.length:=zZ
    have r:6≤s.length:=zZ
    have K: ¬s.take 7= [98,101,102,111,114,101,46]:=fun b=>R ⟨F,b⟩
    have O: ¬s.take 6= [97,102,116,101,114,46]:=fun b=>U ⟨h6,b⟩
    simp only[qA,seval,sH,pw,h6,F,r,H,K,O,Nat.sub_zero,sM,Kx,N]
   ·by_cases h6:(6:Int)<s.length
    ·have r:6≤s.length:=zZ
     have O: ¬s.take 6= [97,102,116,101,114,46]:=fun b=>U ⟨h6,b⟩
     simp only[qA,seval,sH,pw,h6,F,r,O,Nat.sub_zero,sM,Kx,N]
    ·simp only[qA,seval,sH,pw,h6,F,sM,Kx,N]
theorem Iw(scope:Int)(s:List Nat):ae pE 103 [.i .i64 scope,.s s] []=some (.tup [.i .i64 (dt scope s),.i .i64 (qf scope s)],[]):=by
 unfold qf dt
 by_cases h1:scope=1
 ·grind [uQ]
 ·by_cases h2:scope=2
  ·grind [QI]
  ·by_cases h3:scope=3
   ·grind [QG]
   ·simp only[h1,h2,h3,if_false,if_true]
    rw[av zD (by simp[pw])]
    have r:=WX s .nilsl [] (Or.inl ⟨rfl,rfl,rfl⟩) zz zP
    simp only[qA,seval,sH,pw,h2,Ln scope h1 h2 h3,Kx,r]
def awA:List Nat→Option Nat
 | []=>none
 |c::cs=>if c=46 then some 0 else(awA cs).map (· +1)
def EV(s:List Nat):Bool:=match awA s with
 |none=>iL s
 |some i=>iX (s.take i)&&iX (s.drop (i+1))
def dB(op:Int)(n:Nat):Bool:=
 if op≤6 then decide (n=0)else if op=7∨op=19 then decide (n=1)else if op=12∨op=13 then decide (2≤n)
 else if op=14∨op=15 then decide (n=3)else decide (n=2)
def Di(op:Int):Int:=if op=1∨op=2 then 1099511627776 else if op=3 then 1439 else 0
def qg(op num:Int)(name:List Nat)(n:Nat):Bool:=
 decide (1≤op)&&(decide (op≤22)&&(dB op n&&(decide (0≤num∧num≤Di op)&&(if op=6 then EV name else decide (name= [])))))
mutual
def Ex.wf:Ex→Bool
 | .mk op num name args=>qg op num name args.length&&EW args
def EW:List Ex→Bool
 | []=>true
 |x::xs=>x.wf&&EW xs
end
theorem Ex.wf_eq(x:Ex):x.wf=(qg x.op x.num x.name x.args.length&&EW x.args):=by obtain⟨_,_,_,_⟩:=x;rw[Ex.wf];rfl
theorem yz: ∀{xs:List Ex},EW xs=true↔ ∀x∈xs,x.wf=true
 | []=>by simp[EW]
 |x::xs=>by rw[EW,Bool.and_eq_true,yz (xs:=xs)];simp
def big(x:Ex):Prop:=200<x.nodes∨16<x.depth
instance (x:Ex):Decidable (big x):=by unfold big;infer_instance
def bJ(x:Ex):Int:=if big x then 10 else if x.wf then 0 else 1
def iv(ts:List Int)(k:Int):Bool:=ts.all fun t=>decide (t=k)
def Ix(op a b:Int):Int:=
 if a=1∧b=1 then 1 else if a=2∧b=1 then 2 else if op=10∧a=1∧b=2 then 2 else if op=11∧a=2∧b=2 then 1 else 0
def a0(ts:List Int):Int:=ts.getD 0 0
def a1(ts:List Int):Int:=ts.getD 1 0
def a2(ts:List Int):Int:=ts.getD 2 0
def lI(op:Int)(ts:List Int):Int:=
 if op=1 then 1 else if op=2 then 2 else if op=3 then 3 else if op=4 then 4 else if op=5 then 4
 else if op=7∨op=8∨op=9∨op=12∨op=13 then(if iv ts 1 then 1 else if iv ts 2 then 2 else 0)
 else if op=10∨op=11 then Ix op (a0 ts) (a1 ts)
 else if op=14 then(if a0 ts=4∧a1 ts=a2 ts then a1 ts else 0)
 else if op=15 then(if iv ts 3 then 4 else 0)
 else if op=16∨op=17 then(if(a0 ts=1∨a0 ts=2)∧a0 ts=a1 ts then 4 else 0)
 else if op=18 then(if a0 ts=a1 ts then 4 else 0)
 else(if iv ts 4 then 4 else 0)
mutual
def Ex.ty(cl:List Nat→Int×Int)(scope:Int):Ex→Int×Int
 | .mk op _ name args=>
   if op=6 then(if dt scope name≠0 then(dt scope name,0)else cl name)
   else match ku cl scope args with
    | .error e=>(0,e)
    | .ok ts=>if lI op ts=0 then(0,9)else(lI op ts,0)
def ku(cl:List Nat→Int×Int)(scope:Int):List Ex→Except Int (List Int)
 | []=> .ok []
 |x::xs=>if(x.ty cl scope).2≠0 then .error (x.ty cl scope).2 else match ku cl scope xs with
  | .error e=> .error e
  | .ok ts=> .ok ((x.ty cl scope).1::ts)
end
theorem Ex.ty_eq(cl:List Nat→Int×Int)(scope:Int)(x:Ex):x.ty cl scope=
  if x.op=6 then(if dt scope x.name≠0 then(dt scope x.name,0)else cl x.name)
  else match ku cl scope x.args with
   | .error e=>(0,e)
   | .ok ts=>if lI x.op ts=0 then(0,9)else(lI x.op ts,0):=by obtain⟨_,_,_,_⟩:=x;rw[Ex.ty];rfl
abbrev Cs:=List (List Nat×Ex)
def eU:Cs→List Nat→Option Nat
 | [],_=>none
 |c::cs,s=>if c.1=s then some 0 else(eU cs s).map (· +1)
def clk(l:Cs)(r:List (Int×Int))(s:List Nat):Int×Int:=match eU l s with
 |none=>(0,6)
 |some i=>r.getD i (0,6)
def EX(l:Cs)(r:List (Int×Int))(x:Ex):Int×Int:=if bJ x≠0 then(0,bJ x)else x.ty (clk l r) 0
def iM(l:Cs):Nat→List (Int×Int)
 |0=> []
 |n+1=>iM l n++ [EX (l.take n) (iM l n) (l.getD n ([],.mk 0 0 [] [])).2]
def cg(l:Cs)(scope:Int)(x:Ex):Int×Int:=if bJ x≠0 then(0,bJ x)else x.ty (clk l (iM l l.length)) scope
def isLit(x:Ex):Bool:=match x with
 | .mk op _ _ args=>decide (op=1∨op=2∨op=3∨op=4∨op=5)||(decide (op=7)&&(match args with|y::_=>decide (y.op=1∨y.op=2)| []=>false))
def adi(x:Ex):Int:=match x with
 | .mk op num _ args=>if op=4 then 1 else if op=5 then 0 else if op=7 then(match args with|y::_=> -y.num| []=>0)else num
def gv(op num:Int):Ex:= .mk op num [] []
def rH(k n:Int):Ex:=
 if k=4 then(if n=0 then gv 5 0 else gv 4 0)else if k=3 then gv 3 n
 else if n<0 then .mk 7 0 [] [gv (if k=2 then 2 else 1) (-n)]else gv (if k=2 then 2 else 1) n
def bz(n:Int):Int:=max (-1099511627776) (min 1099511627776 n)
def Lo(a b:Int):Int:=if b=0 then 0 else bz (Int.fdiv a b)
def ij(c f t:Int):Bool:=if f≤t then decide (f≤c∧c<t)else decide (f≤c∨c<t)
def mj(b:Bool):Int:=if b then 1 else 0
def akR:Int→List Int→Int
 |m,[]=>m
 |m,v::r=>akR (min m v) r
def akS:Int→List Int→Int
 |m,[]=>m
 |m,v::r=>akS (max m v) r
def EY(op:Int)(r:List Int):Int:=
 if op=7 then-a0 r else if op=8 then bz (a0 r+a1 r)else if op=9 then bz (a0 r-a1 r)else if op=10 then bz (a0 r*a1 r)
 else if op=11 then Lo (a0 r) (a1 r)else if op=12 then akR (a0 r) r.tail else if op=13 then akS (a0 r) r.tail
 else if op=14 then(if a0 r=0 then a2 r else a1 r)else if op=15 then mj (ij (a0 r) (a1 r) (a2 r))
 else if op=16 then mj (decide (a0 r<a1 r))else if op=17 then mj (decide (a0 r≤a1 r))else if op=18 then mj (decide (a0 r=a1 r))
 else if op=19 then 1-a0 r else if op=20 then min (a0 r) (a1 r)else if op=21 then max (a0 r) (a1 r)else max (1-a0 r) (a1 r)
def WY(x:Ex):Bool:=decide (x.op=1∨x.op=2)&&decide (x.num=0)
def akT(x:Ex):Bool:=decide (x.op=1)&&decide (x.num=1)
def awB(op:Int)(r:List Ex):Ex:=
 match r with
 | [a]=>if op=19∧a.op=19 then a.args.headD (gv 0 0)else .mk op 0 [] r
 | [a,b]=>
   if op=20 then(if a.op=5∨b.op=5 then gv 5 0 else if a.op=4 then b else if b.op=4 then a else .mk op 0 [] r)
   else if op=21 then(if a.op=4∨b.op=4 then gv 4 0 else if a.op=5 then b else if b.op=5 then a else .mk op 0 [] r)
   else if op=22 then(if a.op=5∨b.op=4 then gv 4 0 else if a.op=4 then b else if b.op=5 then(if a.op=19 then a.args.headD (gv 0 0)else .mk 19 0 [] [a])else .mk op 0 [] r)
   else if op=8 then(if WY b then a else if WY a then b else .mk op 0 [] r)
   else if op=9 then(if WY b then a else .mk op 0 [] r)
   else if op=10 then(if akT b then a else if akT a then b else .mk op 0 [] r)
   else if op=11 then(if akT b then a else .mk op 0 [] r)
   else .mk op 0 [] r
 | [a,b,c]=>if op=14 then(if a.op=4 then b else if a.op=5 then c else .mk op 0 [] r)else .mk op 0 [] r
 |_=> .mk op 0 [] r
mutual
def Ex.fold(cl:List Nat→Int×Int)(cx:List Nat→Ex)(scope:Int):Ex→Ex
 | .mk op num name args=>
   if op=6 then(if dt scope name≠0 then .mk op num name args else cx name)
   else if args.isEmpty then .mk op num name args
   else if(ml cl cx scope args).all isLit then rH ((Ex.mk op num name args).ty cl scope).1 (EY op ((ml cl cx scope args).map adi))
   else awB op (ml cl cx scope args)
def ml(cl:List Nat→Int×Int)(cx:List Nat→Ex)(scope:Int):List Ex→List Ex
 | []=> []
 |x::xs=>x.fold cl cx scope::ml cl cx scope xs
end
structure Ru where
 sc:Int
 nm:List Nat
 x:Ex
structure Co where
 sc:Int
 x:Ex
def jK:List Ru:= [
 ⟨1,[115,105,122,101],.mk 17 0 [] [.mk 8 0 [] [.mk 6 0 [108,101,103,115] [],.mk 6 0 [104,101,97,100,115] []],.mk 1 3 [] []]⟩,
 ⟨1,[115,112,97,110],.mk 17 0 [] [.mk 6 0 [115,112,97,110] [],.mk 9 0 [] [.mk 2 780 [] [],.mk 10 0 [] [.mk 2 30 [] [],.mk 9 0 [] [.mk 6 0 [108,101,103,115] [],.mk 1 1 [] []]]]]⟩,
 ⟨1,[110,105,103,104,116],.mk 22 0 [] [.mk 15 0 [] [.mk 6 0 [115,116,97,114,116] [],.mk 3 1320 [] [],.mk 3 300 [] []],.mk 17 0 [] [.mk 6 0 [115,112,97,110] [],.mk 2 480 [] []]]⟩,
 ⟨1,[98,108,111,99,107],.mk 17 0 [] [.mk 6 0 [98,108,111,99,107] [],.mk 2 360 [] []]⟩,
 ⟨1,[116,121,112,101,115],.mk 17 0 [] [.mk 6 0 [116,121,112,101,115] [],.mk 1 1 [] []]⟩,
 ⟨1,[111,100,100],.mk 21 0 [] [.mk 21 0 [] [.mk 18 0 [] [.mk 6 0 [108,101,103,115] [],.mk 1 1 [] []],.mk 18 0 [] [.mk 6 0 [108,101,103,115] [],.mk 1 3 [] []]],.mk 18 0 [] [.mk 6 0 [104,101,97,100,115] [],.mk 1 1 [] []]]⟩,
 ⟨1,[103,97,112],.mk 21 0 [] [.mk 17 0 [] [.mk 6 0 [108,111,110,103,101,115,116] [],.mk 2 120 [] []],.mk 17 0 [] [.mk 2 360 [] [],.mk 6 0 [115,112,97,110] []]]⟩,
 ⟨2,[108,101,97,115,116],.mk 17 0 [] [.mk 2 480 [] [],.mk 6 0 [114,101,115,116] []]⟩,
 ⟨2,[98,101,102,111,114,101],.mk 17 0 [] [.mk 13 0 [] [.mk 2 360 [] [],.mk 6 0 [98,101,102,111,114,101,46,115,112,97,110] []],.mk 6 0 [114,101,115,116] []]⟩,
 ⟨2,[110,105,103,104,116,115],.mk 21 0 [] [.mk 17 0 [] [.mk 6 0 [110,105,103,104,116,115] [],.mk 1 1 [] []],.mk 6 0 [104,111,109,101] []]⟩,
 ⟨2,[104,111,109,101],.mk 22 0 [] [.mk 6 0 [104,111,109,101] [],.mk 17 0 [] [.mk 6 0 [114,101,115,116] [],.mk 2 1200 [] []]]⟩,
 ⟨2,[97,102,116,101,114],.mk 21 0 [] [.mk 15 0 [] [.mk 6 0 [97,102,116,101,114,46,115,116,97,114,116] [],.mk 3 360 [] [],.mk 3 1200 [] []],.mk 17 0 [] [.mk 2 540 [] [],.mk 6 0 [114,101,115,116] []]]⟩,
 ⟨3,[100,97,121,115],.mk 17 0 [] [.mk 6 0 [100,97,121,115] [],.mk 1 3 [] []]⟩,
 ⟨3,[100,117,116,105,101,115],.mk 17 0 [] [.mk 6 0 [100,117,116,105,101,115] [],.mk 1 3 [] []]⟩,
 ⟨3,[98,108,111,99,107],.mk 17 0 [] [.mk 6 0 [98,108,111,99,107] [],.mk 2 540 [] []]⟩,
 ⟨3,[99,114,101,100,105,116],.mk 17 0 [] [.mk 6 0 [99,114,101,100,105,116] [],.mk 2 720 [] []]⟩,
 ⟨3,[115,112,97,110],.mk 17 0 [] [.mk 6 0 [115,112,97,110] [],.mk 2 3000 [] []]⟩,
 ⟨3,[108,101,103,115],.mk 17 0 [] [.mk 1 2 [] [],.mk 6 0 [108,101,103,115] []]⟩]
def iS:List Co:= [
 ⟨1,.mk 8 0 [] [.mk 1 100 [] [],.mk 10 0 [] [.mk 1 10 [] [],.mk 6 0 [108,101,103,115] []]]⟩,
 ⟨1,.mk 11 0 [] [.mk 9 0 [] [.mk 6 0 [115,112,97,110] [],.mk 6 0 [98,108,111,99,107] []],.mk 2 15 [] []]⟩,
 ⟨1,.mk 14 0 [] [.mk 17 0 [] [.mk 6 0 [110,105,103,104,116] [],.mk 2 120 [] []],.mk 1 0 [] [],.mk 1 30 [] []]⟩,
 ⟨2,.mk 14 0 [] [.mk 6 0 [104,111,109,101] [],.mk 1 0 [] [],.mk 1 50 [] []]⟩,
 ⟨2,.mk 11 0 [] [.mk 6 0 [114,101,115,116] [],.mk 2 60 [] []]⟩,
 ⟨3,.mk 10 0 [] [.mk 1 20 [] [],.mk 6 0 [100,97,121,115] []]⟩,
 ⟨3,.mk 11 0 [] [.mk 13 0 [] [.mk 2 0 [] [],.mk 9 0 [] [.mk 6 0 [99,114,101,100,105,116] [],.mk 2 480 [] []]],.mk 2 30 [] []]⟩,
 ⟨1,.mk 7 0 [] [.mk 10 0 [] [.mk 1 5 [] [],.mk 6 0 [104,101,97,100,115] []]]⟩,
 ⟨1,.mk 10 0 [] [.mk 6 0 [116,121,112,101,115] [],.mk 6 0 [116,121,112,101,115] []]⟩,
 ⟨3,.mk 8 0 [] [.mk 7 0 [] [.mk 10 0 [] [.mk 1 3 [] [],.mk 6 0 [108,101,103,115] []]],.mk 6 0 [115,104,105,102,116,115] []]⟩]
def uR:List Ex:= [
 .mk 13 0 [] [.mk 6 0 [98,108,111,99,107] [],.mk 2 240 [] []],
 .mk 11 0 [] [.mk 6 0 [115,112,97,110] [],.mk 1 2 [] []],
 .mk 8 0 [] [.mk 6 0 [98,108,111,99,107] [],.mk 10 0 [] [.mk 2 20 [] [],.mk 6 0 [108,101,103,115] []]]]
def shB:List Ex:= [.mk 1 2 [] [],.mk 11 0 [] [.mk 1 7 [] [],.mk 1 2 [] []],.mk 7 0 [] [.mk 1 1 [] []]]
def sN:List Nat:= [115,104,105,102,116,115]
def mL(k:Nat):Ex:=shB.getD k (.mk 1 2 [] [])
def exB:List Ex:=jK.map Ru.x++iS.map Co.x++uR++shB
def Ex.sm(x:Ex):Prop:=x∈exB
theorem dK{α:Type}(L:List α)(f:Nat)(g:α→List T)(v:α→T)(h:(L.map fun x=>(r8 pE 1000 f (g x) []).map (·.1))=L.map fun x=>some (v x)): ∀x∈L,∃s,ae pE f (g x) []=some (v x,s):=fun x hx=>Nv (m:=1000) (List.map_inj_left.1 h x hx)
theorem Lq{α:Type}(L:List α)(f:Nat)(g:α→List T)(v:α→T)(h:(L.map fun x=>r8 pE 1000 f (g x) [])=L.map fun x=>some (v x,[])): ∀x∈L,ae pE f (g x) []=some (v x,[]):=fun x hx=>DCall_iff.2 ⟨1000,List.map_inj_left.1 h x hx⟩
theorem td{α:Type}{P:α→Prop}{L:List α}(m:Nat)(a: ∀x∈L.take m,P x)(b: ∀x∈L.drop m,P x): ∀x∈L,P x:=fun x hx=>by
 rw[←List.take_append_drop m L]at hx
 exact(List.mem_append.1 hx).elim (a x) (b x)
def jL(j:Nat):List (List Nat×Ex):= [(sN,mL j)]
def nw:List (Int×Ex):=jK.map (fun u=>(u.sc,u.x))++iS.map (fun u=>(u.sc,u.x))++uR.map fun x=>(1,x)
def vB(e:Bool)(j:Nat):T:= .sl (.s sN::fw (mL j)) 1 e
end Go.Proofs.YtnkgnjecmfkcfaaGreat
