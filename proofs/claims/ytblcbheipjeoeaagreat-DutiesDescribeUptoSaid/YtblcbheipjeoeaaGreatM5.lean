/- Walks of functions of the program and of the reference, and their plain laws, part 5. Conditions: the theorems' own. -/
import Derived.Test.YtblcbheipjeoeaaGreatM4
import Derived.KernelRfl
set_option maxRecDepth 100000
set_option linter.unusedSimpArgs false
set_option linter.unusedVariables false
set_option maxHeartbeats 16000000
namespace Go.Proofs.YtblcbheipjeoeaaGreat
open Go Go.Ev
mutual
def Ex.kX:Ex→Int
 | .mk op _ _ args=>if op=1 then 1 else if op=2 then 2 else if op=3 then 3 else if op=7∨op=8∨op=9∨op=12∨op=13 then a0 (kXL args)else if op=14 then a1 (kXL args)
   else if op=10 then max (a0 (kXL args)) (a1 (kXL args))else if op=11 then(if a1 (kXL args)=2 then 1 else a0 (kXL args))else 4
def kXL:List Ex→List Int
 | []=> []
 |x::xs=>x.kX::kXL xs
end
def EL(k n:Int):Prop:=((k=1∨k=2)∧bd n)∨(k=3∧0≤n∧n≤1439)∨(k=4∧bit n)
theorem Zp{k n:Int}(h:EL k n):bd n:=by
 rcases h with⟨_,h⟩|⟨_,h1,h2⟩|⟨_,h⟩
 ·exact h
 ·unfold bd;omega
 ·exact akk h
theorem I6{n:Int}(h:EL 4 n):bit n:=by
 rcases h with⟨h|h,_⟩|⟨h,_⟩|⟨_,h⟩
 ·omega
 ·omega
 ·omega
 ·exact h
theorem BW{k n:Int}(h:k=1∨k=2)(i:bd n):EL k n:= .inl ⟨h,i⟩
def nc:List Nat→Int×Int:=fun _=>(0,6)
def FK(scope k:Int)(y:Ex):Prop:=y.wf=true∧y.ty nc scope=(k,0)
def FKs(scope:Int):List Int→List Ex→Prop
 | [],[]=>True
 |t::ts,y::i=>FK scope t y∧FKs scope ts i
 |_,_=>False
theorem FKs.wf{scope:Int}: ∀{ts:List Int} {i:List Ex},FKs scope ts i→sM i=true
 | [],[],_=>rfl
 |t::ts,y::i,h=>by rw[sM,h.1.1,FKs.wf h.2];rfl
theorem FKs.ty{scope:Int}: ∀{ts:List Int} {i:List Ex},FKs scope ts i→pv nc scope i= .ok ts
 | [],[],_=>by rw[pv]
 |t::ts,y::i,h=>by
  rw[pv,h.1.2,FKs.ty h.2];rfl
theorem FK.mk{scope k:Int}{op:Int}{i:List Ex}{ts:List Int}(C:1≤op)(D:op≤22)(r:op≠6)(E:jA op i.length=true)(O6:FKs scope ts i)(F:mH op ts=k)(H:k≠0):FK scope k (.mk op 0 [] i):=by
 constructor
 ·rw[Ex.wf_eq,Bool.and_eq_true]
  refine⟨?_,O6.wf⟩
  have I:0≤qN op:=by unfold qN;split <;> (try split) <;> decide
  simp only[oD,Bool.and_eq_true,decide_eq_true_eq]
  refine⟨C,D,E,⟨Int.le_refl _,I⟩, ?_⟩
  show(if op=6 then qx []else decide (([]:List Nat)= []))=true
  rw[if_neg r];rfl
 ·rw[Ex.ty_eq]
  show(if op=6 then _ else match pv nc scope i with| .error e=>(0,e)| .ok ts=>if mH op ts=0 then(0,9)else(mH op ts,0))=(k,0)
  rw[if_neg r,O6.ty]
  show(if mH op ts=0 then((0:Int),(9:Int))else(mH op ts,0))=(k,0)
  rw[F,if_neg H]
theorem FK.leaf{scope k op num:Int}(h:(op=1∧k=1∧0≤num∧num≤1099511627776)∨(op=2∧k=2∧0≤num∧num≤1099511627776)∨(op=3∧k=3∧0≤num∧num≤1439)∨(op=4∧k=4∧num=0)∨(op=5∧k=4∧num=0)):FK scope k (oi op num):=by
 have i:(oi op num).wf=oD op num [] 0:=by rw[Ex.wf_eq];simp[oi,Ex.op,Ex.num,Ex.name,Ex.args,sM]
 have r:op≠6→(oi op num).ty nc scope=if mH op []=0 then(0,9)else(mH op [],0):=fun C=>by
  rw[Ex.ty_eq];simp only[oi,Ex.op,Ex.args,if_neg C,pv];rfl
 constructor
 ·rw[i]
  simp only[oD,Bool.and_eq_true,decide_eq_true_eq]
  rcases h with⟨rfl,rfl,h1,h2⟩|⟨rfl,rfl,h1,h2⟩|⟨rfl,rfl,h1,h2⟩|⟨rfl,rfl,rfl⟩|⟨rfl,rfl,rfl⟩
  ·exact⟨by decide,by decide,rfl,⟨h1,h2⟩,rfl⟩
  ·exact⟨by decide,by decide,rfl,⟨h1,h2⟩,rfl⟩
  ·exact⟨by decide,by decide,rfl,⟨h1,h2⟩,rfl⟩
  ·exact⟨by decide,by decide,rfl,⟨by decide,by decide⟩,rfl⟩
  ·exact⟨by decide,by decide,rfl,⟨by decide,by decide⟩,rfl⟩
 ·rcases h with⟨rfl,rfl,h1,h2⟩|⟨rfl,rfl,h1,h2⟩|⟨rfl,rfl,h1,h2⟩|⟨rfl,rfl,rfl⟩|⟨rfl,rfl,rfl⟩ <;> rw[r (by decide)] <;> rfl
theorem I7{scope k n:Int}(h:EL k n):FK scope k (yc k n)∧isLit (yc k n)=true∧acy (yc k n)=n:=by
 unfold yc
 rcases h with⟨hk,hb⟩|⟨rfl,h1,h2⟩|⟨rfl,hb⟩
 ·have r:k≠4:=by omega
  have C:k≠3:=by omega
  rw[if_neg r,if_neg C]
  unfold bd at hb
  by_cases i:n<0
  ·rw[if_pos i]
   rcases hk with rfl|rfl
   ·refine⟨FK.mk (ts:= [1]) (by decide) (by decide) (by decide) rfl ⟨FK.leaf (.inl ⟨rfl,rfl,by omega,by omega⟩),trivial⟩ rfl (by decide),rfl, ?_⟩
    show- -n=n;omega
   ·refine⟨FK.mk (ts:= [2]) (by decide) (by decide) (by decide) rfl ⟨FK.leaf (.inr (.inl ⟨rfl,rfl,by omega,by omega⟩)),trivial⟩ rfl (by decide),rfl, ?_⟩
    show- -n=n;omega
  ·rw[if_neg i]
   rcases hk with rfl|rfl
   ·exact⟨FK.leaf (.inl ⟨rfl,rfl,by omega,by omega⟩),rfl,rfl⟩
   ·exact⟨FK.leaf (.inr (.inl ⟨rfl,rfl,by omega,by omega⟩)),rfl,rfl⟩
 ·rw[if_neg (by decide),if_pos rfl]
  exact⟨FK.leaf (.inr (.inr (.inl ⟨rfl,rfl,h1,h2⟩))),rfl,rfl⟩
 ·rw[if_pos rfl]
  rcases hb with rfl|rfl
  ·exact⟨FK.leaf (.inr (.inr (.inr (.inr ⟨rfl,rfl,rfl⟩)))),rfl,rfl⟩
  ·exact⟨FK.leaf (.inr (.inr (.inr (.inl ⟨rfl,rfl,rfl⟩)))),rfl,rfl⟩
theorem Qk{cl:List Nat→Int×Int}{scope:Int}: ∀{xs:List Ex} {e:Int},pv cl scope xs= .error e→e≠0
 | [],e,h=>by rw[pv]at h;cases h
 |x::xs,e,h=>by
  rw[pv]at h
  split at h
  ·rename_i r;cases h;exact r
  ·cases i:pv cl scope xs with
   |error C=>rw[i]at h;cases h;exact Qk i
   |ok us=>rw[i]at h;cases h
def AY:List Int→List Int→Prop
 | [],[]=>True
 |t::ts,v::i=>EL t v∧AY ts i
 |_,_=>False
theorem AY.len: ∀{ts i:List Int},AY ts i→ts.length=i.length
 | [],[],_=>rfl
 |t::ts,v::i,h=>by rw[List.length_cons,List.length_cons,AY.len h.2]
theorem AY.bd: ∀{ts i:List Int},AY ts i→ ∀v∈i,bd v
 | [],[],_=>by simp
 |t::ts,v::i,h=>by
  intro w hw
  rcases List.mem_cons.1 hw with rfl|hw
  ·exact Zp h.1
  ·exact AY.bd h.2 w hw
theorem AY.all{k:Int}: ∀{ts i:List Int},AY ts i→kW ts k=true→ ∀v∈i,EL k v
 | [],[],_,_=>by simp
 |t::ts,v::i,h,r=>by
  rw[pA,Bool.and_eq_true,decide_eq_true_eq]at r
  intro w hw
  rcases List.mem_cons.1 hw with rfl|hw
  ·rw[←r.1];exact h.1
  ·exact AY.all h.2 r.2 w hw
theorem Oh(op:Int)(h:op=12∨op=13): ∀(i:List Int) (m:Int),bd m→(∀v∈i,bd v)→bd (Mf op m i)
 | [],m,r,_=>by rw[I4];exact r
 |v::i,m,r,C=>by
  rw[Fa _ _ _ _ h]
  refine Oh op h i _ ?_ (fun w D=>C w (by simp[D]))
  have:=C v (by simp)
  split <;> (unfold Go.Proofs.YtblcbheipjeoeaaGreat.bd at *; omega)
theorem k12{ts:List Int}{k:Int}(h:(if kW ts 1=true then(1:Int)else if kW ts 2=true then 2 else 0)=k)(i:k≠0):k=1∨k=2:=by
 split at h
 ·exact .inl h.symm
 ·split at h
  ·exact .inr h.symm
  ·exact absurd h.symm i
theorem LL{op a b k:Int}(h:qO op a b=k)(i:k≠0):k=1∨k=2:=by
 unfold qO at h
 split at h
 ·omega
 ·split at h
  ·omega
  ·split at h
   ·omega
   ·split at h <;> omega
theorem P3{op k:Int}{ts C:List Int}(J:AY ts C)(X:7≤op)(Tu:op≤22)(H:jA op ts.length=true)(D:mH op ts=k)(E:k≠0):vOk op C∧EL k (FH op C):=by
 have r:=J.bd
 have i:=J.len
 have F: ∀b:Bool,EL 4 (sO b):=fun b=> .inr (.inr ⟨rfl,Ta b⟩)
 rcases oO (show 1≤op by omega) Tu with rfl|rfl|rfl|rfl|rfl|rfl|rfl|rfl|rfl|rfl|rfl|rfl|rfl|rfl|rfl|rfl|rfl|rfl|rfl|rfl|rfl|rfl
 iterate 6 ·omega
 ·have Zq:=k12 D E
  obtain⟨v,rfl⟩:=N1 (ts:=C) (by rw[←i];simpa[jA]using H)
  exact⟨⟨r,fun h=>absurd h (by decide),fun h=>absurd h (by decide)⟩,BW Zq (ze (r v (by simp)))⟩
 ·have Zq:=k12 D E
  obtain⟨v,w,rfl⟩:=mh (ts:=C) (by rw[←i];simpa[jA]using H)
  exact⟨⟨r,fun h=>absurd h (by decide),fun h=>absurd h (by decide)⟩,BW Zq (xS _)⟩
 ·have Zq:=k12 D E
  obtain⟨v,w,rfl⟩:=mh (ts:=C) (by rw[←i];simpa[jA]using H)
  exact⟨⟨r,fun h=>absurd h (by decide),fun h=>absurd h (by decide)⟩,BW Zq (xS _)⟩
 ·have Zq:=LL (op:=10) D E
  obtain⟨v,w,rfl⟩:=mh (ts:=C) (by rw[←i];simpa[jA]using H)
  exact⟨⟨r,fun h=>absurd h (by decide),fun h=>absurd h (by decide)⟩,BW Zq (xS _)⟩
 ·have Zq:=LL (op:=11) D E
  obtain⟨v,w,rfl⟩:=mh (ts:=C) (by rw[←i];simpa[jA]using H)
  exact⟨⟨r,fun h=>absurd h (by decide),fun h=>absurd h (by decide)⟩,BW Zq (adA _ _)⟩
 iterate 2
  ·have Zq:=k12 D E
   match C,r,i with
   | [],_,i=>rw[i]at H;simp[jA]at H
   |v::C,r,_=>
    refine⟨⟨r,fun h=>absurd h (by decide),fun h=>absurd h (by decide)⟩,BW Zq ?_⟩
    first
     |exact Oh 12 (.inl rfl) C v (r v (by simp)) (fun w N=>r w (by simp[N]))
     |exact Oh 13 (.inr rfl) C v (r v (by simp)) (fun w N=>r w (by simp[N]))
 ·obtain⟨a,b,c,rfl⟩:=yB (ts:=ts) (by simpa[jA]using H)
  obtain⟨x,y,z,rfl⟩:=yB (ts:=C) (by rw[←i];rfl)
  obtain⟨U,V,W,_⟩:=J
  have AW:(if a=4∧b=c then b else 0)=k:=D
  split at AW
  ·rename_i Np
   obtain⟨rfl,rfl⟩:=Np
   subst AW
   have LJ:=I6 U
   refine⟨⟨r,fun h=>absurd h (by decide),fun _=>LJ⟩, ?_⟩
   show EL b (if x=0 then z else y)
   split
   ·exact W
   ·exact V
  ·exact absurd AW.symm E
 ·have AW:(if kW ts 3=true then(4:Int)else 0)=k:=D
  split at AW
  ·subst AW
   exact⟨⟨r,fun h=>absurd h (by decide),fun h=>absurd h (by decide)⟩,F _⟩
  ·exact absurd AW.symm E
 iterate 2
  ·have AW:(if(a0 ts=1∨a0 ts=2)∧a0 ts=a1 ts then(4:Int)else 0)=k:=D
   split at AW
   ·subst AW
    exact⟨⟨r,fun h=>absurd h (by decide),fun h=>absurd h (by decide)⟩,F _⟩
   ·exact absurd AW.symm E
 ·have AW:(if a0 ts=a1 ts then(4:Int)else 0)=k:=D
  split at AW
  ·subst AW
   exact⟨⟨r,fun h=>absurd h (by decide),fun h=>absurd h (by decide)⟩,F _⟩
  ·exact absurd AW.symm E
 ·have AW:(if kW ts 4=true then(4:Int)else 0)=k:=D
  split at AW
  ·rename_i O
   subst AW
   have I:=fun v K=>I6 (J.all O v K)
   obtain⟨v,rfl⟩:=N1 (ts:=C) (by rw[←i];simpa[jA]using H)
   have K:=I v (by simp)
   refine⟨⟨r,fun _=>I,fun h=>absurd h (by decide)⟩,.inr (.inr ⟨rfl, ?_⟩)⟩
   show bit (1-v)
   unfold bit at *; omega
  ·exact absurd AW.symm E
 iterate 3
  ·have AW:(if kW ts 4=true then(4:Int)else 0)=k:=D
   split at AW
   ·rename_i O
    subst AW
    have I:=fun v K=>I6 (J.all O v K)
    obtain⟨v,w,rfl⟩:=mh (ts:=C) (by rw[←i];simpa[jA]using H)
    have K:=I v (by simp)
    have N:=I w (by simp)
    refine⟨⟨r,fun _=>I,fun h=>absurd h (by decide)⟩,.inr (.inr ⟨rfl, ?_⟩)⟩
    first
     |(show bit (min v w);unfold bit at *; omega)
     |(show bit (max v w);unfold bit at *; omega)
     |(show bit (max (1-v) w);unfold bit at *; omega)
   ·exact absurd AW.symm E
theorem Ex.fold_eq(cl:List Nat→Int×Int)(cx:List Nat→Ex)(scope:Int)(x:Ex):x.fold cl cx scope=
  if x.op=6 then(if ki scope x.name≠0 then x else cx x.name)
  else if x.args.isEmpty then x
  else if(sP cl cx scope x.args).all isLit then yc (x.ty cl scope).1 (FH x.op ((sP cl cx scope x.args).map acy))
  else arM x.op (sP cl cx scope x.args):=by obtain⟨_,_,_,_⟩:=x;rw[Ex.fold];rfl
theorem xM{cl:List Nat→Int×Int}{scope k:Int}{x:Ex}(i:x.ty cl scope=(k,0))(E:x.op≠6): ∃ts,pv cl scope x.args= .ok ts∧mH x.op ts=k∧k≠0:=by
 rw[Ex.ty_eq,if_neg E]at i
 cases C:pv cl scope x.args with
 |error e=>
  rw[C]at i
  have r:((0:Int),e)=(k,0):=i
  injection r with _ h0
  exact absurd h0 (Qk C)
 |ok ts=>
  rw[C]at i
  have r:(if mH x.op ts=0 then((0:Int),(9:Int))else(mH x.op ts,0))=(k,0):=i
  split at r
  ·cases r
  ·rename_i F
   have D:mH x.op ts=k:=by injection r
   exact⟨ts,rfl,D,by rw[←D];exact F⟩
theorem uj{cl:List Nat→Int×Int}{scope:Int}{x:Ex}{xs:List Ex}{ts:List Int}(h:pv cl scope (x::xs)= .ok ts): ∃t us,ts=t::us∧x.ty cl scope=(t,0)∧pv cl scope xs= .ok us:=by
 rw[pv]at h
 split at h
 ·cases h
 ·rename_i r
  cases i:pv cl scope xs with
  |error e=>rw[i]at h;cases h
  |ok us=>
   rw[i]at h;cases h
   have C:(x.ty cl scope).2=0:=by simpa using r
   exact⟨_,us,rfl,by rw[←C],rfl⟩
theorem xJ{x:Ex}(h:x.wf=true):1≤x.op∧x.op≤22∧jA x.op x.args.length=true∧(0≤x.num∧x.num≤qN x.op)∧(if x.op=6 then qx x.name=true else x.name= [])∧sM x.args=true:=by
 rw[Ex.wf_eq,Bool.and_eq_true]at h
 obtain⟨r,Bl⟩:=h
 simp only[oD,Bool.and_eq_true,decide_eq_true_eq]at r
 obtain⟨C,D,E,F,i⟩:=r
 refine⟨C,D,E,F, ?_,Bl⟩
 split at i <;> rename_i e
 ·rw[if_pos e];exact i
 ·rw[if_neg e];simpa using i
theorem akn{op:Int}{n:Nat}(r:1≤op)(i:jA op n=true)(C:n≠0):7≤op:=by
 by_cases h:op≤6
 ·simp[jA,h]at i;omega
 ·omega
theorem adC{op:Int}{n:Nat}(i:op≤22)(r:jA op n=true)(C:n=0):op≤6:=by
 subst C
 by_cases h:op≤6
 ·exact h
 ·rcases oO (show 1≤op by omega) i with rfl|rfl|rfl|rfl|rfl|rfl|rfl|rfl|rfl|rfl|rfl|rfl|rfl|rfl|rfl|rfl|rfl|rfl|rfl|rfl|rfl|rfl <;> simp[jA]at r h
mutual
def Ex.val0(i:List Nat→Int):Ex→Int
 | .mk op num name args=>if op=6 then i name else if op=1∨op=2∨op=3 then num else if op=4 then 1 else if op=5 then 0 else FH op (kz i args)
def kz(i:List Nat→Int):List Ex→List Int
 | []=> []
 |x::xs=>x.val0 i::kz i xs
end
theorem Ex.val0_eq(i:List Nat→Int)(x:Ex):x.val0 i=if x.op=6 then i x.name else if x.op=1∨x.op=2∨x.op=3 then x.num else if x.op=4 then 1 else if x.op=5 then 0 else FH x.op (kz i x.args):=by obtain⟨_,_,_,_⟩:=x;rw[Ex.val0];rfl
theorem py(i:List Nat→Int): ∀xs,kz i xs=xs.map (Ex.val0 i)
 | []=>rfl
 |x::xs=>by rw[kz,py i xs];rfl
def cxv(cl:List Nat→Int×Int)(i:List Nat→Int)(s:List Nat):Ex:=yc (cl s).1 (i s)
def NO(cl:List Nat→Int×Int)(i:List Nat→Int):Prop:= ∀s t,cl s=(t,0)→EL t (i s)
theorem Zr{cl:List Nat→Int×Int}{scope:Int}{x:Ex}{k:Int}(D:x.wf=true)(i:x.ty cl scope=(k,0))(C:x.op≠6)(r:x.args= []):x=yc k (if x.op=1∨x.op=2∨x.op=3 then x.num else if x.op=4 then 1 else 0)∧EL k (if x.op=1∨x.op=2∨x.op=3 then x.num else if x.op=4 then 1 else 0)∧x.op≤5:=by
 obtain⟨H,E,F,IM,AR,Bl⟩:=xJ D
 have I:x.op≤6:=adC E F (by rw[r];rfl)
 rw[Ex.ty_eq,if_neg C,r,pv]at i
 rw[if_neg C]at AR
 obtain⟨op,num,name,args⟩:=x
 simp only[Ex.op,Ex.num,Ex.name,Ex.args]at*
 subst AR r
 have OZ:op=1∨op=2∨op=3∨op=4∨op=5:=by omega
 rcases OZ with rfl|rfl|rfl|rfl|rfl
 all_goals
  simp[mH]at i
  subst i
  simp[qN]at IM
 ·refine⟨?_,.inl ⟨.inl rfl, ?_⟩,by decide⟩
  ·simp[yc,oi];omega
  ·simp[bd];omega
 ·refine⟨?_,.inl ⟨.inr rfl, ?_⟩,by decide⟩
  ·simp[yc,oi];omega
  ·simp[bd];omega
 ·refine⟨?_,.inr (.inl ⟨rfl, ?_⟩),by decide⟩
  ·simp[yc,oi]
  ·simpa using IM
 ·refine⟨?_,.inr (.inr ⟨rfl,.inr rfl⟩),by decide⟩
  simp[yc,oi];omega
 ·refine⟨?_,.inr (.inr ⟨rfl,.inl rfl⟩),by decide⟩
  simp[yc,oi];omega
theorem LM{cl:List Nat→Int×Int}{C:List Nat→Int}(Z:NO cl C)(scope:Int)(O: ∀s,ki scope s=0)(x:Ex): ∀k,x.wf=true→x.ty cl scope=(k,0)→x.fold cl (cxv cl C) scope=yc k (x.val0 C)∧EL k (x.val0 C):=by
 induction x using Ex.ind with
 |h x ih=>
  intro k J D
  obtain⟨h1,h2,K,IM,AR,Bl⟩:=xJ J
  rw[Ex.fold_eq,Ex.val0_eq]
  by_cases E:x.op=6
  ·rw[if_pos E,if_pos E]
   rw[Ex.ty_eq,if_pos E,if_neg (by simp[O])]at D
   rw[if_neg (by simp[O])]
   exact⟨by unfold cxv;rw[D],Z _ _ D⟩
  rw[if_neg E,if_neg E]
  by_cases F:x.args.isEmpty=true
  ·rw[if_pos F]
   have mG:x.args= []:=by simpa using F
   obtain⟨i,r,e3⟩:=Zr J D E mG
   by_cases U:x.op=1∨x.op=2∨x.op=3
   ·rw[if_pos U]at i r ⊢; exact⟨i,r⟩
   ·rw[if_neg U]at i r ⊢
    by_cases V:x.op=4
    ·rw[if_pos V]at i r ⊢; exact⟨i,r⟩
    ·rw[if_neg V]at i r ⊢
     rw[if_pos (by omega)];exact⟨i,r⟩
  ·rw[if_neg F]
   have W:x.args.length≠0:=by
    intro h;exact F (by simp[List.length_eq_zero_iff.1 h])
   have h7:=akn h1 K W
   obtain⟨ts,H,X,hk⟩:=xM D E
   have O6:AY ts (kz C x.args)∧(sP cl (cxv cl C) scope x.args).all isLit=true∧(sP cl (cxv cl C) scope x.args).map acy=kz C x.args:=by
    clear D K W F X J IM AR
    generalize x.args=xs at ih H Bl
    induction xs generalizing ts with
    |nil=>rw[pv]at H;cases H;exact⟨trivial,rfl,rfl⟩
    |cons z zs N=>
     obtain⟨t,us,rfl,i,r⟩:=uj H
     rw[sM,Bool.and_eq_true]at Bl
     obtain⟨f1,Y⟩:=ih z (by simp) t Bl.1 i
     obtain⟨g1,g2,g3⟩:=N us (fun y hy=>ih y (by simp[hy])) r Bl.2
     rw[sP,kz,f1]
     obtain⟨_,q1,q2⟩:=I7 (scope:=scope) Y
     refine⟨⟨Y,g1⟩, ?_, ?_⟩
     ·rw[List.all_cons,q1,g2];rfl
     ·rw[List.map_cons,q2,g3]
   obtain⟨i1,i2,i3⟩:=O6
   have I:ts.length=x.args.length:=vF H
   rw[if_pos i2,i3,D,if_neg (by omega),if_neg (by omega),if_neg (by omega)]
   exact⟨rfl,(P3 i1 h7 h2 (by rw[I];exact K) X hk).2⟩
def YO(l:Cs)(r:List Int)(s:List Nat):Int:=match k8 l s with
 |none=>0
 |some i=>r.getD i 0
def tr(l:Cs):Nat→List Int
 |0=> []
 |n+1=>tr l n++ [if(vW (l.take n) (kI l n) (l.getD n ([],.mk 0 0 [] [])).2).2=0 then(l.getD n ([],.mk 0 0 [] [])).2.val0 (YO (l.take n) (tr l n))else 0]
theorem nw(l:Cs): ∀n,(tr l n).length=n
 |0=>rfl
 |n+1=>by rw[tr,List.length_append,nw l n];rfl
theorem LN(l:Cs){n:Nat}(h:n<l.length):tr l (n+1)=tr l n++ [if(vW (l.take n) (kI l n) l[n].2).2=0 then l[n].2.val0 (YO (l.take n) (tr l n))else 0]:=by
 rw[tr,List.getD_eq_getElem?_getD,List.getElem?_eq_getElem h];rfl
theorem Ql(l:Cs)(n:Nat): ∀k,∃r,tr l (n+k)=tr l n++r
 |0=>⟨[],by simp⟩
 |k+1=>by
  obtain⟨r,h⟩:=Ql l n k
  rw[←Nat.add_assoc,tr,h]
  exact⟨_,List.append_assoc _ _ _⟩
theorem Qm(l:Cs){n i:Nat}(C:n≤l.length)(hi:i<n):(tr l n).getD i 0=(tr l l.length).getD i 0:=by
 obtain⟨r,h⟩:=Ql l n (l.length-n)
 rw[show n+(l.length-n)=l.length by omega]at h
 rw[h,List.getD_eq_getElem?_getD,List.getD_eq_getElem?_getD,List.getElem?_append_left (by rw[nw];exact hi)]
def CL(l:Cs)(n:Nat):List Nat→Int×Int:=clk (l.take n) (kI l n)
def VX(l:Cs)(n:Nat):List Nat→Int:=YO (l.take n) (tr l n)
def Is(l:Cs):List Nat→Int×Int:=clk l (kI l l.length)
def mw(l:Cs):List Nat→Int:=YO l (tr l l.length)
theorem BG(l:Cs):CL l l.length=Is l:=by unfold CL Is;rw[List.take_length]
theorem YN(l:Cs):VX l l.length=mw l:=by unfold VX mw;rw[List.take_length]
theorem xK{l:Cs}{n:Nat}(H:n≤l.length){s:List Nat}{t:Int}(h:CL l n s=(t,0)): ∃i,∃hi:i<l.length,i<n∧k8 l s=some i∧iX l[i].2=0∧l[i].2.ty (CL l i) 0=(t,0)∧Is l s=(t,0)∧VX l n s=l[i].2.val0 (VX l i)∧mw l s=l[i].2.val0 (VX l i)∧wa l i=(t,0):=by
 unfold CL clk at h
 rw[xP]at h
 cases C:k8 l s with
 |none=>rw[C]at h;simp at h
 |some i=>
  rw[C]at h
  simp only at h
  by_cases hi:i<n
  ·rw[if_pos hi]at h
   simp only at h
   have E:i<l.length:=IV C
   rw[E8 l H hi]at h
   have r:wa l i=(t,0):=h
   have F:=r
   rw[IX l E]at r
   have FA:=r
   unfold vW at r
   by_cases D:iX l[i].2≠0
   ·rw[if_pos D]at r;injection r with _ r;exact absurd r D
   ·rw[if_neg D]at r
    have I:(tr l l.length).getD i 0=l[i].2.val0 (VX l i):=by
     rw[←Qm l (n:=i+1) (by omega) (by omega),LN l E,List.getD_eq_getElem?_getD,List.getElem?_append_right (by rw[nw];omega),nw,Nat.sub_self,FA]
     rfl
    refine⟨i,E,hi,rfl,by simpa using D,r, ?_, ?_, ?_,F⟩
    ·unfold Is clk;rw[C];exact h
    ·unfold VX YO
     rw[xP,C]
     simp only[if_pos hi]
     rw[Qm l H hi,I];rfl
    ·unfold mw YO;rw[C];exact I
  ·rw[if_neg hi]at h;simp at h
theorem mM(s:List Nat):ki 0 s=0:=by unfold ki;rfl
theorem Zs(l:Cs): ∀n,n≤l.length→NO (CL l n) (VX l n):=by
 intro n
 induction n using Nat.strongRecOn with
 |ind n ih=>
  intro r s t hs
  obtain⟨i,E,hi,_,C,D,_,e,_⟩:=xK r hs
  rw[e]
  exact(LM (ih i hi (by omega)) 0 (fun s=>mM s) l[i].2 t (na C) D).2
theorem IE(l:Cs):NO (Is l) (mw l):=by
 have:=Zs l l.length (Nat.le_refl _)
 rwa [BG,YN]at this
theorem fold_congr{cl Ho:List Nat→Int×Int}{cx C:List Nat→Ex}(scope:Int)(K: ∀s t,cl s=(t,0)→Ho s=(t,0)∧C s=cx s)(x:Ex): ∀k,x.ty cl scope=(k,0)→x.ty Ho scope=(k,0)∧x.fold Ho C scope=x.fold cl cx scope:=by
 induction x using Ex.ind with
 |h x ih=>
  intro k i
  by_cases r:x.op=6
  ·rw[Ex.ty_eq,if_pos r]at i
   rw[Ex.ty_eq,if_pos r,Ex.fold_eq,if_pos r,Ex.fold_eq,if_pos r]
   by_cases D:ki scope x.name≠0
   ·rw[if_pos D]at i ⊢; rw[if_pos D,if_pos D];exact⟨i,rfl⟩
   ·rw[if_neg D]at i ⊢; rw[if_neg D,if_neg D];exact K _ _ i
  ·obtain⟨ts,F,I,N⟩:=xM i r
   have J:pv Ho scope x.args= .ok ts∧sP Ho C scope x.args=sP cl cx scope x.args:=by
    clear i I
    generalize x.args=xs at ih F
    induction xs generalizing ts with
    |nil=>rw[pv]at F;cases F;exact⟨rfl,rfl⟩
    |cons z zs H=>
     obtain⟨t,us,rfl,O,U⟩:=uj F
     obtain⟨V,W⟩:=ih z (by simp) t O
     obtain⟨X,Y⟩:=H us (fun y Z=>ih y (by simp[Z])) U
     rw[pv,sP,sP,V,X,W,Y]
     exact⟨rfl,rfl⟩
   have E:x.ty Ho scope=(k,0):=by
    rw[Ex.ty_eq,if_neg r,J.1]
    show(if mH x.op ts=0 then((0:Int),(9:Int))else(mH x.op ts,0))=(k,0)
    rw[I,if_neg N]
   refine⟨E, ?_⟩
   rw[Ex.fold_eq,Ex.fold_eq,if_neg r,if_neg r,J.2,E,i]
theorem atE{l:Cs}{n:Nat}(C:n≤l.length): ∀s t,CL l n s=(t,0)→Is l s=(t,0)∧cxv (Is l) (mw l) s=cxv (CL l n) (VX l n) s:=fun s t hs=>by
 obtain⟨i,F,hi,_,H,I,r,D,E,_⟩:=xK C hs
 refine⟨r, ?_⟩
 unfold cxv
 rw[r,hs,D,E]
def Zt(l:Cs)(scope:Int)(x:Ex):Ex:=x.fold (Is l) (cxv (Is l) (mw l)) scope
theorem LO{l:Cs}{s:List Nat}{t:Int}(h:Is l s=(t,0)): ∃i,∃hi:i<l.length,k8 l s=some i∧iX l[i].2=0∧l[i].2.ty (CL l i) 0=(t,0)∧l[i].2.ty (Is l) 0=(t,0)∧Zt l 0 l[i].2=yc t (mw l s)∧EL t (mw l s)∧wa l i=(t,0)∧mw l s=(tr l l.length).getD i 0:=by
 have D:=h
 rw[←BG]at D
 obtain⟨i,r,hi,E,F,C,N,O,H,I⟩:=xK (Nat.le_refl _) D
 obtain⟨J,K⟩:=fold_congr 0 (atE (Nat.le_of_lt r)) l[i].2 t C
 refine⟨i,r,E,F,C,J, ?_,IE l s t h,I, ?_⟩
 ·unfold Zt
  rw[K,(LM (Zs l i (Nat.le_of_lt r)) 0 (fun s=>mM s) l[i].2 t (na F) C).1,H]
 ·unfold mw YO;rw[E]
end Go.Proofs.YtblcbheipjeoeaaGreat
