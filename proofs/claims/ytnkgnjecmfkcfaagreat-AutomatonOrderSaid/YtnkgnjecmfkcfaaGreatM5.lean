/- Walks of functions of the program and of the reference, and their plain laws, part 5. Conditions: the theorems' own. -/
import Derived.Test.YtnkgnjecmfkcfaaGreatGS
import Derived.Test.YtnkgnjecmfkcfaaGreatM1
import Derived.Test.YtnkgnjecmfkcfaaGreatM4
import Derived.KernelRfl
set_option maxRecDepth 100000
set_option linter.unusedSimpArgs false
set_option linter.unusedVariables false
set_option maxHeartbeats 16000000
namespace Go.Proofs.YtnkgnjecmfkcfaaGreat
open Go Go.Ev
mutual
def Ex.kX:Ex→Int
 | .mk op _ _ args=>if op=1 then 1 else if op=2 then 2 else if op=3 then 3 else if op=7∨op=8∨op=9∨op=12∨op=13 then a0 (kXL args)else if op=14 then a1 (kXL args)
   else if op=10 then max (a0 (kXL args)) (a1 (kXL args))else if op=11 then(if a1 (kXL args)=2 then 1 else a0 (kXL args))else 4
def kXL:List Ex→List Int
 | []=> []
 |x::xs=>x.kX::kXL xs
end
def Bc(k n:Int):Prop:=((k=1∨k=2)∧bd n)∨(k=3∧0≤n∧n≤1439)∨(k=4∧bit n)
theorem Zm{k n:Int}(h:Bc k n):bd n:=by
 rcases h with⟨_,h⟩|⟨_,h1,h2⟩|⟨_,h⟩
 ·exact h
 ·unfold bd;omega
 ·exact amS h
theorem Gb{n:Int}(h:Bc 4 n):bit n:=by
 rcases h with⟨h|h,_⟩|⟨h,_⟩|⟨_,h⟩
 ·omega
 ·omega
 ·omega
 ·exact h
theorem xi{k n:Int}(h:k=1∨k=2)(r:bd n):Bc k n:= .inl ⟨h,r⟩
def nc:List Nat→Int×Int:=fun _=>(0,6)
def FK(scope k:Int)(y:Ex):Prop:=y.wf=true∧y.ty nc scope=(k,0)
theorem FK.node{scope k:Int}{y:Ex}(h:FK scope k y):1≤y.op∧y.op≤22∧dB y.op y.args.length=true∧(0≤y.num∧y.num≤Di y.op)∧(if y.op=6 then EV y.name=true else y.name= [])∧EW y.args=true:=by
 have:=h.1
 simp_all[Ex.wf_eq,Bool.and_eq_true,qg]
def R8(scope:Int):List Int→List Ex→Prop
 | [],[]=>True
 |t::ts,y::r=>FK scope t y∧R8 scope ts r
 |_,_=>False
theorem R8.len{scope:Int}: ∀{ts:List Int} {r:List Ex},R8 scope ts r→ts.length=r.length
 | [],[],_=>rfl
 |t::ts,y::r,h=>by rw[List.length_cons,List.length_cons,R8.len h.2]
theorem R8.wf{scope:Int}: ∀{ts:List Int} {r:List Ex},R8 scope ts r→EW r=true
 | [],[],_=>rfl
 |t::ts,y::r,h=>by rw[EW,h.1.1,R8.wf h.2];rfl
theorem R8.ty{scope:Int}: ∀{ts:List Int} {r:List Ex},R8 scope ts r→ku nc scope r= .ok ts
 | [],[],_=>by rw[ku]
 |t::ts,y::r,h=>by
  rw[ku,h.1.2,R8.ty h.2];rfl
theorem FK.mk{scope k:Int}{op:Int}{D:List Ex}{ts:List Int}(h1:1≤op)(h2:op≤22)(h6:op≠6)(F:dB op D.length=true)(r:R8 scope ts D)(hr:lI op ts=k)(hk:k≠0):FK scope k (.mk op 0 [] D):=by
 constructor
 ·rw[Ex.wf_eq,Bool.and_eq_true]
  refine⟨?_,r.wf⟩
  have H:0≤Di op:=by unfold Di;split <;> (try split) <;> decide
  simp only[qg,Bool.and_eq_true,decide_eq_true_eq]
  refine⟨h1,h2,F,⟨Int.le_refl _,H⟩, ?_⟩
  show(if op=6 then EV []else decide (([]:List Nat)= []))=true
  grind
 ·rw[Ex.ty_eq]
  show(if op=6 then _ else match ku nc scope D with| .error e=>(0,e)| .ok ts=>if lI op ts=0 then(0,9)else(lI op ts,0))=(k,0)
  rw[if_neg h6,r.ty]
  grind
theorem FK.leaf{scope k op num:Int}(h:(op=1∧k=1∧0≤num∧num≤1099511627776)∨(op=2∧k=2∧0≤num∧num≤1099511627776)∨(op=3∧k=3∧0≤num∧num≤1439)∨(op=4∧k=4∧num=0)∨(op=5∧k=4∧num=0)):FK scope k (gv op num):=by
 have r:(gv op num).wf=qg op num [] 0:=by rw[Ex.wf_eq];simp[gv,Ex.op,Ex.num,Ex.name,Ex.args,EW]
 have D:op≠6→(gv op num).ty nc scope=if lI op []=0 then(0,9)else(lI op [],0):=fun h6=>by
  grind [Ex.ty_eq,gv,Ex.op,Ex.args,ku]
 constructor
 ·rw[r]
  simp only[qg,Bool.and_eq_true,decide_eq_true_eq]
  rcases h with⟨rfl,rfl,h1,h2⟩|⟨rfl,rfl,h1,h2⟩|⟨rfl,rfl,h1,h2⟩|⟨rfl,rfl,rfl⟩|⟨rfl,rfl,rfl⟩
  ·exact⟨by decide,by decide,rfl,⟨h1,h2⟩,rfl⟩
  ·exact⟨by decide,by decide,rfl,⟨h1,h2⟩,rfl⟩
  ·exact⟨by decide,by decide,rfl,⟨h1,h2⟩,rfl⟩
  ·exact⟨by decide,by decide,rfl,⟨by decide,by decide⟩,rfl⟩
  ·exact⟨by decide,by decide,rfl,⟨by decide,by decide⟩,rfl⟩
 ·rcases h with⟨rfl,rfl,h1,h2⟩|⟨rfl,rfl,h1,h2⟩|⟨rfl,rfl,h1,h2⟩|⟨rfl,rfl,rfl⟩|⟨rfl,rfl,rfl⟩ <;> rw[D zz] <;> rfl
theorem Ge{scope k n:Int}(h:Bc k n):FK scope k (rH k n)∧isLit (rH k n)=true∧adi (rH k n)=n:=by
 unfold rH
 rcases h with⟨hk,hb⟩|⟨rfl,h1,h2⟩|⟨rfl,hb⟩
 ·have h4:k≠4:=zZ
  have h3:k≠3:=zZ
  rw[if_neg h4,if_neg h3]
  unfold bd at hb
  by_cases h0:n<0
  ·rw[if_pos h0]
   rcases hk with rfl|rfl
   ·refine⟨FK.mk (ts:= [1]) zz zz zz rfl ⟨FK.leaf (.inl ⟨rfl,rfl,by omega,by omega⟩),trivial⟩ rfl zz,rfl, ?_⟩
    show- -n=n;omega
   ·refine⟨FK.mk (ts:= [2]) zz zz zz rfl ⟨FK.leaf (.inr (.inl ⟨rfl,rfl,by omega,by omega⟩)),trivial⟩ rfl zz,rfl, ?_⟩
    show- -n=n;omega
  ·rw[if_neg h0]
   rcases hk with rfl|rfl
   ·exact⟨FK.leaf (.inl ⟨rfl,rfl,by omega,by omega⟩),rfl,rfl⟩
   ·exact⟨FK.leaf (.inr (.inl ⟨rfl,rfl,by omega,by omega⟩)),rfl,rfl⟩
 ·rw[if_neg zz,if_pos rfl]
  exact⟨FK.leaf (.inr (.inr (.inl ⟨rfl,rfl,h1,h2⟩))),rfl,rfl⟩
 ·rw[if_pos rfl]
  rcases hb with rfl|rfl
  ·exact⟨FK.leaf (.inr (.inr (.inr (.inr ⟨rfl,rfl,rfl⟩)))),rfl,rfl⟩
  ·exact⟨FK.leaf (.inr (.inr (.inr (.inl ⟨rfl,rfl,rfl⟩)))),rfl,rfl⟩
theorem Gf{cl:List Nat→Int×Int}{scope:Int}: ∀{xs:List Ex} {e:Int},ku cl scope xs= .error e→e≠0
 | [],e,h=>by grind [ku]
 |x::xs,e,h=>by
  rw[ku]at h
  split at h
  ·grind
  ·cases hx:ku cl scope xs with
   |error r=>rw[hx]at h;cases h;exact Gf hx
   |ok us=>grind
theorem FK.arg{scope k:Int}{y:Ex}(h:FK scope k y)(h6:y.op≠6): ∃ts,R8 scope ts y.args∧lI y.op ts=k∧k≠0:=by
 obtain⟨h1,h2,I,Cf,J,H⟩:=h.node
 have r:=h.2
 rw[Ex.ty_eq,if_neg h6]at r
 cases hr:ku nc scope y.args with
 |error e=>
  rw[hr]at r
  have D:((0:Int),e)=(k,0):=r
  injection D with _ h0
  exact absurd h0 (Gf hr)
 |ok ts=>
  rw[hr]at r
  have D:(if lI y.op ts=0 then((0:Int),(9:Int))else(lI y.op ts,0))=(k,0):=r
  split at D
  ·cases D
  ·rename_i F
   have e1:lI y.op ts=k:=by injection D
   refine⟨ts, ?_,e1,by rw[←e1];exact F⟩
   clear r D e1 F I Cf J h1 h2 h
   generalize y.args=ys at hr H
   induction ys generalizing ts with
   |nil=>rw[ku]at hr;cases hr;trivial
   |cons z K ih=>
    rw[EW,Bool.and_eq_true]at H
    rw[ku]at hr
    split at hr
    ·cases hr
    ·rename_i h0
     cases hx:ku nc scope K with
     |error e=>rw[hx]at hr;cases hr
     |ok us=>
      rw[hx]at hr;cases hr
      refine⟨⟨H.1, ?_⟩,ih us hx H.2⟩
      have e2:(z.ty nc scope).2=0:=by simpa using h0
      rw[←e2]
def vH:List Int→List Int→Prop
 | [],[]=>True
 |t::ts,v::r=>Bc t v∧vH ts r
 |_,_=>False
theorem vH.len: ∀{ts r:List Int},vH ts r→ts.length=r.length
 | [],[],_=>rfl
 |t::ts,v::r,h=>by rw[List.length_cons,List.length_cons,vH.len h.2]
theorem vH.bd: ∀{ts r:List Int},vH ts r→ ∀v∈r,bd v
 | [],[],_=>by simp
 |t::ts,v::r,h=>by
  intro w hw
  rcases List.mem_cons.1 hw with rfl|hw
  ·exact Zm h.1
  ·exact vH.bd h.2 w hw
theorem vH.all{k:Int}: ∀{ts r:List Int},vH ts r→iv ts k=true→ ∀v∈r,Bc k v
 | [],[],_,_=>by simp
 |t::ts,v::r,h,D=>by
  rw[nU,Bool.and_eq_true,decide_eq_true_eq]at D
  intro w hw
  rcases List.mem_cons.1 hw with rfl|hw
  ·rw[←D.1];exact h.1
  ·exact vH.all h.2 D.2 w hw
theorem Mp(op:Int)(h:op=12∨op=13): ∀(r:List Int) (m:Int),bd m→(∀v∈r,bd v)→bd (Mn op m r)
 | [],m,D,_=>by rw[F9];exact D
 |v::r,m,D,F=>by
  rw[By _ _ _ _ h]
  refine Mp op h r _ ?_ (fun w H=>F w (by simp[H]))
  grind
theorem k12{ts:List Int}{k:Int}(h:(if iv ts 1=true then(1:Int)else if iv ts 2=true then 2 else 0)=k)(hk:k≠0):k=1∨k=2:=by
 grind
theorem JX{op a b k:Int}(h:Ix op a b=k)(hk:k≠0):k=1∨k=2:=by
 grind [Ix]
theorem X1{op k:Int}{ts F:List Int}(K:vH ts F)(W:7≤op)(Gt:op≤22)(I:dB op ts.length=true)(hr:lI op ts=k)(hk:k≠0):vOk op F∧Bc k (EY op F):=by
 have D:=K.bd
 have hlen:=K.len
 have H: ∀b:Bool,Bc 4 (mj b):=fun b=> .inr (.inr ⟨rfl,RA b⟩)
 rcases vz (show 1≤op by omega) Gt with rfl|rfl|rfl|rfl|rfl|rfl|rfl|rfl|rfl|rfl|rfl|rfl|rfl|rfl|rfl|rfl|rfl|rfl|rfl|rfl|rfl|rfl
 iterate 6 ·omega
 ·have R6:=k12 hr hk
  obtain⟨v,rfl⟩:=Mf (ts:=F) (by rw[←hlen];simpa[dB]using I)
  exact⟨⟨D,fun h=>absurd h zz,fun h=>absurd h zz⟩,xi R6 (tb (D v zP))⟩
 ·have R6:=k12 hr hk
  obtain⟨v,w,rfl⟩:=nS (ts:=F) (by rw[←hlen];simpa[dB]using I)
  exact⟨⟨D,fun h=>absurd h zz,fun h=>absurd h zz⟩,xi R6 (ry _)⟩
 ·have R6:=k12 hr hk
  obtain⟨v,w,rfl⟩:=nS (ts:=F) (by rw[←hlen];simpa[dB]using I)
  exact⟨⟨D,fun h=>absurd h zz,fun h=>absurd h zz⟩,xi R6 (ry _)⟩
 ·have R6:=JX (op:=10) hr hk
  obtain⟨v,w,rfl⟩:=nS (ts:=F) (by rw[←hlen];simpa[dB]using I)
  exact⟨⟨D,fun h=>absurd h zz,fun h=>absurd h zz⟩,xi R6 (ry _)⟩
 ·have R6:=JX (op:=11) hr hk
  obtain⟨v,w,rfl⟩:=nS (ts:=F) (by rw[←hlen];simpa[dB]using I)
  exact⟨⟨D,fun h=>absurd h zz,fun h=>absurd h zz⟩,xi R6 (aeK _ _)⟩
 iterate 2
  ·have R6:=k12 hr hk
   match F,D,hlen with
   | [],_,hlen=>rw[hlen]at I;simp[dB]at I
   |v::F,D,_=>
    refine⟨⟨D,fun h=>absurd h zz,fun h=>absurd h zz⟩,xi R6 ?_⟩
    first
     |exact Mp 12 (.inl rfl) F v (D v zP) (fun w O=>D w (by simp[O]))
     |exact Mp 13 (.inr rfl) F v (D v zP) (fun w O=>D w (by simp[O]))
 ·obtain⟨a,b,c,rfl⟩:=Mg (ts:=ts) (by simpa[dB]using I)
  obtain⟨x,y,z,rfl⟩:=Mg (ts:=F) (by rw[←hlen];rfl)
  obtain⟨h1,h2,h3,_⟩:=K
  have r:(if a=4∧b=c then b else 0)=k:=hr
  split at r
  ·rename_i U
   obtain⟨rfl,rfl⟩:=U
   subst r
   have JV:=Gb h1
   refine⟨⟨D,fun h=>absurd h zz,fun _=>JV⟩, ?_⟩
   show Bc b (if x=0 then z else y)
   split
   ·exact h3
   ·exact h2
  ·exact absurd r.symm hk
 ·have r:(if iv ts 3=true then(4:Int)else 0)=k:=hr
  split at r
  ·subst r
   exact⟨⟨D,fun h=>absurd h zz,fun h=>absurd h zz⟩,H _⟩
  ·exact absurd r.symm hk
 iterate 2
  ·have r:(if(a0 ts=1∨a0 ts=2)∧a0 ts=a1 ts then(4:Int)else 0)=k:=hr
   split at r
   ·subst r
    exact⟨⟨D,fun h=>absurd h zz,fun h=>absurd h zz⟩,H _⟩
   ·exact absurd r.symm hk
 ·have r:(if a0 ts=a1 ts then(4:Int)else 0)=k:=hr
  split at r
  ·subst r
   exact⟨⟨D,fun h=>absurd h zz,fun h=>absurd h zz⟩,H _⟩
  ·exact absurd r.symm hk
 ·have r:(if iv ts 4=true then(4:Int)else 0)=k:=hr
  split at r
  ·rename_i V
   subst r
   have J:=fun v N=>Gb (K.all V v N)
   obtain⟨v,rfl⟩:=Mf (ts:=F) (by rw[←hlen];simpa[dB]using I)
   have N:=J v zP
   refine⟨⟨D,fun _=>J,fun h=>absurd h zz⟩,.inr (.inr ⟨rfl, ?_⟩)⟩
   show bit (1-v)
   unfold bit at *; omega
  ·exact absurd r.symm hk
 iterate 3
  ·have r:(if iv ts 4=true then(4:Int)else 0)=k:=hr
   split at r
   ·rename_i V
    subst r
    have J:=fun v N=>Gb (K.all V v N)
    obtain⟨v,w,rfl⟩:=nS (ts:=F) (by rw[←hlen];simpa[dB]using I)
    have N:=J v zP
    have O:=J w zP
    refine⟨⟨D,fun _=>J,fun h=>absurd h zz⟩,.inr (.inr ⟨rfl, ?_⟩)⟩
    first
     |(show bit (min v w);unfold bit at *; omega)
     |(show bit (max v w);unfold bit at *; omega)
     |(show bit (max (1-v) w);unfold bit at *; omega)
   ·exact absurd r.symm hk
theorem FK.not{scope k:Int}{y:Ex}(h:FK scope k y)(Fy:y.op=19):k=4∧FK scope 4 (y.args.headD (gv 0 0)):=by
 obtain⟨_,_,F,_⟩:=h.node
 obtain⟨ts,r,hr,hk⟩:=h.arg zZ
 have hlen:y.args.length=1:=by rw[Fy]at F;simpa[dB]using F
 rw[Fy]at hr
 have H:(if iv ts 4=true then(4:Int)else 0)=k:=hr
 split at H
 ·rename_i D
  refine⟨H.symm, ?_⟩
  generalize y.args=l at r hlen
  match l,ts,r,hlen,D with
  | [z],[t],r,_,D=>
    rw[nU,Bool.and_eq_true,decide_eq_true_eq]at D
    rw[←D.1];exact r.1
 ·grind
theorem Ex.fold_eq(cl:List Nat→Int×Int)(cx:List Nat→Ex)(scope:Int)(x:Ex):x.fold cl cx scope=
  if x.op=6 then(if dt scope x.name≠0 then x else cx x.name)
  else if x.args.isEmpty then x
  else if(ml cl cx scope x.args).all isLit then rH (x.ty cl scope).1 (EY x.op ((ml cl cx scope x.args).map adi))
  else awB x.op (ml cl cx scope x.args):=by obtain⟨_,_,_,_⟩:=x;rw[Ex.fold];rfl
theorem ve{cl:List Nat→Int×Int}{scope k:Int}{x:Ex}(r:x.ty cl scope=(k,0))(h6:x.op≠6): ∃ts,ku cl scope x.args= .ok ts∧lI x.op ts=k∧k≠0:=by
 rw[Ex.ty_eq,if_neg h6]at r
 cases hr:ku cl scope x.args with
 |error e=>
  rw[hr]at r
  have D:((0:Int),e)=(k,0):=r
  injection D with _ h0
  exact absurd h0 (Gf hr)
 |ok ts=>
  grind
theorem nW{cl:List Nat→Int×Int}{scope:Int}{x:Ex}{xs:List Ex}{ts:List Int}(h:ku cl scope (x::xs)= .ok ts): ∃t us,ts=t::us∧x.ty cl scope=(t,0)∧ku cl scope xs= .ok us:=by
 grind [ku]
theorem u9{x:Ex}(h:x.wf=true):1≤x.op∧x.op≤22∧dB x.op x.args.length=true∧(0≤x.num∧x.num≤Di x.op)∧(if x.op=6 then EV x.name=true else x.name= [])∧EW x.args=true:=by
 simp_all[Ex.wf_eq,Bool.and_eq_true,qg]
theorem amW{op:Int}{n:Nat}(h1:1≤op)(r:dB op n=true)(D:n≠0):7≤op:=by
 grind [dB]
theorem aeM{op:Int}{n:Nat}(h2:op≤22)(r:dB op n=true)(D:n=0):op≤6:=by
 grind [dB]
mutual
def Ex.val0(r:List Nat→Int):Ex→Int
 | .mk op num name args=>if op=6 then r name else if op=1∨op=2∨op=3 then num else if op=4 then 1 else if op=5 then 0 else EY op (ft r args)
def ft(r:List Nat→Int):List Ex→List Int
 | []=> []
 |x::xs=>x.val0 r::ft r xs
end
theorem Ex.val0_eq(r:List Nat→Int)(x:Ex):x.val0 r=if x.op=6 then r x.name else if x.op=1∨x.op=2∨x.op=3 then x.num else if x.op=4 then 1 else if x.op=5 then 0 else EY x.op (ft r x.args):=by obtain⟨_,_,_,_⟩:=x;rw[Ex.val0];rfl
theorem wY(r:List Nat→Int): ∀xs,ft r xs=xs.map (Ex.val0 r)
 | []=>rfl
 |x::xs=>by rw[ft,wY r xs];rfl
def cxv(cl:List Nat→Int×Int)(r:List Nat→Int)(s:List Nat):Ex:=rH (cl s).1 (r s)
def LJ(cl:List Nat→Int×Int)(r:List Nat→Int):Prop:= ∀s t,cl s=(t,0)→Bc t (r s)
theorem Zn{cl:List Nat→Int×Int}{scope:Int}{x:Ex}{k:Int}(I:x.wf=true)(D:x.ty cl scope=(k,0))(h6:x.op≠6)(r:x.args= []):x=rH k (if x.op=1∨x.op=2∨x.op=3 then x.num else if x.op=4 then 1 else 0)∧Bc k (if x.op=1∨x.op=2∨x.op=3 then x.num else if x.op=4 then 1 else 0)∧x.op≤5:=by
 obtain⟨h1,h2,J,Cf,H,K⟩:=u9 I
 have h5:x.op≤6:=aeM h2 J (by rw[r];rfl)
 rw[Ex.ty_eq,if_neg h6,r,ku]at D
 rw[if_neg h6]at H
 obtain⟨op,num,name,args⟩:=x
 simp only[Ex.op,Ex.num,Ex.name,Ex.args]at*
 subst H r
 have F:op=1∨op=2∨op=3∨op=4∨op=5:=zZ
 rcases F with rfl|rfl|rfl|rfl|rfl
 all_goals
  simp[lI]at D
  subst D
  simp[Di]at Cf
 ·refine⟨?_,.inl ⟨.inl rfl, ?_⟩,by decide⟩
  ·simp[rH,gv];omega
  ·simp[bd];omega
 ·refine⟨?_,.inl ⟨.inr rfl, ?_⟩,by decide⟩
  ·simp[rH,gv];omega
  ·simp[bd];omega
 ·refine⟨?_,.inr (.inl ⟨rfl, ?_⟩),by decide⟩
  ·simp[rH,gv]
  ·simpa using Cf
 ·refine⟨?_,.inr (.inr ⟨rfl,.inr rfl⟩),by decide⟩
  simp[rH,gv];omega
 ·refine⟨?_,.inr (.inr ⟨rfl,.inl rfl⟩),by decide⟩
  simp[rH,gv];omega
theorem JY{cl:List Nat→Int×Int}{D:List Nat→Int}(hc:LJ cl D)(scope:Int)(U: ∀s,dt scope s=0)(x:Ex): ∀k,x.wf=true→x.ty cl scope=(k,0)→x.fold cl (cxv cl D) scope=rH k (x.val0 D)∧Bc k (x.val0 D):=by
 induction x using Ex.ind with
 |h x ih=>
  intro k V F
  obtain⟨h1,h2,J,Cf,X,I⟩:=u9 V
  rw[Ex.fold_eq,Ex.val0_eq]
  by_cases h6:x.op=6
  ·rw[if_pos h6,if_pos h6]
   rw[Ex.ty_eq,if_pos h6,if_neg (by simp[U])]at F
   rw[if_neg (by simp[U])]
   exact⟨by unfold cxv;rw[F],hc _ _ F⟩
  rw[if_neg h6,if_neg h6]
  by_cases K:x.args.isEmpty=true
  ·grind [Zn]
  ·rw[if_neg K]
   have H:x.args.length≠0:=by
    intro h;exact K (by simp[List.length_eq_zero_iff.1 h])
   have Y:=amW h1 J H
   obtain⟨ts,r,hr,hk⟩:=ve F h6
   have N:vH ts (ft D x.args)∧(ml cl (cxv cl D) scope x.args).all isLit=true∧(ml cl (cxv cl D) scope x.args).map adi=ft D x.args:=by
    clear F J H K hr V Cf X
    generalize x.args=xs at ih r I
    induction xs generalizing ts with
    |nil=>rw[ku]at r;cases r;exact⟨trivial,rfl,rfl⟩
    |cons z zs O=>
     obtain⟨t,us,rfl,e1,e2⟩:=nW r
     rw[EW,Bool.and_eq_true]at I
     obtain⟨Z,W⟩:=ih z zP t I.1 e1
     obtain⟨g1,g2,g3⟩:=O us (fun y hy=>ih y (by simp[hy])) e2 I.2
     rw[ml,ft,Z]
     obtain⟨_,q1,q2⟩:=Ge (scope:=scope) W
     refine⟨⟨W,g1⟩, ?_, ?_⟩
     ·rw[List.all_cons,q1,g2];rfl
     ·rw[List.map_cons,q2,g3]
   obtain⟨i1,i2,i3⟩:=N
   have hlen:ts.length=x.args.length:=vf r
   rw[if_pos i2,i3,F,if_neg zZ,if_neg zZ,if_neg zZ]
   exact⟨rfl,(X1 i1 Y h2 (by rw[hlen];exact J) hr hk).2⟩
def vxk(l:Cs)(r:List Int)(s:List Nat):Int:=match eU l s with
 |none=>0
 |some i=>r.getD i 0
def sd(l:Cs):Nat→List Int
 |0=> []
 |n+1=>sd l n++ [if(EX (l.take n) (iM l n) (l.getD n ([],.mk 0 0 [] [])).2).2=0 then(l.getD n ([],.mk 0 0 [] [])).2.val0 (vxk (l.take n) (sd l n))else 0]
theorem kV(l:Cs): ∀n,(sd l n).length=n
 |0=>rfl
 |n+1=>by rw[sd,List.length_append,kV l n];rfl
theorem Zp(l:Cs){n:Nat}(h:n<l.length):sd l (n+1)=sd l n++ [if(EX (l.take n) (iM l n) l[n].2).2=0 then l[n].2.val0 (vxk (l.take n) (sd l n))else 0]:=by
 rw[sd,List.getD_eq_getElem?_getD,List.getElem?_eq_getElem h];rfl
theorem OK(l:Cs)(n:Nat): ∀k,∃r,sd l (n+k)=sd l n++r
 |0=>⟨[],by simp⟩
 |k+1=>by
  obtain⟨r,h⟩:=OK l n k
  grind [Nat.add_assoc,sd]
theorem OL(l:Cs){n i:Nat}(D:n≤l.length)(hi:i<n):(sd l n).getD i 0=(sd l l.length).getD i 0:=by
 obtain⟨r,h⟩:=OK l n (l.length-n)
 grind [kV,hi]
def CL(l:Cs)(n:Nat):List Nat→Int×Int:=clk (l.take n) (iM l n)
def VX(l:Cs)(n:Nat):List Nat→Int:=vxk (l.take n) (sd l n)
def E0(l:Cs):List Nat→Int×Int:=clk l (iM l l.length)
def fm(l:Cs):List Nat→Int:=vxk l (sd l l.length)
theorem wU(l:Cs):CL l l.length=E0 l:=by grind [CL,E0]
theorem XY(l:Cs):VX l l.length=fm l:=by grind [VX,fm]
theorem vd{l:Cs}{n:Nat}(J:n≤l.length){s:List Nat}{t:Int}(h:CL l n s=(t,0)): ∃i,∃hi:i<l.length,i<n∧eU l s=some i∧bJ l[i].2=0∧l[i].2.ty (CL l i) 0=(t,0)∧E0 l s=(t,0)∧VX l n s=l[i].2.val0 (VX l i)∧fm l s=l[i].2.val0 (VX l i)∧rR l i=(t,0):=by
 unfold CL clk at h
 rw[xc]at h
 cases D:eU l s with
 |none=>grind
 |some i=>
  rw[D]at h
  simp only at h
  by_cases hi:i<n
  ·rw[if_pos hi]at h
   simp only at h
   have H:i<l.length:=OC D
   rw[Bw l J hi]at h
   have r:rR l i=(t,0):=h
   have I:=r
   rw[F2 l H]at r
   have BW:=r
   unfold EX at r
   by_cases F:bJ l[i].2≠0
   ·rw[if_pos F]at r;injection r with _ r;exact absurd r F
   ·rw[if_neg F]at r
    have K:(sd l l.length).getD i 0=l[i].2.val0 (VX l i):=by
     rw[←OL l (n:=i+1) zZ zZ,Zp l H,List.getD_eq_getElem?_getD,List.getElem?_append_right (by rw[kV];omega),kV,Nat.sub_self,BW]
     rfl
    refine⟨i,H,hi,rfl,by simpa using F,r, ?_, ?_, ?_,I⟩
    ·unfold E0 clk;rw[D];exact h
    ·unfold VX vxk
     rw[xc,D]
     simp only[if_pos hi]
     rw[OL l J hi,K];rfl
    ·unfold fm vxk;rw[D];exact K
  ·grind
theorem jx(s:List Nat):dt 0 s=0:=by unfold dt;rfl
theorem ah7(l:Cs): ∀n,n≤l.length→LJ (CL l n) (VX l n):=by
 intro n
 induction n using Nat.strongRecOn with
 |ind n ih=>
  intro r s t hs
  obtain⟨i,H,hi,_,D,F,_,e,_⟩:=vd r hs
  rw[e]
  exact(JY (ih i hi zZ) 0 (fun s=>jx s) l[i].2 t (gz D) F).2
theorem Fi(l:Cs):LJ (E0 l) (fm l):=by
 have:=ah7 l l.length (Nat.le_refl _)
 rwa [wU,XY]at this
theorem fold_congr{cl DM:List Nat→Int×Int}{cx D:List Nat→Ex}(scope:Int)(hc: ∀s t,cl s=(t,0)→DM s=(t,0)∧D s=cx s)(x:Ex): ∀k,x.ty cl scope=(k,0)→x.ty DM scope=(k,0)∧x.fold DM D scope=x.fold cl cx scope:=by
 induction x using Ex.ind with
 |h x ih=>
  intro k H
  by_cases h6:x.op=6
  ·grind [Ex.ty_eq,Ex.fold_eq]
  ·obtain⟨ts,r,hr,hk⟩:=ve H h6
   have hl:ku DM scope x.args= .ok ts∧ml DM D scope x.args=ml cl cx scope x.args:=by
    clear H hr
    generalize x.args=xs at ih r
    induction xs generalizing ts with
    |nil=>rw[ku]at r;cases r;exact⟨rfl,rfl⟩
    |cons z U F=>
     obtain⟨t,us,rfl,e1,e2⟩:=nW r
     obtain⟨I,J⟩:=ih z zP t e1
     obtain⟨K,N⟩:=F us (fun y O=>ih y (by simp[O])) e2
     rw[ku,ml,ml,I,K,J,N]
     exact⟨rfl,rfl⟩
   grind [Ex.ty_eq,Ex.fold_eq]
theorem ayf{l:Cs}{n:Nat}(r:n≤l.length): ∀s t,CL l n s=(t,0)→E0 l s=(t,0)∧cxv (E0 l) (fm l) s=cxv (CL l n) (VX l n) s:=fun s t hs=>by
 grind [cxv,vd]
def Zq(l:Cs)(scope:Int)(x:Ex):Ex:=x.fold (E0 l) (cxv (E0 l) (fm l)) scope
theorem JZ{l:Cs}{s:List Nat}{t:Int}(h:E0 l s=(t,0)): ∃i,∃hi:i<l.length,eU l s=some i∧bJ l[i].2=0∧l[i].2.ty (CL l i) 0=(t,0)∧l[i].2.ty (E0 l) 0=(t,0)∧Zq l 0 l[i].2=rH t (fm l s)∧Bc t (fm l s)∧rR l i=(t,0)∧fm l s=(sd l l.length).getD i 0:=by
 have F:=h
 rw[←wU]at F
 obtain⟨i,r,hi,H,I,D,J,e1,e2,e3⟩:=vd (Nat.le_refl _) F
 obtain⟨c1,c2⟩:=fold_congr 0 (ayf (Nat.le_of_lt r)) l[i].2 t D
 refine⟨i,r,H,I,D,c1, ?_,Fi l s t h,e3, ?_⟩
 ·unfold Zq
  rw[c2,(JY (ah7 l i (Nat.le_of_lt r)) 0 (fun s=>jx s) l[i].2 t (gz I) D).1,e2]
 ·unfold fm vxk;rw[H]
def dD(ns:List (List Nat))(i:Nat):List (List Nat×Nat):=(ns.take i).zipIdx
theorem Zr{ns:List (List Nat)}{i:Nat}(hi:i<ns.length):dD ns (i+1)=dD ns i++ [(ns[i],i)]:=by
 unfold dD
 rw[List.take_succ_eq_append_getElem hi,List.zipIdx_append]
 simp[List.length_take,Nat.min_eq_left (Nat.le_of_lt hi)]
theorem Zs{ns:List (List Nat)}(D:ns.Nodup){i:Nat}(hi:i<ns.length):aM (dD ns i) ns[i]=none:=by
 have F: ∀(m:List (List Nat×Nat)) (s:List Nat),(∀p∈m,p.1≠s)→aM m s=none:=by
  intro m s h
  induction m with
  |nil=>rfl
  |cons p m ih=>
   rw[aM,if_neg (fun e=>h p (List.mem_cons_self ..) e.symm)]
   exact ih fun q I=>h q (List.mem_cons_of_mem _ I)
 refine F _ _ fun p J e=> ?_
 have H:p.1∈ns.take i:=List.fst_mem_of_mem_zipIdx J
 rw[e]at H
 obtain⟨j,K,r⟩:=List.getElem_of_mem H
 rw[List.length_take]at K
 rw[List.getElem_take]at r
 exact List.pairwise_iff_getElem.1 D j i zZ hi zZ r
def jT(lT:T)(m:List (List Nat×Nat))(kn:List (Nat×Int))(c0 c1 c2 c3:T)(ms:List (List (List Nat×Nat))):List ah:=
 ⟨1,.map (m.map fun p=>sK p.1) (m.map fun p=>nK p.2) false⟩::⟨1,.map (kn.map fun p=>nK p.1) (kn.map fun p=>iV p.2) false⟩::⟨1,.cells [lT,.mp .S 0 1,.mp .S 1 1,c0,c1,c2,c3] 0 true⟩::ms.map fun p=>⟨1,.map (p.map fun p=>sK p.1) (p.map fun p=>nK p.2) false⟩
section
variable(lT:T)(m:List (List Nat×Nat))(kn:List (Nat×Int))(c0 c1 c2 c3:T)(ms:List (List (List Nat×Nat)))
theorem cp0:aI (jT lT m kn c0 c1 c2 c3 ms) 0=⟨1,.map (m.map fun p=>sK p.1) (m.map fun p=>nK p.2) false⟩:=nr rfl
theorem cp2:aI (jT lT m kn c0 c1 c2 c3 ms) 2=⟨1,.cells [lT,.mp .S 0 1,.mp .S 1 1,c0,c1,c2,c3] 0 true⟩:=nr rfl
theorem aEq(r:List (List Nat×Nat)):bD (jT lT m kn c0 c1 c2 c3 ms) 0 ⟨1,.map (r.map fun p=>sK p.1) (r.map fun p=>nK p.2) false⟩=jT lT r kn c0 c1 c2 c3 ms:=nr rfl
theorem aeN(r D F H:T):bD (jT lT m kn c0 c1 c2 c3 ms) 2 ⟨1,.cells [lT,.mp .S 0 1,.mp .S 1 1,r,D,F,H] 0 true⟩=jT lT m kn r D F H ms:=nr rfl
theorem ayg:jT lT [] [] .nilmp .nilmp .nilmp .nilmp []= [⟨1,.map [] [] false⟩,⟨1,.map [] [] false⟩,⟨1,.cells [lT,.mp .S 0 1,.mp .S 1 1,.nilmp,.nilmp,.nilmp,.nilmp] 0 true⟩]:=nr rfl
end
section
variable(l:Cs)(lT:T)(cl:List T)(hl:IsSl lT l.length cl)(hcl:cW l cl)(hlen:l.length≤iP)
include hl hcl hlen
theorem aEr(fr:Fr)(lh:aE ah)(sh:List ah)(V:sh=jT lT [] [] .nilmp .nilmp .nilmp .nilmp [])
  (h3:aa fr 3= .ptr .S 2 1 0) (F:aa fr 16=lT) (D:aa fr 17= .i .i64 (l.length:Int)) (H:aa fr 18= .i .i64 0):
  uL 71 sv fr lh sh (.ext 0)∧
  (jw pE 71 sv fr lh sh=jT lT (bA l l.length) [] .nilmp .nilmp .nilmp .nilmp []):=by
 refine cj (P:=fun Y aU W=>W=jT lT (bA l l.length) [] .nilmp .nilmp .nilmp .nilmp [])
  (cU (fun k st=> ∃(fr:Fr) (N:aE ah),st=⟨fr,N,jT lT (bA l k) [] .nilmp .nilmp .nilmp .nilmp []⟩∧aa fr 3= .ptr .S 2 1 0∧aa fr 16=lT∧aa fr 17= .i .i64 (l.length:Int)∧aa fr 18= .i .i64 (k:Int)) _ l.length ?_ ?_ 0 _ (Nat.zero_le _) ⟨fr,lh,by rw[V];rfl,h3,F,D,H⟩)
 ·rintro k _ hk ⟨fr,N,rfl,h3,F,D,H⟩
  left
  have J:(k:Int)<l.length:=zZ
  have U:=ba (k:=k) zZ
  obtain⟨b,Z,r,K,eW,te,hb⟩:=fS hl hcl k hk
  have I:=lkS (bA l k) l[k].1
  rw[xg l hk]
  cases O:aM (bA l k) l[k].1 with
  |some i=>
   rw[O]at I
   unfold R7 at I
   simp only[qA,seval,bj,aH,dn,sv,h3,F,D,H,J,K,U,cp2,cp0,bO,I]
   refine⟨_,rfl,_,_,rfl, ?_, ?_, ?_, ?_⟩ <;> simp only[qA,seval,h3,F,D]
  |none=>
   rw[O]at I
   unfold R7 at I
   have X:lq (.one .str) (.s l[k].1) (.i .i64 (k:Int)) ((bA l k).map fun p=>sK p.1) ((bA l k).map fun p=>nK p.2)=_:=uK (kT:=sK) (vT:=nK) EZ (bA l k) l[k].1 k O
   simp only[qA,seval,bj,aH,dn,sv,h3,F,D,H,J,K,U,cp2,cp0,bO,I,xM,X,aEq]
   refine⟨_,rfl,_,_,rfl, ?_, ?_, ?_, ?_⟩ <;> simp only[qA,seval,h3,F,D]
 ·rintro _ ⟨fr,N,rfl,h3,F,D,H⟩
  simp only[qA,seval,sv,D,H,Int.lt_irrefl]
  exact⟨_,_,sy,rfl,rfl,rfl⟩
end
def RU(scope:Int):List (List Nat):=if scope=1 then bu else if scope=2 then dS else if scope=3 then jJ else []
theorem aEs:ae pE 79 [.i .i64 1] []=some (.sl (strs bu) 11 true,[]):=cI (m:=100) (cG (by kernel_rfl))
theorem aEt:ae pE 79 [.i .i64 2] []=some (.sl (strs dS) 25 false,[]):=cI (m:=100) (cG (by kernel_rfl))
theorem aEu:ae pE 79 [.i .i64 3] []=some (.sl (strs jJ) 7 true,[]):=cI (m:=100) (cG (by kernel_rfl))
theorem aEv:ae pE 79 [.i .i64 0] []=some (.nilsl,[]):=cI (m:=100) (cG (by kernel_rfl))
theorem Jf:bu.Nodup:=by decide+kernel
theorem Zt:dS.Nodup:=by decide+kernel
theorem Zu:jJ.Nodup:=by decide+kernel
theorem DT{α:Type}(d:α): ∀(l:List α) (x:α),mG d l l.length x=l++ [x]
 | [],x=>rfl
 |a::l,x=>by rw[List.length_cons,mG,DT d l x];rfl
theorem J0{α:Type}(d:α): ∀(l:List α) (x y:α),mG d (l++ [x]) l.length y=l++ [y]
 | [],x,y=>rfl
 |a::l,x,y=>by rw[List.cons_append,List.length_cons,mG,J0 d l x y];rfl
section
variable(lT:T)(m:List (List Nat×Nat))(kn:List (Nat×Int))(c0 c1 c2 c3:T)(ms:List (List (List Nat×Nat)))
theorem cpL:(jT lT m kn c0 c1 c2 c3 ms).length=ms.length+3:=by unfold jT;simp
theorem cpA:bD (jT lT m kn c0 c1 c2 c3 ms) (ms.length+3) ⟨1,.map [] [] false⟩=jT lT m kn c0 c1 c2 c3 (ms++ [[]]):=by
 grind [jT,bD,mG,List.length_map,DT]
theorem cpq(p:List (List Nat×Nat)):aI (jT lT m kn c0 c1 c2 c3 (ms++ [p])) (ms.length+3)=⟨1,.map (p.map fun p=>sK p.1) (p.map fun p=>nK p.2) false⟩:=by
 grind [jT,aI,aH,List.length_map,qS]
theorem aEw(p q:List (List Nat×Nat)):bD (jT lT m kn c0 c1 c2 c3 (ms++ [p])) (ms.length+3) ⟨1,.map (q.map fun p=>sK p.1) (q.map fun p=>nK p.2) false⟩=jT lT m kn c0 c1 c2 c3 (ms++ [q]):=by
 grind [jT,bD,mG,List.length_map,J0]
theorem Gg(D:Nat)(hc:(D=0∧c0= .mp .S (ms.length+3) 1)∨(D=1∧c1= .mp .S (ms.length+3) 1)∨(D=2∧c2= .mp .S (ms.length+3) 1)∨(D=3∧c3= .mp .S (ms.length+3) 1))(ns:List (List Nat))(H:ns.Nodup)(X:ns.length≤100)(v:T)(N:IsSl v ns.length (strs ns))(fr:Fr)(lh:aE ah)(sh:List ah)(O:sh=jT lT m kn c0 c1 c2 c3 (ms++ [[]]))
  (h3:aa fr 3= .ptr .S 2 1 0) (F:aa fr 8= .i .i64 (D:Int)) (Dp:aa fr 53=v) (Gu:aa fr 54= .i .i64 (ns.length:Int)) (r:aa fr 55= .i .i64 0):
  uL 71 wi fr lh sh (.ext 4)∧
  (jw pE 71 wi fr lh sh=jT lT m kn c0 c1 c2 c3 (ms++ [dD ns ns.length])):=by
 refine cj (P:=fun Y aU U=>U=jT lT m kn c0 c1 c2 c3 (ms++ [dD ns ns.length]))
  (cU (fun k st=> ∃(fr:Fr) (I:aE ah),st=⟨fr,I,jT lT m kn c0 c1 c2 c3 (ms++ [dD ns k])⟩∧aa fr 3= .ptr .S 2 1 0∧aa fr 8= .i .i64 (D:Int)∧aa fr 53=v∧aa fr 54= .i .i64 (ns.length:Int)∧aa fr 55= .i .i64 (k:Int)) _ ns.length ?_ ?_ 0 _ (Nat.zero_le _) ⟨fr,lh,by rw[O];rfl,h3,F,Dp,Gu,r⟩)
 ·rintro k _ hk ⟨fr,I,rfl,h3,F,Dp,Gu,r⟩
  left
  have J:(k:Int)<ns.length:=zZ
  have V:=aG (k:=k) zZ
  have K: ∀kk,iaV v (.i kk (k:Int)) 1=some (.vp (T.s ns[k]::(strs ns).drop (k+1))):=fun kk=>by rw[N.ia (sz:=1) (by rw[AM];omega) hk,Nat.mul_one,Dh ns k hk]
  have W:lq (.one .str) (.s ns[k]) (.i .i64 (k:Int)) ((dD ns k).map fun p=>sK p.1) ((dD ns k).map fun p=>nK p.2)=_:=uK (kT:=sK) (vT:=nK) EZ (dD ns k) ns[k] k (Zs H hk)
  rw[Zr hk]
  rcases hc with⟨rfl,hc⟩|⟨rfl,hc⟩|⟨rfl,hc⟩|⟨rfl,hc⟩ <;>
  (simp only[qA,seval,eI,dn,wi,h3,F,Dp,Gu,r,J,K,V,cp2,hc,cpq,xM,W,aEw]
   refine⟨_,rfl,_,_,rfl, ?_, ?_, ?_, ?_, ?_⟩ <;> simp only[qA,seval,h3,F,Dp,Gu])
 ·rintro _ ⟨fr,I,rfl,h3,F,Dp,Gu,r⟩
  simp only[qA,seval,wi,Gu,r,Int.lt_irrefl]
  grind
end
def E6(lT:T)(m:List (List Nat×Nat))(kn:List (Nat×Int)):Nat→List ah
 |0=>jT lT m kn .nilmp .nilmp .nilmp .nilmp []
 |1=>jT lT m kn (.mp .S 3 1) .nilmp .nilmp .nilmp [dD [] 0]
 |2=>jT lT m kn (.mp .S 3 1) (.mp .S 4 1) .nilmp .nilmp [dD [] 0,dD bu 11]
 |3=>jT lT m kn (.mp .S 3 1) (.mp .S 4 1) (.mp .S 5 1) .nilmp [dD [] 0,dD bu 11,dD dS 25]
 |_=>jT lT m kn (.mp .S 3 1) (.mp .S 4 1) (.mp .S 5 1) (.mp .S 6 1) [dD [] 0,dD bu 11,dD dS 25,dD jJ 7]
theorem amY(lT:T)(m:List (List Nat×Nat))(kn:List (Nat×Int))(fr:Fr)(lh:aE ah)(h3:aa fr 3= .ptr .S 2 1 0)(Kk:aa fr 43= .i .i64 0):
  ∃r aU,DC pE 71 jg ⟨fr,lh,E6 lT m kn 0⟩=some (.nrm,⟨r,aU,E6 lT m kn 1⟩)∧aa r 3= .ptr .S 2 1 0∧aa r 43= .i .i64 1:=by
 have F:bD (jT lT m kn .nilmp .nilmp .nilmp .nilmp []) 3 ⟨1,.map [] [] false⟩=jT lT m kn .nilmp .nilmp .nilmp .nilmp [[]]:=cpA lT m kn .nilmp .nilmp .nilmp .nilmp []
 have ki:(jT lT m kn .nilmp .nilmp .nilmp .nilmp []).length=3:=cpL lT m kn .nilmp .nilmp .nilmp .nilmp []
 have D:=fun fr lh sh h1 h2 h3 h4 h5 h6=>Gg lT m kn (.mp .S 3 1) .nilmp .nilmp .nilmp [] 0 zP [] List.nodup_nil zz .nilsl (Or.inl ⟨rfl,rfl,rfl⟩) fr lh sh h1 h2 h3 h4 h5 h6
 change ∀fr lh sh,sh=jT lT m kn (.mp .S 3 1) .nilmp .nilmp .nilmp [[]]→aa fr 3= .ptr .S 2 1 0→aa fr 8= .i .i64 0→aa fr 53= .nilsl→aa fr 54= .i .i64 0→aa fr 55= .i .i64 0→_ at D
 have H:=fun lh=>hZ (lh:=lh) (sh:=jT lT m kn .nilmp .nilmp .nilmp .nilmp [[]]) (k:=2) (g:=1) (off:=3) (m:=1) (v:= .mp .S 3 1) uH (cp2 lT m kn .nilmp .nilmp .nilmp .nilmp [[]])
 unfold E6
 simp only[qA,seval,eI,eS,jg,jz,h3,Kk,ki,F,H,aeN,aEv,aaE,D]
 first|done|refine⟨_,_,rfl, ?_, ?_⟩ <;> simp only[qA,seval,h3,jz]
theorem amZ(lT:T)(m:List (List Nat×Nat))(kn:List (Nat×Int))(fr:Fr)(lh:aE ah)(h3:aa fr 3= .ptr .S 2 1 0)(Kk:aa fr 43= .i .i64 1):
  ∃r aU,DC pE 71 jg ⟨fr,lh,E6 lT m kn 1⟩=some (.nrm,⟨r,aU,E6 lT m kn 2⟩)∧aa r 3= .ptr .S 2 1 0∧aa r 43= .i .i64 2:=by
 have F:bD (jT lT m kn (.mp .S 3 1) .nilmp .nilmp .nilmp [dD [] 0]) 4 ⟨1,.map [] [] false⟩=jT lT m kn (.mp .S 3 1) .nilmp .nilmp .nilmp [dD [] 0,[]]:=cpA lT m kn (.mp .S 3 1) .nilmp .nilmp .nilmp [dD [] 0]
 have ki:(jT lT m kn (.mp .S 3 1) .nilmp .nilmp .nilmp [dD [] 0]).length=4:=cpL lT m kn (.mp .S 3 1) .nilmp .nilmp .nilmp [dD [] 0]
 have D:=fun fr lh sh h1 h2 h3 h4 h5 h6=>Gg lT m kn (.mp .S 3 1) (.mp .S 4 1) .nilmp .nilmp [dD [] 0] 1 zP bu Jf zz (.sl (strs bu) 11 true) (Or.inr ⟨true,rfl⟩) fr lh sh h1 h2 h3 h4 h5 h6
 change ∀fr lh sh,sh=jT lT m kn (.mp .S 3 1) (.mp .S 4 1) .nilmp .nilmp [dD [] 0,[]]→aa fr 3= .ptr .S 2 1 0→aa fr 8= .i .i64 1→aa fr 53=(.sl (strs bu) 11 true)→aa fr 54= .i .i64 11→aa fr 55= .i .i64 0→_ at D
 have H:=fun lh=>hZ (lh:=lh) (sh:=jT lT m kn (.mp .S 3 1) .nilmp .nilmp .nilmp [dD [] 0,[]]) (k:=2) (g:=1) (off:=4) (m:=1) (v:= .mp .S 4 1) uH (cp2 lT m kn (.mp .S 3 1) .nilmp .nilmp .nilmp [dD [] 0,[]])
 unfold E6
 simp only[qA,seval,eI,eS,jg,jz,h3,Kk,ki,F,H,aeN,aEs,aaE,D]
 first|done|refine⟨_,_,rfl, ?_, ?_⟩ <;> simp only[qA,seval,h3,jz]
theorem am0(lT:T)(m:List (List Nat×Nat))(kn:List (Nat×Int))(fr:Fr)(lh:aE ah)(h3:aa fr 3= .ptr .S 2 1 0)(Kk:aa fr 43= .i .i64 2):
  ∃r aU,DC pE 71 jg ⟨fr,lh,E6 lT m kn 2⟩=some (.nrm,⟨r,aU,E6 lT m kn 3⟩)∧aa r 3= .ptr .S 2 1 0∧aa r 43= .i .i64 3:=by
 have F:bD (jT lT m kn (.mp .S 3 1) (.mp .S 4 1) .nilmp .nilmp [dD [] 0,dD bu 11]) 5 ⟨1,.map [] [] false⟩=jT lT m kn (.mp .S 3 1) (.mp .S 4 1) .nilmp .nilmp [dD [] 0,dD bu 11,[]]:=cpA lT m kn (.mp .S 3 1) (.mp .S 4 1) .nilmp .nilmp [dD [] 0,dD bu 11]
 have ki:(jT lT m kn (.mp .S 3 1) (.mp .S 4 1) .nilmp .nilmp [dD [] 0,dD bu 11]).length=5:=cpL lT m kn (.mp .S 3 1) (.mp .S 4 1) .nilmp .nilmp [dD [] 0,dD bu 11]
 have D:=fun fr lh sh h1 h2 h3 h4 h5 h6=>Gg lT m kn (.mp .S 3 1) (.mp .S 4 1) (.mp .S 5 1) .nilmp [dD [] 0,dD bu 11] 2 zP dS Zt zz (.sl (strs dS) 25 false) (Or.inr ⟨false,rfl⟩) fr lh sh h1 h2 h3 h4 h5 h6
 change ∀fr lh sh,sh=jT lT m kn (.mp .S 3 1) (.mp .S 4 1) (.mp .S 5 1) .nilmp [dD [] 0,dD bu 11,[]]→aa fr 3= .ptr .S 2 1 0→aa fr 8= .i .i64 2→aa fr 53=(.sl (strs dS) 25 false)→aa fr 54= .i .i64 25→aa fr 55= .i .i64 0→_ at D
 have H:=fun lh=>hZ (lh:=lh) (sh:=jT lT m kn (.mp .S 3 1) (.mp .S 4 1) .nilmp .nilmp [dD [] 0,dD bu 11,[]]) (k:=2) (g:=1) (off:=5) (m:=1) (v:= .mp .S 5 1) uH (cp2 lT m kn (.mp .S 3 1) (.mp .S 4 1) .nilmp .nilmp [dD [] 0,dD bu 11,[]])
 unfold E6
 simp only[qA,seval,eI,eS,jg,jz,h3,Kk,ki,F,H,aeN,aEt,aaE,D]
 first|done|refine⟨_,_,rfl, ?_, ?_⟩ <;> simp only[qA,seval,h3,jz]
theorem am1(lT:T)(m:List (List Nat×Nat))(kn:List (Nat×Int))(fr:Fr)(lh:aE ah)(h3:aa fr 3= .ptr .S 2 1 0)(Kk:aa fr 43= .i .i64 3):
  ∃r aU,DC pE 71 jg ⟨fr,lh,E6 lT m kn 3⟩=some (.nrm,⟨r,aU,E6 lT m kn 4⟩)∧aa r 3= .ptr .S 2 1 0∧aa r 43= .i .i64 4:=by
 have F:bD (jT lT m kn (.mp .S 3 1) (.mp .S 4 1) (.mp .S 5 1) .nilmp [dD [] 0,dD bu 11,dD dS 25]) 6 ⟨1,.map [] [] false⟩=jT lT m kn (.mp .S 3 1) (.mp .S 4 1) (.mp .S 5 1) .nilmp [dD [] 0,dD bu 11,dD dS 25,[]]:=cpA lT m kn (.mp .S 3 1) (.mp .S 4 1) (.mp .S 5 1) .nilmp [dD [] 0,dD bu 11,dD dS 25]
 have ki:(jT lT m kn (.mp .S 3 1) (.mp .S 4 1) (.mp .S 5 1) .nilmp [dD [] 0,dD bu 11,dD dS 25]).length=6:=cpL lT m kn (.mp .S 3 1) (.mp .S 4 1) (.mp .S 5 1) .nilmp [dD [] 0,dD bu 11,dD dS 25]
 have D:=fun fr lh sh h1 h2 h3 h4 h5 h6=>Gg lT m kn (.mp .S 3 1) (.mp .S 4 1) (.mp .S 5 1) (.mp .S 6 1) [dD [] 0,dD bu 11,dD dS 25] 3 zP jJ Zu zz (.sl (strs jJ) 7 true) (Or.inr ⟨true,rfl⟩) fr lh sh h1 h2 h3 h4 h5 h6
 change ∀fr lh sh,sh=jT lT m kn (.mp .S 3 1) (.mp .S 4 1) (.mp .S 5 1) (.mp .S 6 1) [dD [] 0,dD bu 11,dD dS 25,[]]→aa fr 3= .ptr .S 2 1 0→aa fr 8= .i .i64 3→aa fr 53=(.sl (strs jJ) 7 true)→aa fr 54= .i .i64 7→aa fr 55= .i .i64 0→_ at D
 have H:=fun lh=>hZ (lh:=lh) (sh:=jT lT m kn (.mp .S 3 1) (.mp .S 4 1) (.mp .S 5 1) .nilmp [dD [] 0,dD bu 11,dD dS 25,[]]) (k:=2) (g:=1) (off:=6) (m:=1) (v:= .mp .S 6 1) uH (cp2 lT m kn (.mp .S 3 1) (.mp .S 4 1) (.mp .S 5 1) .nilmp [dD [] 0,dD bu 11,dD dS 25,[]])
 unfold E6
 simp only[qA,seval,eI,eS,jg,jz,h3,Kk,ki,F,H,aeN,aEu,aaE,D]
 first|done|refine⟨_,_,rfl, ?_, ?_⟩ <;> simp only[qA,seval,h3,jz]
theorem aEx(lT:T)(m:List (List Nat×Nat))(fr:Fr)(lh:aE ah)(sh:List ah)(H:sh=jT lT m [] .nilmp .nilmp .nilmp .nilmp [])(h3:aa fr 3= .ptr .S 2 1 0)(Kk:aa fr 43= .i .i64 0):
  uL 71 jg fr lh sh (.ext 2)∧
  (jw pE 71 jg fr lh sh=E6 lT m [] 4):=by
 refine cj (P:=fun D aU I=>I=E6 lT m [] 4)
  (cU (fun k st=> ∃(fr:Fr) (F:aE ah),st=⟨fr,F,E6 lT m [] k⟩∧aa fr 3= .ptr .S 2 1 0∧aa fr 43= .i .i64 (k:Int)) _ 4 ?_ ?_ 0 _ (Nat.zero_le _) ⟨fr,lh,by rw[H];rfl,h3,Kk⟩)
 ·rintro k _ hk ⟨fr,F,rfl,h3,Kk⟩
  left
  have hc:k=0∨k=1∨k=2∨k=3:=zZ
  rcases hc with rfl|rfl|rfl|rfl
  ·obtain⟨D,aU,h,r,Mq⟩:=amY lT m [] fr F h3 Kk
   exact⟨_,h,D,aU,rfl,r,Mq⟩
  ·obtain⟨D,aU,h,r,Mq⟩:=amZ lT m [] fr F h3 Kk
   exact⟨_,h,D,aU,rfl,r,Mq⟩
  ·obtain⟨D,aU,h,r,Mq⟩:=am0 lT m [] fr F h3 Kk
   exact⟨_,h,D,aU,rfl,r,Mq⟩
  ·obtain⟨D,aU,h,r,Mq⟩:=am1 lT m [] fr F h3 Kk
   exact⟨_,h,D,aU,rfl,r,Mq⟩
 ·rintro _ ⟨fr,F,rfl,h3,Kk⟩
  simp only[qA,seval,jg,Kk]
  exact⟨_,_,sy,rfl,rfl,rfl⟩
section
variable(l:Cs)(lT:T)(cl:List T)(hl:IsSl lT l.length cl)(hcl:cW l cl)(hlen:l.length≤iP)
include hl hcl hlen
theorem ak0:ae pE 72 [lT] []=some (.ptr .S 2 1 0,E6 lT (bA l l.length) [] 4):=by
 have r:=fun fr lh sh=>aEr l lT cl hl hcl hlen fr lh sh
 have D:=fun fr lh sh=>aEx lT (bA l l.length) fr lh sh
 rw[ayg]at r
 rw[av aiZ (by simp[c72])]
 simp only[qA,seval,eS,dn,c72,Si,Sh,hl.lenI,hl.cells,hl.noTup,hl.kept1,r,D]
end
def Kb(scope:Int)(s:List Nat):Option Nat:=aM (dD (RU scope) (RU scope).length) s
theorem BA{s:List Nat}: ∀{m:List (List Nat×Nat)},aM m s=none↔ ∀p∈m,p.1≠s
 | []=>by simp[aM]
 |p::m=>by
  rw[aM]
  by_cases h:s=p.1
  ·grind
  ·rw[if_neg h,BA (m:=m)]
   grind
theorem aeO{ns:List (List Nat)}{s:List Nat}:aM (dD ns ns.length) s=none↔s∉ns:=by
 rw[BA]
 unfold dD
 rw[List.take_length]
 constructor
 ·intro h hs
  obtain⟨i,hi,e⟩:=List.getElem_of_mem hs
  exact h (ns[i],i) (List.mk_mem_zipIdx_iff_getElem?.2 (by rw[List.getElem?_eq_getElem hi])) e
 grind
theorem J1{ns:List (List Nat)}{s:List Nat}{i:Nat}: ∀{m:List (List Nat×Nat)},aM m s=some i→(s,i)∈m
 | [],h=>by simp[aM]at h
 |p::m,h=>by
  rw[aM]at h
  by_cases e:s=p.1
  ·grind
  ·rw[if_neg e]at h
   exact List.mem_cons_of_mem _ (J1 (ns:=ns) h)
theorem am3{scope:Int}{s:List Nat}{i:Nat}(h:Kb scope s=some i):(RU scope)[i]? =some s:=by
 have r:=J1 (ns:=RU scope) h
 grind [dD]
theorem xj(s:List Nat):kq s≠0↔s∈bu:=by
 constructor
 ·intro h
  by_cases r:s∈bu
  ·exact r
  simp_all[bu,List.mem_cons,List.not_mem_nil,kq,adb,ade,adf]
 ·intro h
  simp only[bu,List.mem_cons,List.not_mem_nil,or_false]at h
  rcases h with rfl|rfl|rfl|rfl|rfl|rfl|rfl|rfl|rfl|rfl|rfl <;> decide
theorem RB(s:List Nat):uN s≠0↔s∈jJ:=by
 grind [jJ,uN,Nw,Nx]
theorem RC(s:List Nat):uO s≠0↔s∈dS:=by
 constructor
 ·intro h
  rw[uO]at h
  by_cases h1:s= [114,101,115,116]
  ·subst h1;decide
  by_cases h2:s= [110,105,103,104,116,115]
  ·subst h2;decide
  by_cases h3:s= [104,111,109,101]
  ·subst h3;decide
  rw[if_neg h1,if_neg h2,if_neg h3]at h
  by_cases h4:oQ Ka s
  ·rw[if_pos h4,xj]at h
   have e:s=Ka++s.drop 7:=by rw[←((AO s).1 h4).2,List.take_append_drop]
   rw[e]
   generalize s.drop 7=d at h
   simp only[bu,List.mem_cons,List.not_mem_nil,or_false]at h
   rcases h with rfl|rfl|rfl|rfl|rfl|rfl|rfl|rfl|rfl|rfl|rfl <;> decide
  ·rw[if_neg h4]at h
   by_cases h5:oQ Ll s
   ·rw[if_pos h5,xj]at h
    have e:s=Ll++s.drop 6:=by rw[←((AP s).1 h5).2,List.take_append_drop]
    rw[e]
    generalize s.drop 6=d at h
    simp only[bu,List.mem_cons,List.not_mem_nil,or_false]at h
    rcases h with rfl|rfl|rfl|rfl|rfl|rfl|rfl|rfl|rfl|rfl|rfl <;> decide
   ·rw[if_neg h5]at h;exact absurd rfl h
 ·intro hs
  simp only[dS,List.mem_cons,List.not_mem_nil,or_false]at hs
  rcases hs with rfl|rfl|rfl|rfl|rfl|rfl|rfl|rfl|rfl|rfl|rfl|rfl|rfl|rfl|rfl|rfl|rfl|rfl|rfl|rfl|rfl|rfl|rfl|rfl|rfl <;> decide
theorem RD(scope:Int)(s:List Nat):dt scope s≠0↔s∈RU scope:=by
 grind [dt,RU,xj,RC,RB]
theorem lM(scope:Int)(s:List Nat):Kb scope s=none↔dt scope s=0:=by
 unfold Kb
 rw[aeO,←RD]
 grind
mutual
def comp(r:List Nat→Int)(scope:Int):Ex→Fm
 | .mk op num name args=>if op=1∨op=2∨op=3 then .mk 1 num []else if op=4 then .mk 1 1 []else if op=5 then .mk 1 0 []else if op=6 then(match Kb scope name with|some i=> .mk 6 (i:Int) []|none=> .mk 1 (r name) [])else .mk op 0 (eG r scope args)
def eG(r:List Nat→Int)(scope:Int):List Ex→List Fm
 | []=> []
 |x::xs=>comp r scope x::eG r scope xs
end
theorem mq(r:List Nat→Int)(scope:Int)(x:Ex):comp r scope x=if x.op=1∨x.op=2∨x.op=3 then .mk 1 x.num []else if x.op=4 then .mk 1 1 []else if x.op=5 then .mk 1 0 []else if x.op=6 then(match Kb scope x.name with|some i=> .mk 6 (i:Int) []|none=> .mk 1 (r x.name) [])else .mk x.op 0 (eG r scope x.args):=by obtain⟨_,_,_,_⟩:=x;rw[comp];rfl
theorem lp(r:List Nat→Int)(scope:Int): ∀xs,eG r scope xs=xs.map (comp r scope)
 | []=>rfl
 |x::xs=>by simp_all[eG,lp]
def NM(cl:List Nat→Int×Int)(scope:Int)(s:List Nat):Int×Int:=if dt scope s≠0 then(dt scope s,0)else cl s
def pH(D:List Nat→Int)(scope:Int)(r:List Int)(s:List Nat):Int:=match Kb scope s with|some i=>r.getD i 0|none=>D s
theorem X4(cl:List Nat→Int×Int)(scope:Int)(x:Ex):x.ty cl scope=x.ty (NM cl scope) 0:=by
 induction x using Ex.ind with
 |h x ih=>
  rw[Ex.ty_eq,Ex.ty_eq (cl:=NM cl scope)]
  have hl:ku cl scope x.args=ku (NM cl scope) 0 x.args:=by
   generalize x.args=xs at ih
   induction xs with
   |nil=>rfl
   |cons y F r=>
    rw[ku,ku,ih y zP,r fun z D=>ih z (by simp[D])]
  grind [NM,jx]
theorem ayh(cl:List Nat→Int×Int):NM cl 0=cl:=by
 grind [NM,jx]
theorem ayi(s:List Nat):Kb 0 s=none:=(lM 0 s).2 (jx s)
theorem ah8(D:List Nat→Int)(r:List Int):pH D 0 r=D:=by
 grind [pH,ayi]
theorem NN{cl:List Nat→Int×Int}{D:List Nat→Int}{scope:Int}{r:List Int}(hc:LJ (NM cl scope) (pH D scope r))(ew:r.length=(RU scope).length)(x:Ex): ∀k,x.wf=true→fO x.args≤100000→x.ty cl scope=(k,0)→XI r (comp D scope x)∧(comp D scope x).val r=x.val0 (pH D scope r)∧Bc k (x.val0 (pH D scope r)):=by
 induction x using Ex.ind with
 |h x ih=>
  intro k V hn N
  have W:Bc k (x.val0 (pH D scope r)):=by
   rw[X4]at N
   exact(JY hc 0 (fun s=>jx s) x k V N).2
  refine and_assoc.1 ⟨?_,W⟩
  obtain⟨h1,h2,X,Cf,se,O⟩:=u9 V
  have Y:=Zm W
  have F: ∀f v,comp D scope x=f→x.val0 (pH D scope r)=v→(bd v→XI r f∧f.val r=v)→XI r (comp D scope x)∧(comp D scope x).val r=x.val0 (pH D scope r):=by
   rintro f v rfl e h
   rw[e]at Y ⊢
   exact h Y
  have U: ∀n,bd n→XI r (.mk 1 n [])∧(Fm.mk 1 n []).val r=n:=fun n J=>⟨(Ga _ _).2 (.inl ⟨rfl,J⟩),by rw[Fm.val_eq];rfl⟩
  by_cases I:x.op=1∨x.op=2∨x.op=3
  ·exact F _ _ (by rw[mq,if_pos I]) (by rw[Ex.val0_eq,if_neg zZ,if_pos I]) (U _)
  by_cases h4:x.op=4
  ·exact F _ _ (by rw[mq,if_neg I,if_pos h4]) (by rw[Ex.val0_eq,if_neg zZ,if_neg I,if_pos h4]) (U _)
  by_cases h5:x.op=5
  ·exact F _ _ (by rw[mq,if_neg I,if_neg h4,if_pos h5]) (by rw[Ex.val0_eq,if_neg zZ,if_neg I,if_neg h4,if_pos h5]) (U _)
  by_cases h6:x.op=6
  ·cases K:Kb scope x.name with
   |none=>exact F _ _ (by rw[mq,if_neg I,if_neg h4,if_neg h5,if_pos h6,K]) (by rw[Ex.val0_eq,if_pos h6,pH,K]) (U _)
   |some i=>
    have hi:=am3 K
    have lO:i<(RU scope).length:=(List.getElem?_eq_some_iff.1 hi).1
    refine F (.mk 6 (i:Int) []) (r.getD i 0) (by rw[mq,if_neg I,if_neg h4,if_neg h5,if_pos h6,K]) (by rw[Ex.val0_eq,if_pos h6,pH,K]) fun J=>⟨(Ga _ _).2 (.inr (.inl ⟨rfl,Int.natCast_nonneg i, ?_,J⟩)),by rw[Fm.val_eq];rfl⟩
    show(i:Int).toNat<r.length
    rw[Int.toNat_natCast,ew];exact lO
  ·refine F _ _ (by rw[mq,if_neg I,if_neg h4,if_neg h5,if_neg h6]) (by rw[Ex.val0_eq,if_neg h6,if_neg I,if_neg h4,if_neg h5]) fun J=> ?_
   have h7:7≤x.op:=zZ
   obtain⟨ts,H,hr,hk⟩:=ve N h6
   have hlen:ts.length=x.args.length:=vf H
   have yp:=fP x.args
   have Z:Bz r (eG D scope x.args)∧eK r (eG D scope x.args)=ft (pH D scope r) x.args∧vH ts (ft (pH D scope r) x.args):=by
    clear N X hr V Cf se hlen Y W yp F J
    generalize x.args=xs at ih H O hn
    induction xs generalizing ts with
    |nil=>rw[ku]at H;cases H;exact⟨by rw[eG,Bz];trivial,by rw[eG,eK,ft],trivial⟩
    |cons z zs ihz=>
     obtain⟨t,us,rfl,e1,e2⟩:=nW H
     rw[EW,Bool.and_eq_true]at O
     rw[fO]at hn
     have hz:=z.nodes_eq
     obtain⟨f1,f2,f3⟩:=ih z zP t O.1 zZ e1
     obtain⟨g1,g2,g3⟩:=ihz us (fun y hy=>ih y (by simp[hy])) e2 O.2 zZ
     rw[eG,eK,ft,Bz,f2,g2]
     exact⟨⟨f1,g1⟩,rfl,f3,g3⟩
   obtain⟨i1,i2,i3⟩:=Z
   have hcl:(eG D scope x.args).length=x.args.length:=by rw[lp,List.length_map]
   obtain⟨hv,_⟩:=X1 i3 h7 h2 (by rw[hlen];exact X) hr hk
   refine⟨(Ga _ _).2 (.inr (.inr ⟨h7,h2,by show dB x.op (eG D scope x.args).length=true;rw[hcl];exact X,by show(eG D scope x.args).length≤iP;rw[hcl];exact gk zZ,i1,by show vOk x.op (eK r (eG D scope x.args));rw[i2];exact hv⟩)), ?_⟩
   rw[Fm.val_eq]
   show(if x.op=1 then(0:Int)else if x.op=6 then r.getD (0:Int).toNat 0 else EY x.op (eK r (eG D scope x.args)))=EY x.op (ft (pH D scope r) x.args)
   rw[if_neg zZ,if_neg h6,i2]
def ee(lT:T)(m:List (List Nat×Nat))(kn:List (Nat×Int))(R:List ah):List ah:=E6 lT m kn 4++R
section
variable(lT:T)(m:List (List Nat×Nat))(kn:List (Nat×Int))(R:List ah)
theorem ayj:aI (ee lT m kn R) 0=⟨1,.map (m.map fun p=>sK p.1) (m.map fun p=>nK p.2) false⟩:=nr rfl
theorem ayk:aI (ee lT m kn R) 1=⟨1,.map (kn.map fun p=>nK p.1) (kn.map fun p=>iV p.2) false⟩:=nr rfl
theorem Gh:aI (ee lT m kn R) 2=⟨1,.cells [lT,.mp .S 0 1,.mp .S 1 1,.mp .S 3 1,.mp .S 4 1,.mp .S 5 1,.mp .S 6 1] 0 true⟩:=nr rfl
theorem aEy:aI (ee lT m kn R) 3=⟨1,.map ((dD [] 0).map fun p=>sK p.1) ((dD [] 0).map fun p=>nK p.2) false⟩:=nr rfl
theorem ayl:aI (ee lT m kn R) 4=⟨1,.map ((dD bu 11).map fun p=>sK p.1) ((dD bu 11).map fun p=>nK p.2) false⟩:=nr rfl
theorem aym:aI (ee lT m kn R) 5=⟨1,.map ((dD dS 25).map fun p=>sK p.1) ((dD dS 25).map fun p=>nK p.2) false⟩:=nr rfl
theorem ayn:aI (ee lT m kn R) 6=⟨1,.map ((dD jJ 7).map fun p=>sK p.1) ((dD jJ 7).map fun p=>nK p.2) false⟩:=nr rfl
theorem ayo(r:List (Nat×Int)):bD (ee lT m kn R) 1 ⟨1,.map (r.map fun p=>nK p.1) (r.map fun p=>iV p.2) false⟩=ee lT m r R:=nr rfl
end
def kOf:List ah→List (Nat×Int)
 |_::⟨_,.map ks r _⟩::_=>(ks.zip r).map fun p=>((match p.1 with| .i _ n=>n.toNat|_=>0),(match p.2 with| .i _ n=>n|_=>0))
 |_=> []
theorem am4(lT:T)(m:List (List Nat×Nat))(R:List ah): ∀kn,kOf (ee lT m kn R)=kn:=by
 intro kn
 unfold kOf ee E6 jT
 simp only[List.cons_append]
 induction kn with
 |nil=>rfl
 |cons p kn ih=>rw[List.map_cons,List.map_cons,List.zip_cons_cons,List.map_cons,ih];obtain⟨a,b⟩:=p;simp[nK,iV]
noncomputable def kL(E:Env)(n:Nat)(a:ak)(fr:Fr)(lh:aE ah)(sh:List ah):List (Nat×Int):=kOf (jw E n a fr lh sh)
theorem ah9{E:Env}{n:Nat}{a:ak}{fr:Fr}{lh:aE ah}{sh:List ah}{lT:T}{m:List (List Nat×Nat)}{R:List ah}{P:List (Nat×Int)→Prop}(h: ∃kn,jw E n a fr lh sh=ee lT m kn R∧P kn):jw E n a fr lh sh=ee lT m (kL E n a fr lh sh) R∧P (kL E n a fr lh sh):=by
 obtain⟨kn,h1,h2⟩:=h
 have:kL E n a fr lh sh=kn:=by unfold kL;rw[h1,am4]
 rw[this];exact⟨h1,h2⟩
theorem Zv{cl:List Nat→Int×Int}{scope:Int}: ∀{xs:List Ex} {ts:List Int},ku cl scope xs= .ok ts→ ∀(k:Nat) (hk:k<xs.length),∃t,xs[k].ty cl scope=(t,0)
 | [],ts,h,k,hk=>by simp at hk
 |x::xs,ts,h,k,hk=>by
  obtain⟨t,us,rfl,e1,e2⟩:=nW h
  cases k with
  |zero=>exact⟨t,e1⟩
  |succ k=>exact Zv e2 k (by simpa using hk)
section
variable(l:Cs)(lT:T)(R:List ah)(cl:List T)(hl:IsSl lT l.length cl)(hcl:cW l cl)(hlen:l.length≤iP)
def iT(kn:List (Nat×Int)):Prop:= ∀i v,aM kn i=some v→v=(sd l l.length).getD i 0
def ayp(n:Nat)(scope:Int)(y:Ex):Prop:= ∀k kn cs,iT l kn→gr y cs→y.nodes≤200→y.wf=true→y.ty (CL l n) scope=(k,0)→
 ∃D r,ae pE 73 [.ptr .S 2 1 0,.i .i64 scope,.agg cs] (ee lT (bA l l.length) kn R)=some (.agg D,ee lT (bA l l.length) r R)∧iN (comp (fm l) scope y) D∧iT l r∧ ∀i,n≤i→aM r i=aM kn i
def ayq(j:Nat):Prop:= ∀s t kn,eU l s=some j→E0 l s=(t,0)→iT l kn→ ∃r,ae pE 134 [.ptr .S 2 1 0,.s s] (ee lT (bA l l.length) kn R)=some (.i .i64 (fm l s),ee lT (bA l l.length) r R)∧iT l r∧ ∀i,j<i→aM r i=aM kn i
theorem aEA(n:Nat)(scope:Int)(xs:List Ex)(ih: ∀y∈xs,ayp l lT R n scope y)(a:T)(cc:List T)(ha:IsSl a xs.length cc)(hx:cw xs cc)(hn:fO xs≤200)(yI:EW xs=true)(ts:List Int)(W:ku (CL l n) scope xs= .ok ts)(kn:List (Nat×Int))(iY:iT l kn)(op:T)(g D:Nat)(U:ah)(fr:Fr)(lh:aE ah)(sh:List ah)(fB:sh=ee lT (bA l l.length) kn R)
  (h0:aa fr 0= .ptr .S 2 1 0) (h1:aa fr 1= .i .i64 scope) (I:aa fr 9= .ptr .L 9 D 0) (J:aa fr 63=a) (DU:aa fr 64= .i .i64 (xs.length:Int)) (Gi:aa fr 65= .i .i64 0) (K:ab lh 6=U) (F:ab lh 9=⟨D,.cells [op,.i .i64 0,.isl .L 60 g 0 xs.length 3] 0 true⟩) (DV:ab lh 60=⟨g,.cells (repl [.i .i64 0,.i .i64 0,.nilsl] xs.length) 0 false⟩):
  uL 80 oc fr lh sh (.ext 1)∧
  (ab (iu pE 80 oc fr lh sh) 6=U∧ab (iu pE 80 oc fr lh sh) 9=⟨D,.cells [op,.i .i64 0,.isl .L 60 g 0 xs.length 3] 0 true⟩∧(∃cs,ab (iu pE 80 oc fr lh sh) 60=⟨g,.cells cs 0 false⟩∧be (eG (fm l) scope xs) cs)∧
    (∃r,jw pE 80 oc fr lh sh=ee lT (bA l l.length) r R∧iT l r∧ ∀i,n≤i→aM r i=aM kn i)):=by
 refine cj (P:=fun cK aU aX=>ab aU 6=U∧ab aU 9=⟨D,.cells [op,.i .i64 0,.isl .L 60 g 0 xs.length 3] 0 true⟩∧(∃cs,ab aU 60=⟨g,.cells cs 0 false⟩∧be (eG (fm l) scope xs) cs)∧(∃r,aX=ee lT (bA l l.length) r R∧iT l r∧ ∀i,n≤i→aM r i=aM kn i))
  (cU (fun k st=> ∃(fr:Fr) (H:aE ah) (A:List T) (IL:List (Nat×Int)),st=⟨fr,H,ee lT (bA l l.length) IL R⟩∧aa fr 0= .ptr .S 2 1 0∧aa fr 1= .i .i64 scope∧aa fr 9= .ptr .L 9 D 0∧aa fr 63=a∧aa fr 64= .i .i64 (xs.length:Int)∧aa fr 65= .i .i64 (k:Int)∧ab H 6=U∧ab H 9=⟨D,.cells [op,.i .i64 0,.isl .L 60 g 0 xs.length 3] 0 true⟩∧
    ab H 60=⟨g,.cells (A++repl [.i .i64 0,.i .i64 0,.nilsl] (xs.length-k)) 0 false⟩∧be (eG (fm l) scope (xs.take k)) A∧iT l IL∧ ∀i,n≤i→aM IL i=aM kn i) _ xs.length ?_ ?_ 0 _ (Nat.zero_le _) ⟨fr,lh,[],kn,by rw[fB],h0,h1,I,J,DU,Gi,K,F,by rw[DV];rfl,by rw[List.take_zero,eG];exact be.nil,iY,fun _ _=>rfl⟩)
 ·rintro k _ hk ⟨fr,H,A,IL,rfl,h0,h1,I,J,DU,Gi,K,F,DV,N,Mj,JR⟩
  left
  have X:(k:Int)<xs.length:=zZ
  have UR:=fP xs
  have hyk:=lH (List.getElem_mem hk)
  have hw:=ba (k:=k) (gk zZ)
  obtain⟨b,cb,rr,Y,eW,te,hb⟩:=mK ha hx k hk
  obtain⟨t,ht⟩:=Zv W k hk
  obtain⟨cf,NC,aD,wJ,Z,LP⟩:=ih xs[k] (List.getElem_mem hk) t IL _ Mj hb zZ (yz.1 yI _ (List.getElem_mem hk)) ht
  obtain⟨V,fc,rfl,AG,WJ⟩:=wJ.cells
  have O:A.length=k*3:=by rw[N.len,lp];simp;omega
  generalize hy:comp (fm l) scope xs[k]=y at*
  have Gr:(A++repl [T.i .i64 0,T.i .i64 0,T.nilsl] (xs.length-k)).length=xs.length*3:=by rw[List.length_append,Bv,O];simp;omega
  have hsp:splice (A++repl [T.i .i64 0,T.i .i64 0,T.nilsl] (xs.length-k)) (k*3) [.i .i64 y.op,.i .i64 y.num,V]=(A++ [.i .i64 y.op,.i .i64 y.num,V])++repl [T.i .i64 0,T.i .i64 0,T.nilsl] (xs.length-(k+1)):=by
   rw[show xs.length-k=(xs.length-(k+1))+1 by omega,xf,Bu A [T.i .i64 0,T.i .i64 0,T.nilsl] _ [T.i .i64 y.op,T.i .i64 y.num,V] (k*3) O rfl]
  have amO:k*3+3≤xs.length*3:=zZ
  simp only[qA,seval,bj,aH,dn,oc,h0,h1,I,J,DU,Gi,F,DV,X,Y,hw,aD,lQ,mF,eW.kept1,AG.froz1,hk,Gr,hsp,amO]
  refine⟨_,rfl,_,_,A++ [.i .i64 y.op,.i .i64 y.num,V],NC,rfl, ?_, ?_, ?_, ?_, ?_, ?_, ?_, ?_, ?_, ?_,Z,fun i hi=>by rw[LP i hi,JR i hi]⟩
  all_goals first|(simp only[qA,seval,h0,h1,I,J,DU,K,F];done)|skip
  rw[List.take_succ_eq_append_getElem hk,lp,List.map_append,←lp,List.map_cons,hy]
  exact be.append N (be.one wJ)
 ·rintro _ ⟨fr,H,A,IL,rfl,h0,h1,I,J,DU,Gi,K,F,DV,N,Mj,JR⟩
  rw[Nat.sub_self,show repl [T.i .i64 0,T.i .i64 0,T.nilsl] 0= []from rfl,List.append_nil]at DV
  rw[List.take_length]at N
  simp only[qA,seval,oc,DU,Gi,Int.lt_irrefl]
  exact⟨_,_,sy,rfl,rfl,K,F,⟨A,DV,N⟩,IL,rfl,Mj,JR⟩
end
section
variable(l:Cs)(lT:T)(R:List ah)(cl:List T)(hl:IsSl lT l.length cl)(hcl:cW l cl)(hlen:l.length≤iP)
theorem E1(n:Nat)(KG:n≤l.length)(hc: ∀j,j<n→ayq l lT R j)(scope:Int)(eY:scope=0∨scope=1∨scope=2∨scope=3)(x:Ex):ayp l lT R n scope x:=by
 induction x using Ex.ind with
 |h x ih=>
  intro k kn cs K hx hn yI Y
  obtain⟨a,cc,rfl,ha,RW⟩:=hx.cells
  obtain⟨h1,h2,eN,Cf,se,xZ⟩:=u9 yI
  have hnd:=x.nodes_eq
  rw[av ai0 (by simp[Hd]),mq]
  by_cases e1:x.op=1
  ·rw[if_pos (.inl e1)]
   simp only[qA,seval,Hd,e1]
   exact⟨_,kn,rfl,iN.of (x:= .mk 1 x.num []) (Or.inl ⟨rfl,rfl,rfl⟩) be.nil,K,fun _ _=>rfl⟩
  by_cases e2:x.op=2
  ·rw[if_pos (.inr (.inl e2))]
   simp only[qA,seval,Hd,e2]
   exact⟨_,kn,rfl,iN.of (x:= .mk 1 x.num []) (Or.inl ⟨rfl,rfl,rfl⟩) be.nil,K,fun _ _=>rfl⟩
  by_cases e3:x.op=3
  ·rw[if_pos (.inr (.inr e3))]
   simp only[qA,seval,Hd,e3]
   exact⟨_,kn,rfl,iN.of (x:= .mk 1 x.num []) (Or.inl ⟨rfl,rfl,rfl⟩) be.nil,K,fun _ _=>rfl⟩
  rw[if_neg zZ]
  by_cases e4:x.op=4
  ·rw[if_pos e4]
   simp only[qA,seval,Hd,e4]
   exact⟨_,kn,rfl,iN.of (x:= .mk 1 1 []) (Or.inl ⟨rfl,rfl,rfl⟩) be.nil,K,fun _ _=>rfl⟩
  rw[if_neg e4]
  by_cases e5:x.op=5
  ·rw[if_pos e5]
   simp only[qA,seval,Hd,e5]
   exact⟨_,kn,rfl,iN.of (x:= .mk 1 0 []) (Or.inl ⟨rfl,rfl,rfl⟩) be.nil,K,fun _ _=>rfl⟩
  rw[if_neg e5]
  by_cases h6:x.op=6
  ·rw[if_pos h6]
   rw[Ex.ty_eq,if_pos h6]at Y
   have r:=lkS (dD (RU scope) (RU scope).length) x.name
   change _=some (R7 (Kb scope x.name))at r
   by_cases Z:dt scope x.name=0
   ·rw[if_neg (by simp[Z])]at Y
    have hp:=(lM scope x.name).2 Z
    rw[hp]at r ⊢
    obtain⟨i,lO,iA,Jh,_,_,am5,_⟩:=vd KG Y
    obtain⟨N,aD,iU,fJ⟩:=hc i iA x.name k kn Jh am5 K
    simp only[R7]at r
    rcases eY with rfl|rfl|rfl|rfl
    ·change iq _ ((dD [] 0).map _) ((dD [] 0).map _) _ _ _=_ at r
     simp only[qA,seval,eI,dn,Hd,h6,Gh,aEy,bO,r,aD,MA]
     exact⟨_,N,rfl,iN.of (x:= .mk 1 (fm l x.name) []) (Or.inl ⟨rfl,rfl,rfl⟩) be.nil,iU,fun i hi=>fJ i zZ⟩
    ·change iq _ ((dD bu 11).map _) ((dD bu 11).map _) _ _ _=_ at r
     simp only[qA,seval,eI,dn,Hd,h6,Gh,ayl,bO,r,aD,MA]
     exact⟨_,N,rfl,iN.of (x:= .mk 1 (fm l x.name) []) (Or.inl ⟨rfl,rfl,rfl⟩) be.nil,iU,fun i hi=>fJ i zZ⟩
    ·change iq _ ((dD dS 25).map _) ((dD dS 25).map _) _ _ _=_ at r
     simp only[qA,seval,eI,dn,Hd,h6,Gh,aym,bO,r,aD,MA]
     exact⟨_,N,rfl,iN.of (x:= .mk 1 (fm l x.name) []) (Or.inl ⟨rfl,rfl,rfl⟩) be.nil,iU,fun i hi=>fJ i zZ⟩
    ·change iq _ ((dD jJ 7).map _) ((dD jJ 7).map _) _ _ _=_ at r
     simp only[qA,seval,eI,dn,Hd,h6,Gh,ayn,bO,r,aD,MA]
     exact⟨_,N,rfl,iN.of (x:= .mk 1 (fm l x.name) []) (Or.inl ⟨rfl,rfl,rfl⟩) be.nil,iU,fun i hi=>fJ i zZ⟩
   ·cases hp:Kb scope x.name with
    |none=>exact absurd ((lM scope x.name).1 hp) Z
    |some i=>
     rw[hp]at r
     rw[show R7 (some i)= .tup [.i .i64 (i:Int),.b true]from rfl]at r
     have hf:iN (.mk 6 (i:Int) []) [.i .i64 6,.i .i64 (i:Int),.nilsl]:=iN.of (x:= .mk 6 (i:Int) []) (Or.inl ⟨rfl,rfl,rfl⟩) be.nil
     rcases eY with rfl|rfl|rfl|rfl
     ·exact absurd (jx _) Z
     ·change iq _ ((dD bu 11).map _) ((dD bu 11).map _) _ _ _=_ at r
      simp only[qA,seval,eI,Hd,h6,Gh,ayl,bO,r]
      exact⟨_,kn,rfl,hf,K,fun _ _=>rfl⟩
     ·change iq _ ((dD dS 25).map _) ((dD dS 25).map _) _ _ _=_ at r
      simp only[qA,seval,eI,Hd,h6,Gh,aym,bO,r]
      exact⟨_,kn,rfl,hf,K,fun _ _=>rfl⟩
     ·change iq _ ((dD jJ 7).map _) ((dD jJ 7).map _) _ _ _=_ at r
      simp only[qA,seval,eI,Hd,h6,Gh,ayn,bO,r]
      exact⟨_,kn,rfl,hf,K,fun _ _=>rfl⟩
  ·rw[if_neg h6]
   obtain⟨ts,hts,hr,hk⟩:=ve Y h6
   have yp:=fP x.args
   have Rw:x.args.length≤iP:=gk zZ
   have hmk:x.args.length*40≤roomy∧x.args.length≤roomy:=by unfold iP at Rw;unfold roomy;omega
   have IZ:=fun fr lh sh D h0 h1 F H DU Gi I J DV=>aEA l lT R n scope x.args (fun y hy=>ih y hy) a cc ha RW zZ xZ ts hts kn K (.i .i64 x.op) 1 1 ⟨1,.cells [.i .i64 0,.i .i64 0,.nilsl] 0 true⟩ fr lh sh D h0 h1 F H DU Gi I J DV
   have hL:=fun fr lh sh D h0 h1 F H DU Gi I J DV=>And.intro (IZ fr lh sh D h0 h1 F H DU Gi I J DV).1 (And.intro (IZ fr lh sh D h0 h1 F H DU Gi I J DV).2.1 (And.intro (IZ fr lh sh D h0 h1 F H DU Gi I J DV).2.2.1 (And.intro (WH (IZ fr lh sh D h0 h1 F H DU Gi I J DV).2.2.2.1).1 (ah9 (IZ fr lh sh D h0 h1 F H DU Gi I J DV).2.2.2.2).1)))
   have hF:=fun fr lh sh D h0 h1 F H DU Gi I J DV=>(WH (IZ fr lh sh D h0 h1 F H DU Gi I J DV).2.2.2.1).2
   have hM:=fun fr lh sh D h0 h1 F H DU Gi I J DV=>(ah9 (IZ fr lh sh D h0 h1 F H DU Gi I J DV).2.2.2.2).2
   have O:=fun fr lh sh D h0 h1 F H DU Gi I J DV=>(hF fr lh sh D h0 h1 F H DU Gi I J DV).len
   have hcl:(eG (fm l) scope x.args).length=x.args.length:=by rw[lp];simp
   rw[hcl]at O
   simp only[qA,seval,bj,AJ,aH,fC,Hd,Sj,e1,e2,e3,e4,e5,h6,ha.lenI,hmk,hL,O]
   generalize hX:WG _ _=X
   generalize hMX:kL _ _ _ _ _ _=N
   have U:be (eG (fm l) scope x.args) X:=by
    rw[←hX]
    refine hF _ _ _ rfl ?_ ?_ ?_ ?_ ?_ ?_ ?_ ?_ ?_ <;> simp only[qA,seval]
   have V:iT l N∧ ∀i,n≤i→aM N i=aM kn i:=by
    rw[←hMX]
    refine hM _ _ _ rfl ?_ ?_ ?_ ?_ ?_ ?_ ?_ ?_ ?_ <;> simp only[qA,seval]
   have W:=U.len
   rw[hcl]at W
   rw[←W,List.take_length]
   exact⟨_,N,rfl,iN.of (x:= .mk x.op 0 (eG (fm l) scope x.args)) (Or.inr ⟨false,by show T.sl X x.args.length false= .sl X (eG (fm l) scope x.args).length false;rw[hcl]⟩) U,V.1,V.2⟩
end
theorem ib{x:Ex}(r:bJ x=0):x.nodes≤200∧x.depth≤16:=by
 unfold bJ at r
 by_cases h:big x
 ·rw[if_pos h]at r;cases r
 ·unfold big at h;omega
theorem Zw{lh:aE ah}{sh:List ah}{keep:Bool}{k g r:Nat}{cs:List T}{bx:Bool}(h:ab lh k=⟨g,.cells cs r bx⟩)(hc:cs.all froz1=true):fzV lh sh keep (.ptr .L k g 0)=some (.vp cs,[(.L,k,⟨g,.cells cs cs.length bx⟩)]):=by
 unfold fzV aJ
 have hk:(keep&&Sp.L==Sp.S)=false:=by cases keep <;> rfl
 show Q.run _ _ (if(keep&&Sp.L==Sp.S)=true then _ else _)=_
 rw[hk]
 simp only[Bool.false_eq_true,if_false,Q.run]
 have D:(St.mk .nil lh sh).get .L k=⟨g,.cells cs r bx⟩:=h
 rw[D]
 simp only[if_true,List.drop_zero]
 have:bf (fz false 7) cs= .ret (cs,[]):=by
  clear h D
  induction cs with
  |nil=>rfl
  |cons c cs ih=>
   rw[List.all_cons,Bool.and_eq_true]at hc
   simp only[bf,qc hc.1,ih hc.2,Q.bind,List.append_nil]
 rw[this]
 rfl
theorem const_comp{l:Cs}{s:List Nat}{t:Int}(h:E0 l s=(t,0)): ∃i,∃hi:i<l.length,eU l s=some i∧bJ l[i].2=0∧l[i].2.ty (CL l i) 0=(t,0)∧XI [] (comp (fm l) 0 l[i].2)∧(comp (fm l) 0 l[i].2).val []=fm l s∧fm l s=(sd l l.length).getD i 0:=by
 obtain⟨i,hi,Jh,F,I,r,RM,J,_,K⟩:=JZ h
 have H:=gz F
 have N:=(l[i].2).nodes_eq
 have O:=ib F
 have h0:LJ (NM (E0 l) 0) (pH (fm l) 0 []):=by rw[ayh,ah8];exact Fi l
 obtain⟨h1,h2,h3⟩:=NN h0 rfl l[i].2 t H zZ r
 rw[ah8]at h2 h3
 have U:=(JY (Fi l) 0 (fun s=>jx s) l[i].2 t H r).1
 have D:Zq l 0 l[i].2=rH t (l[i].2.val0 (fm l)):=U
 rw[RM]at D
 have e1:=(Ge (scope:=0) J).2.2
 have e2:=(Ge (scope:=0) h3).2.2
 rw[←D,e1]at e2
 exact⟨i,hi,Jh,F,I,h1,by rw[h2,e2],K⟩
section
variable(l:Cs)(lT:T)(R:List ah)(cl:List T)(hl:IsSl lT l.length cl)(hcl:cW l cl)(hlen:l.length≤iP)
include hl hcl
theorem E2: ∀j,j<l.length→ayq l lT R j:=by
 intro j
 induction j using Nat.strongRecOn with
 |ind j ih=>
  intro Y s t kn Jh O U
  obtain⟨j',Z9,H,Z,ht,kN,I,rF⟩:=const_comp O
  rw[Jh]at H
  cases H
  have D:=lkS (bA l l.length) s
  rw[rv l s l.length (Nat.le_refl _),List.take_length,Jh]at D
  rw[show R7 (some j)= .tup [.i .i64 (j:Int),.b true]from rfl]at D
  have F:iq (.one .int) (kn.map fun p=>nK p.1) (kn.map fun p=>iV p.2) (.i .i64 (j:Int)) (.i .i64 0) true=_:=akJ (kT:=nK) (vT:=iV) aeB (fun _=>rfl) kn j (.i .i64 0)
  rw[av afy (by simp[O1])]
  cases N:aM kn j with
  |some v=>
   have e:=U j v N
   rw[N]at F
   simp only[show iV v= .i .i64 v from rfl]at F
   rw[rF,←e]
   simp only[qA,seval,O1,Gh,ayj,ayk,bO,D,F]
   exact⟨kn,rfl,U,fun _ _=>rfl⟩
  |none=>
   rw[N]at F
   simp only at F
   obtain⟨b,cb,r,V,eW,te,hb⟩:=fS hl hcl j Y
   obtain⟨cf,J,aD,wJ,iU,fJ⟩:=E1 l lT R j (Nat.le_of_lt Y) (fun i hi=>ih i hi zZ) 0 (.inl rfl) l[j].2 t kn _ U hb (ib Z).1 (gz Z) ht
   obtain⟨W,fc,rfl,AG,WJ⟩:=wJ.cells
   have K:=amU [] .nilsl (Or.inl ⟨rfl,rfl,rfl⟩) (comp (fm l) 0 l[j].2) W fc [] AG WJ kN
   rw[I]at K
   have yc:aM J j=none:=by rw[fJ j (Nat.le_refl _),N]
   have iI:lq (.one .int) (.i .i64 (j:Int)) (.i .i64 (fm l s)) (J.map fun p=>nK p.1) (J.map fun p=>iV p.2)=_:=uK (kT:=nK) (vT:=iV) aeB J j (fm l s) yc
   generalize comp (fm l) 0 l[j].2=y at*
   have yL:([T.i .i64 y.op,T.i .i64 y.num,W]:List T).all froz1=true:=by simp[AG.froz1,uG]
   have X:=fun lh sh keep (h:ab lh 9=⟨1,.cells [.i .i64 y.op,.i .i64 y.num,W] 0 true⟩)=>Zw (sh:=sh) (keep:=keep) h yL
   simp only[qA,seval,dn,O1,Gh,ayj,ayk,bO,D,F,V,eW.kept1,aD,lQ,X,aAT,K,ahl,iI,ayo]
   refine⟨_,rfl, ?_, ?_⟩
   ·intro i v hi
    rw[ln]at hi
    cases B3:aM J i with
    |some u=>rw[B3]at hi;cases hi;exact iU i _ B3
    |none=>
     rw[B3]at hi
     simp only at hi
     split at hi
     ·rename_i e;subst e;cases hi;exact rF
     ·cases hi
   ·intro i hi
    rw[ln,fJ i zZ]
    cases aM kn i with
    |some u=>rfl
    |none=>simp only;rw[if_neg zZ]
end
theorem XZ(op num:Int)(h:op=1∨op=2∨op=3∨op=4∨op=5)(a:T):ae pE 107 [.i .i64 op,.i .i64 num,a] []=some (.i .i64 (if op=1∨op=2∨op=3 then num else if op=4 then 1 else 0),[]):=by
 rw[av TG (by simp[pR])]
 rcases h with rfl|rfl|rfl|rfl|rfl <;> simp only[qA,seval,pR,true_or,or_true,or_self]
theorem NW{cl:List Nat→Int×Int}{scope:Int}: ∀{xs:List Ex} {ts:List Int},ku cl scope xs= .ok ts→ ∀(k:Nat) (hk:k<xs.length),∃t,xs[k].ty cl scope=(t,0)
 | [],ts,h,k,hk=>by simp at hk
 |x::xs,ts,h,k,hk=>by
  obtain⟨t,us,rfl,e1,e2⟩:=nW h
  cases k with
  |zero=>grind
  |succ k=>simp_all[NW]
theorem Ji{cl:List Nat→Int×Int}{D:List Nat→Int}(hc:LJ cl D){scope:Int}(F: ∀s,dt scope s=0): ∀{xs:List Ex} {ts:List Int},EW xs=true→ku cl scope xs= .ok ts→vH ts (ft D xs)
 | [],ts,_,h=>by rw[ku]at h;cases h;trivial
 |x::xs,ts,r,h=>by
  obtain⟨t,us,rfl,e1,e2⟩:=nW h
  rw[EW,Bool.and_eq_true]at r
  exact⟨(JY hc scope F x t r.1 e1).2,Ji hc F r.2 e2⟩
theorem DW(l:Cs)(k:Nat): ∀n,n≤k→n≤l.length→iM (l.take k) n=iM l n
 |0,_,_=>rfl
 |n+1,h,hl=>by
  rw[xe l zZ,xe (l.take k) (by rw[List.length_take];omega),DW l k n zZ zZ,List.take_take,Nat.min_eq_left zZ,List.getElem_take]
theorem Mr(l:Cs){k:Nat}(hk:k≤l.length)(x:Ex):cg (l.take k) 0 x=EX (l.take k) (iM l k) x:=by
 grind [cg,EX,List.length_take,Nat.min_eq_left,DW]
section
variable(l:Cs)(lT:T)(cl:List T)(hl:IsSl lT l.length cl)(hcl:cW l cl)(hlen:l.length≤iP)(rZ:ZY l)
theorem aeQ{k:Nat}(hk:k<l.length)(hl:IsSl lT l.length cl)(hcl:cW l cl): ∃ex,lT= .sl cl l.length ex∧IsSl (.sl (List.take (k*5) cl) k (ex&&decide (k=l.length))) k (cl.take (k*5))∧cW (l.take k) (cl.take (k*5))∧cl.length=l.length*5:=by
 rcases hl with⟨_,hz,_⟩|⟨ex,rfl⟩
 ·omega
 ·exact⟨ex,rfl,Or.inr ⟨_,rfl⟩,hcl.take k,hcl.len⟩
end
end Go.Proofs.YtnkgnjecmfkcfaaGreat
