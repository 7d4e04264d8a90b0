/- Walks, plain laws (5). Conditions: the theorems' own. -/
import Derived.Test.YtnkgnjecmfkcfaaGreatM4
set_option maxRecDepth 100000
set_option linter.all false
set_option maxHeartbeats 16000000
namespace Go.Proofs.YtnkgnjecmfkcfaaGreat
open Go Go.Ev
mutual
def Ex.kX:Ex→Int
 | .mk op _ _ args=>if op=1 then 1 else if op=2 then 2 else if op=3 then 3 else if op=7∨op=8∨op=9∨op=12∨op=13 then a0 (kXL args)else if op=14 then a1 (kXL args)
   else if op=10 then max (a0 (kXL args)) (a1 (kXL args))else if op=11 then(if a1 (kXL args)=2 then 1 else a0 (kXL args))else 4
def kXL:List Ex→List Int
 | []=> []
 |x::xs=>x.kX::kXL xs
end
def C7(k n:Int):Prop:=((k=1∨k=2)∧bd n)∨(k=3∧0≤n∧n≤1439)∨(k=4∧bit n)
def acT{k n:Int}(h:C7 k n):bd n:=by
 rcases h with⟨_,h⟩|⟨_,h1,h2⟩|⟨_,h⟩
 ·exact h
 ·unfold bd;omega
 ·exact aq9 h
def Ij{n:Int}(h:C7 4 n):bit n:=by
 rcases h with⟨h|h,_⟩|⟨h,_⟩|⟨_,h⟩
 ·omega
 ·omega
 ·omega
 ·exact h
def zh{k n:Int}(h:k=1∨k=2)(r:bd n):C7 k n:= .inl ⟨h,r⟩
def nc:List Nat→Int×Int:=fun _=>(0,6)
def FK(scope k:Int)(y:Ex):Prop:=y.wf=true∧y.ty nc scope=(k,0)
def Vh(scope:Int):List Int→List Ex→Prop
 | [],[]=>True
 |t::ts,y::r=>FK scope t y∧Vh scope ts r
 |_,_=>False
theorem Vh.wf{scope:Int}: ∀{ts:List Int} {r:List Ex},Vh scope ts r→Hb r=true
 | [],[],_=>rfl
 |t::ts,y::r,h=>by rw[Hb,h.1.1,Vh.wf h.2];rfl
theorem Vh.ty{scope:Int}: ∀{ts:List Int} {r:List Ex},Vh scope ts r→lC nc scope r= .ok ts
 | [],[],_=>by rw[lC]
 |t::ts,y::r,h=>by
  rw[lC,h.1.2,Vh.ty h.2];rfl
theorem FK.mk{scope k:Int}{op:Int}{D:List Ex}{ts:List Int}(h1:1≤op)(h2:op≤22)(h6:op≠6)(F:dQ op D.length=true)(r:Vh scope ts D)(hr:mr op ts=k)(hk:k≠0):FK scope k (.mk op 0 [] D):=by
 constructor
 ·rw[Ex.wf_eq,Bool.and_eq_true]
  refine⟨?_,r.wf⟩
  have H:0≤Fs op:=by unfold Fs;split <;> (try split) <;> decide
  simp only[ri,Bool.and_eq_true,decide_eq_true_eq]
  refine⟨h1,h2,F,⟨Int.le_refl _,H⟩, ?_⟩
  show(if op=6 then Ha []else decide (([]:List Nat)= []))=true
  grind
 ·rw[Ex.ty_eq]
  show(if op=6 then _ else match lC nc scope D with| .error e=>(0,e)| .ok ts=>if mr op ts=0 then(0,9)else(mr op ts,0))=(k,0)
  rw[if_neg h6,r.ty]
  grind
def FK.leaf{scope k op num:Int}(h:(op=1∧k=1∧0≤num∧num≤1099511627776)∨(op=2∧k=2∧0≤num∧num≤1099511627776)∨(op=3∧k=3∧0≤num∧num≤1439)∨(op=4∧k=4∧num=0)∨(op=5∧k=4∧num=0)):FK scope k (iE op num):=by
 have r:(iE op num).wf=ri op num [] 0:=by rw[Ex.wf_eq];simp[iE,Ex.op,Ex.num,Ex.name,Ex.args,Hb]
 have D:op≠6→(iE op num).ty nc scope=if mr op []=0 then(0,9)else(mr op [],0):=fun h6=>by
  grind [Ex.ty_eq,iE,Ex.op,Ex.args,lC]
 constructor
 ·rw[r]
  simp only[ri,Bool.and_eq_true,decide_eq_true_eq]
  rcases h with⟨rfl,rfl,h1,h2⟩|⟨rfl,rfl,h1,h2⟩|⟨rfl,rfl,h1,h2⟩|⟨rfl,rfl,rfl⟩|⟨rfl,rfl,rfl⟩
  ·exact⟨by decide,by decide,rfl,⟨h1,h2⟩,rfl⟩
  ·exact⟨by decide,by decide,rfl,⟨h1,h2⟩,rfl⟩
  ·exact⟨by decide,by decide,rfl,⟨h1,h2⟩,rfl⟩
  ·exact⟨by decide,by decide,rfl,⟨by decide,by decide⟩,rfl⟩
  ·exact⟨by decide,by decide,rfl,⟨by decide,by decide⟩,rfl⟩
 ·rcases h with⟨rfl,rfl,h1,h2⟩|⟨rfl,rfl,h1,h2⟩|⟨rfl,rfl,h1,h2⟩|⟨rfl,rfl,rfl⟩|⟨rfl,rfl,rfl⟩ <;> rw[D zz] <;> rfl
def Ik{scope k n:Int}(h:C7 k n):FK scope k (sX k n)∧isLit (sX k n)=true∧agQ (sX k n)=n:=by
 unfold sX
 rcases h with⟨hk,hb⟩|⟨rfl,h1,h2⟩|⟨rfl,hb⟩
 ·have h4:k≠4:=zV
  have h3:k≠3:=zV
  rw[if_neg h4,if_neg h3]
  unfold bd at hb
  by_cases h0:n<0
  ·rw[if_pos h0]
   rcases hk with rfl|rfl
   ·refine⟨FK.mk (ts:= [1]) zz zz zz rfl ⟨FK.leaf (.inl ⟨rfl,rfl,by omega,by omega⟩),trivial⟩ rfl zz,rfl, ?_⟩
    show- -n=n;omega
   ·refine⟨FK.mk (ts:= [2]) zz zz zz rfl ⟨FK.leaf (.inr (.inl ⟨rfl,rfl,by omega,by omega⟩)),trivial⟩ rfl zz,rfl, ?_⟩
    show- -n=n;omega
  ·rw[if_neg h0]
   rcases hk with rfl|rfl
   ·exact⟨FK.leaf (.inl ⟨rfl,rfl,by omega,by omega⟩),rfl,rfl⟩
   ·exact⟨FK.leaf (.inr (.inl ⟨rfl,rfl,by omega,by omega⟩)),rfl,rfl⟩
 ·rw[if_neg zz,if_pos rfl]
  exact⟨FK.leaf (.inr (.inr (.inl ⟨rfl,rfl,h1,h2⟩))),rfl,rfl⟩
 ·rw[if_pos rfl]
  rcases hb with rfl|rfl
  ·exact⟨FK.leaf (.inr (.inr (.inr (.inr ⟨rfl,rfl,rfl⟩)))),rfl,rfl⟩
  ·exact⟨FK.leaf (.inr (.inr (.inr (.inl ⟨rfl,rfl,rfl⟩)))),rfl,rfl⟩
theorem Il{cl:List Nat→Int×Int}{scope:Int}: ∀{xs:List Ex} {e:Int},lC cl scope xs= .error e→e≠0
 | [],e,h=>by grind [lC]
 |x::xs,e,h=>by
  rw[lC]at h
  split at h
  ·grind
  ·cases hx:lC cl scope xs with
   |error r=>rw[hx]at h;cases h;exact Il hx
   |ok us=>grind
def xq:List Int→List Int→Prop
 | [],[]=>True
 |t::ts,v::r=>C7 t v∧xq ts r
 |_,_=>False
theorem xq.len: ∀{ts r:List Int},xq ts r→ts.length=r.length
 | [],[],_=>rfl
 |t::ts,v::r,h=>by rw[List.length_cons,List.length_cons,xq.len h.2]
theorem xq.bd: ∀{ts r:List Int},xq ts r→ ∀v∈r,bd v
 | [],[],_=>by simp
 |t::ts,v::r,h=>by
  intro w hw
  rcases List.mem_cons.1 hw with rfl|hw
  ·exact acT h.1
  ·exact xq.bd h.2 w hw
theorem xq.all{k:Int}: ∀{ts r:List Int},xq ts r→jb ts k=true→ ∀v∈r,C7 k v
 | [],[],_,_=>by simp
 |t::ts,v::r,h,D=>by
  rw[oR,Bool.and_eq_true,decide_eq_true_eq]at D
  intro w hw
  rcases List.mem_cons.1 hw with rfl|hw
  ·rw[←D.1];exact h.1
  ·exact xq.all h.2 D.2 w hw
theorem OV(op:Int)(h:op=12∨op=13): ∀(r:List Int) (m:Int),bd m→(∀v∈r,bd v)→bd (OT op m r)
 | [],m,D,_=>by rw[Ih];exact D
 |v::r,m,D,F=>by
  rw[Dy _ _ _ _ h]
  refine OV op h r _ ?_ (fun w H=>F w (by simp[H]))
  grind
def k12{ts:List Int}{k:Int}(h:(if jb ts 1=true then(1:Int)else if jb ts 2=true then 2 else 0)=k)(hk:k≠0):k=1∨k=2:=by
 grind
def Mb{op a b k:Int}(h:KB op a b=k)(hk:k≠0):k=1∨k=2:=by
 grind [KB]
def abr{op k:Int}{ts F:List Int}(K:xq ts F)(W:7≤op)(Iz:op≤22)(I:dQ op ts.length=true)(hr:mr op ts=k)(hk:k≠0):vOk op F∧C7 k (DF op F):=by
 have D:=K.bd
 have hlen:=K.len
 have H: ∀b:Bool,C7 4 (fQ b):=fun b=> .inr (.inr ⟨rfl,UL b⟩)
 rcases xl (show 1≤op by omega) Iz with rfl|rfl|rfl|rfl|rfl|rfl|rfl|rfl|rfl|rfl|rfl|rfl|rfl|rfl|rfl|rfl|rfl|rfl|rfl|rfl|rfl|rfl
 iterate 6 ·omega
 ·have IP:=k12 hr hk
  obtain⟨v,rfl⟩:=OL (ts:=F) (by rw[←hlen];simpa[dQ]using I)
  exact⟨⟨D,fun h=>absurd h zz,fun h=>absurd h zz⟩,zh IP (uB (D v yv))⟩
 ·have IP:=k12 hr hk
  obtain⟨v,w,rfl⟩:=oQ (ts:=F) (by rw[←hlen];simpa[dQ]using I)
  exact⟨⟨D,fun h=>absurd h zz,fun h=>absurd h zz⟩,zh IP (sP _)⟩
 ·have IP:=k12 hr hk
  obtain⟨v,w,rfl⟩:=oQ (ts:=F) (by rw[←hlen];simpa[dQ]using I)
  exact⟨⟨D,fun h=>absurd h zz,fun h=>absurd h zz⟩,zh IP (sP _)⟩
 ·have IP:=Mb (op:=10) hr hk
  obtain⟨v,w,rfl⟩:=oQ (ts:=F) (by rw[←hlen];simpa[dQ]using I)
  exact⟨⟨D,fun h=>absurd h zz,fun h=>absurd h zz⟩,zh IP (sP _)⟩
 ·have IP:=Mb (op:=11) hr hk
  obtain⟨v,w,rfl⟩:=oQ (ts:=F) (by rw[←hlen];simpa[dQ]using I)
  exact⟨⟨D,fun h=>absurd h zz,fun h=>absurd h zz⟩,zh IP (air _ _)⟩
 iterate 2
  ·have IP:=k12 hr hk
   match F,D,hlen with
   | [],_,hlen=>rw[hlen]at I;simp[dQ]at I
   |v::F,D,_=>
    refine⟨⟨D,fun h=>absurd h zz,fun h=>absurd h zz⟩,zh IP ?_⟩
    first
     |exact OV 12 (.inl rfl) F v (D v yv) (fun w O=>D w (by simp[O]))
     |exact OV 13 (.inr rfl) F v (D v yv) (fun w O=>D w (by simp[O]))
 ·obtain⟨a,b,c,rfl⟩:=OM (ts:=ts) (by simpa[dQ]using I)
  obtain⟨x,y,z,rfl⟩:=OM (ts:=F) (by rw[←hlen];rfl)
  obtain⟨h1,h2,h3,_⟩:=K
  have r:(if a=4∧b=c then b else 0)=k:=hr
  split at r
  ·rename_i U
   obtain⟨rfl,rfl⟩:=U
   subst r
   have L9:=Ij h1
   refine⟨⟨D,fun h=>absurd h zz,fun _=>L9⟩, ?_⟩
   show C7 b (if x=0 then z else y)
   split
   ·exact h3
   ·exact h2
  ·exact absurd r.symm hk
 ·have r:(if jb ts 3=true then(4:Int)else 0)=k:=hr
  split at r
  ·subst r
   exact⟨⟨D,fun h=>absurd h zz,fun h=>absurd h zz⟩,H _⟩
  ·exact absurd r.symm hk
 iterate 2
  ·have r:(if(a0 ts=1∨a0 ts=2)∧a0 ts=a1 ts then(4:Int)else 0)=k:=hr
   split at r
   ·subst r
    exact⟨⟨D,fun h=>absurd h zz,fun h=>absurd h zz⟩,H _⟩
   ·exact absurd r.symm hk
 ·have r:(if a0 ts=a1 ts then(4:Int)else 0)=k:=hr
  split at r
  ·subst r
   exact⟨⟨D,fun h=>absurd h zz,fun h=>absurd h zz⟩,H _⟩
  ·exact absurd r.symm hk
 ·have r:(if jb ts 4=true then(4:Int)else 0)=k:=hr
  split at r
  ·rename_i V
   subst r
   have J:=fun v N=>Ij (K.all V v N)
   obtain⟨v,rfl⟩:=OL (ts:=F) (by rw[←hlen];simpa[dQ]using I)
   have N:=J v yv
   refine⟨⟨D,fun _=>J,fun h=>absurd h zz⟩,.inr (.inr ⟨rfl, ?_⟩)⟩
   show bit (1-v)
   unfold bit at *; omega
  ·exact absurd r.symm hk
 iterate 3
  ·have r:(if jb ts 4=true then(4:Int)else 0)=k:=hr
   split at r
   ·rename_i V
    subst r
    have J:=fun v N=>Ij (K.all V v N)
    obtain⟨v,w,rfl⟩:=oQ (ts:=F) (by rw[←hlen];simpa[dQ]using I)
    have N:=J v yv
    have O:=J w yv
    refine⟨⟨D,fun _=>J,fun h=>absurd h zz⟩,.inr (.inr ⟨rfl, ?_⟩)⟩
    first
     |(show bit (min v w);unfold bit at *; omega)
     |(show bit (max v w);unfold bit at *; omega)
     |(show bit (max (1-v) w);unfold bit at *; omega)
   ·exact absurd r.symm hk
theorem Ex.fold_eq(cl:List Nat→Int×Int)(cx:List Nat→Ex)(scope:Int)(x:Ex):x.fold cl cx scope=
  if x.op=6 then(if dI scope x.name≠0 then x else cx x.name)
  else if x.args.isEmpty then x
  else if(nk cl cx scope x.args).all isLit then sX (x.ty cl scope).1 (DF x.op ((nk cl cx scope x.args).map agQ))
  else aBA x.op (nk cl cx scope x.args):=by obtain⟨_,_,_,_⟩:=x;rw[Ex.fold];rfl
def xb{cl:List Nat→Int×Int}{scope k:Int}{x:Ex}(r:x.ty cl scope=(k,0))(h6:x.op≠6): ∃ts,lC cl scope x.args= .ok ts∧mr x.op ts=k∧k≠0:=by
 rw[Ex.ty_eq,if_neg h6]at r
 cases hr:lC cl scope x.args with
 |error e=>
  rw[hr]at r
  have D:((0:Int),e)=(k,0):=r
  injection D with _ h0
  exact absurd h0 (Il hr)
 |ok ts=>
  grind
def oU{cl:List Nat→Int×Int}{scope:Int}{x:Ex}{xs:List Ex}{ts:List Int}(h:lC cl scope (x::xs)= .ok ts): ∃t us,ts=t::us∧x.ty cl scope=(t,0)∧lC cl scope xs= .ok us:=by
 grind [lC]
def wY{x:Ex}(h:x.wf=true):1≤x.op∧x.op≤22∧dQ x.op x.args.length=true∧(0≤x.num∧x.num≤Fs x.op)∧(if x.op=6 then Ha x.name=true else x.name= [])∧Hb x.args=true:=by
 simp_all[Ex.wf_eq,Bool.and_eq_true,ri]
def arc{op:Int}{n:Nat}(h1:1≤op)(r:dQ op n=true)(D:n≠0):7≤op:=by
 grind [dQ]
def ait{op:Int}{n:Nat}(h2:op≤22)(r:dQ op n=true)(D:n=0):op≤6:=by
 grind [dQ]
mutual
def Ex.val0(r:List Nat→Int):Ex→Int
 | .mk op num name args=>if op=6 then r name else if op=1∨op=2∨op=3 then num else if op=4 then 1 else if op=5 then 0 else DF op (fL r args)
def fL(r:List Nat→Int):List Ex→List Int
 | []=> []
 |x::xs=>x.val0 r::fL r xs
end
theorem Ex.val0_eq(r:List Nat→Int)(x:Ex):x.val0 r=if x.op=6 then r x.name else if x.op=1∨x.op=2∨x.op=3 then x.num else if x.op=4 then 1 else if x.op=5 then 0 else DF x.op (fL r x.args):=by obtain⟨_,_,_,_⟩:=x;rw[Ex.val0];rfl
theorem yL(r:List Nat→Int): ∀xs,fL r xs=xs.map (Ex.val0 r)
 | []=>rfl
 |x::xs=>by rw[fL,yL r xs];rfl
def cxv(cl:List Nat→Int×Int)(r:List Nat→Int)(s:List Nat):Ex:=sX (cl s).1 (r s)
def NZ(cl:List Nat→Int×Int)(r:List Nat→Int):Prop:= ∀s t,cl s=(t,0)→C7 t (r s)
theorem acU{cl:List Nat→Int×Int}{scope:Int}{x:Ex}{k:Int}(AR:x.wf=true)(D:x.ty cl scope=(k,0))(h6:x.op≠6)(r:x.args= []):x=sX k (if x.op=1∨x.op=2∨x.op=3 then x.num else if x.op=4 then 1 else 0)∧C7 k (if x.op=1∨x.op=2∨x.op=3 then x.num else if x.op=4 then 1 else 0)∧x.op≤5:=by
 obtain⟨h1,h2,I,Ej,H,Ae⟩:=wY AR
 have h5:x.op≤6:=ait h2 I (by rw[r];rfl)
 rw[Ex.ty_eq,if_neg h6,r,lC]at D
 rw[if_neg h6]at H
 obtain⟨op,num,name,args⟩:=x
 simp only[Ex.op,Ex.num,Ex.name,Ex.args]at*
 subst H r
 have F:op=1∨op=2∨op=3∨op=4∨op=5:=zV
 rcases F with rfl|rfl|rfl|rfl|rfl
 all_goals
  simp[mr]at D
  subst D
  simp[Fs]at Ej
 ·refine⟨?_,.inl ⟨.inl rfl, ?_⟩,by decide⟩
  ·simp[sX,iE];omega
  ·simp[bd];omega
 ·refine⟨?_,.inl ⟨.inr rfl, ?_⟩,by decide⟩
  ·simp[sX,iE];omega
  ·simp[bd];omega
 ·refine⟨?_,.inr (.inl ⟨rfl, ?_⟩),by decide⟩
  ·simp[sX,iE]
  ·simpa using Ej
 ·refine⟨?_,.inr (.inr ⟨rfl,.inr rfl⟩),by decide⟩
  simp[sX,iE];omega
 ·refine⟨?_,.inr (.inr ⟨rfl,.inl rfl⟩),by decide⟩
  simp[sX,iE];omega
theorem Mc{cl:List Nat→Int×Int}{D:List Nat→Int}(hc:NZ cl D)(scope:Int)(O: ∀s,dI scope s=0)(x:Ex): ∀k,x.wf=true→x.ty cl scope=(k,0)→x.fold cl (cxv cl D) scope=sX k (x.val0 D)∧C7 k (x.val0 D):=by
 induction x using Ex.ind with
 |h x ih=>
  intro k AR F
  obtain⟨h1,h2,I,Ej,V,Ae⟩:=wY AR
  rw[Ex.fold_eq,Ex.val0_eq]
  by_cases h6:x.op=6
  ·rw[if_pos h6,if_pos h6]
   rw[Ex.ty_eq,if_pos h6,if_neg (by simp[O])]at F
   rw[if_neg (by simp[O])]
   exact⟨by unfold cxv;rw[F],hc _ _ F⟩
  rw[if_neg h6,if_neg h6]
  by_cases J:x.args.isEmpty=true
  ·grind [acU]
  ·rw[if_neg J]
   have H:x.args.length≠0:=by
    intro h;exact J (by simp[List.length_eq_zero_iff.1 h])
   have W:=arc h1 I H
   obtain⟨ts,r,hr,hk⟩:=xb F h6
   have K:xq ts (fL D x.args)∧(nk cl (cxv cl D) scope x.args).all isLit=true∧(nk cl (cxv cl D) scope x.args).map agQ=fL D x.args:=by
    clear F I H J hr AR Ej V
    generalize x.args=xs at ih r Ae
    induction xs generalizing ts with
    |nil=>rw[lC]at r;cases r;exact⟨trivial,rfl,rfl⟩
    |cons z zs N=>
     obtain⟨t,us,rfl,e1,e2⟩:=oU r
     rw[Hb,Bool.and_eq_true]at Ae
     obtain⟨X,U⟩:=ih z yv t Ae.1 e1
     obtain⟨Y,Z,g3⟩:=N us (fun y hy=>ih y (by simp[hy])) e2 Ae.2
     rw[nk,fL,X]
     obtain⟨_,q1,q2⟩:=Ik (scope:=scope) U
     refine⟨⟨U,Y⟩, ?_, ?_⟩
     ·rw[List.all_cons,q1,Z];rfl
     ·rw[List.map_cons,q2,g3]
   obtain⟨i1,i2,i3⟩:=K
   have hlen:ts.length=x.args.length:=xc r
   rw[if_pos i2,i3,F,if_neg zV,if_neg zV,if_neg zV]
   exact⟨rfl,(abr i1 W h2 (by rw[hlen];exact I) hr hk).2⟩
def vxk(l:Cs)(r:List Int)(s:List Nat):Int:=match fu l s with
 |none=>0
 |some i=>r.getD i 0
def tE(l:Cs):Nat→List Int
 |0=> []
 |n+1=>tE l n++ [if(Hc (l.take n) (ju l n) (l.getD n ([],.mk 0 0 [] [])).2).2=0 then(l.getD n ([],.mk 0 0 [] [])).2.val0 (vxk (l.take n) (tE l n))else 0]
theorem lR(l:Cs): ∀n,(tE l n).length=n
 |0=>rfl
 |n+1=>by rw[tE,List.length_append,lR l n];rfl
theorem acV(l:Cs){n:Nat}(h:n<l.length):tE l (n+1)=tE l n++ [if(Hc (l.take n) (ju l n) l[n].2).2=0 then l[n].2.val0 (vxk (l.take n) (tE l n))else 0]:=by
 rw[tE,List.getD_eq_getElem?_getD,List.getElem?_eq_getElem h];rfl
theorem Rx(l:Cs)(n:Nat): ∀k,∃r,tE l (n+k)=tE l n++r
 |0=>⟨[],by simp⟩
 |k+1=>by
  obtain⟨r,h⟩:=Rx l n k
  grind [Nat.add_assoc,tE]
theorem Ry(l:Cs){n i:Nat}(D:n≤l.length)(hi:i<n):(tE l n).getD i 0=(tE l l.length).getD i 0:=by
 obtain⟨r,h⟩:=Rx l n (l.length-n)
 grind [lR,hi]
def CL(l:Cs)(n:Nat):List Nat→Int×Int:=clk (l.take n) (ju l n)
def VX(l:Cs)(n:Nat):List Nat→Int:=vxk (l.take n) (tE l n)
def He(l:Cs):List Nat→Int×Int:=clk l (ju l l.length)
def fI(l:Cs):List Nat→Int:=vxk l (tE l l.length)
theorem yC(l:Cs):CL l l.length=He l:=by grind [CL,He]
theorem abp(l:Cs):VX l l.length=fI l:=by grind [VX,fI]
theorem wZ{l:Cs}{n:Nat}(J:n≤l.length){s:List Nat}{t:Int}(h:CL l n s=(t,0)): ∃i,∃hi:i<l.length,i<n∧fu l s=some i∧bM l[i].2=0∧l[i].2.ty (CL l i) 0=(t,0)∧He l s=(t,0)∧VX l n s=l[i].2.val0 (VX l i)∧fI l s=l[i].2.val0 (VX l i)∧tj l i=(t,0):=by
 unfold CL clk at h
 rw[yX]at h
 cases D:fu l s with
 |none=>grind
 |some i=>
  rw[D]at h
  simp only at h
  by_cases hi:i<n
  ·rw[if_pos hi]at h
   simp only at h
   have H:i<l.length:=Rq D
   rw[Dw l J hi]at h
   have r:tj l i=(t,0):=h
   have I:=r
   rw[H9 l H]at r
   have DX:=r
   unfold Hc at r
   by_cases F:bM l[i].2≠0
   ·rw[if_pos F]at r;injection r with _ r;exact absurd r F
   ·rw[if_neg F]at r
    have K:(tE l l.length).getD i 0=l[i].2.val0 (VX l i):=by
     rw[←Ry l (n:=i+1) zV zV,acV l H,List.getD_eq_getElem?_getD,List.getElem?_append_right (by rw[lR];omega),lR,Nat.sub_self,DX]
     rfl
    refine⟨i,H,hi,rfl,by simpa using F,r, ?_, ?_, ?_,I⟩
    ·unfold He clk;rw[D];exact h
    ·unfold VX vxk
     rw[yX,D]
     simp only[if_pos hi]
     rw[Ry l J hi,K];rfl
    ·unfold fI vxk;rw[D];exact K
  ·grind
theorem ki(s:List Nat):dI 0 s=0:=by unfold dI;rfl
theorem amf(l:Cs): ∀n,n≤l.length→NZ (CL l n) (VX l n):=by
 intro n
 induction n using Nat.strongRecOn with
 |ind n ih=>
  intro r s t hs
  obtain⟨i,H,hi,_,D,F,_,e,_⟩:=wZ r hs
  rw[e]
  exact(Mc (ih i hi zV) 0 (fun s=>ki s) l[i].2 t (iG D) F).2
def Hs(l:Cs):NZ (He l) (fI l):=by
 have:=amf l l.length (Nat.le_refl _)
 rwa [yC,abp]at this
def fold_congr{cl FX:List Nat→Int×Int}{cx D:List Nat→Ex}(scope:Int)(hc: ∀s t,cl s=(t,0)→FX s=(t,0)∧D s=cx s)(x:Ex): ∀k,x.ty cl scope=(k,0)→x.ty FX scope=(k,0)∧x.fold FX D scope=x.fold cl cx scope:=by
 induction x using Ex.ind with
 |h x ih=>
  intro k H
  by_cases h6:x.op=6
  ·grind [Ex.ty_eq,Ex.fold_eq]
  ·obtain⟨ts,r,hr,hk⟩:=xb H h6
   have hl:lC FX scope x.args= .ok ts∧nk FX D scope x.args=nk cl cx scope x.args:=by
    clear H hr
    generalize x.args=xs at ih r
    induction xs generalizing ts with
    |nil=>rw[lC]at r;cases r;exact⟨rfl,rfl⟩
    |cons z U F=>
     obtain⟨t,us,rfl,e1,e2⟩:=oU r
     obtain⟨I,J⟩:=ih z yv t e1
     obtain⟨K,N⟩:=F us (fun y O=>ih y (by simp[O])) e2
     rw[lC,nk,nk,I,K,J,N]
     exact⟨rfl,rfl⟩
   grind [Ex.ty_eq,Ex.fold_eq]
def aDp{l:Cs}{n:Nat}(r:n≤l.length): ∀s t,CL l n s=(t,0)→He l s=(t,0)∧cxv (He l) (fI l) s=cxv (CL l n) (VX l n) s:=fun s t hs=>by
 grind [cxv,wZ]
def acW(l:Cs)(scope:Int)(x:Ex):Ex:=x.fold (He l) (cxv (He l) (fI l)) scope
def Md{l:Cs}{s:List Nat}{t:Int}(h:He l s=(t,0)): ∃i,∃hi:i<l.length,fu l s=some i∧bM l[i].2=0∧l[i].2.ty (CL l i) 0=(t,0)∧l[i].2.ty (He l) 0=(t,0)∧acW l 0 l[i].2=sX t (fI l s)∧C7 t (fI l s)∧tj l i=(t,0)∧fI l s=(tE l l.length).getD i 0:=by
 have F:=h
 rw[←yC]at F
 obtain⟨i,r,hi,H,I,D,J,e1,e2,e3⟩:=wZ (Nat.le_refl _) F
 obtain⟨c1,c2⟩:=fold_congr 0 (aDp (Nat.le_of_lt r)) l[i].2 t D
 refine⟨i,r,H,I,D,c1, ?_,Hs l s t h,e3, ?_⟩
 ·unfold acW
  rw[c2,(Mc (amf l i (Nat.le_of_lt r)) 0 (fun s=>ki s) l[i].2 t (iG I) D).1,e2]
 ·unfold fI vxk;rw[H]
def dU(ns:List (List Nat))(i:Nat):List (List Nat×Nat):=(ns.take i).zipIdx
theorem acX{ns:List (List Nat)}{i:Nat}(hi:i<ns.length):dU ns (i+1)=dU ns i++ [(ns[i],i)]:=by
 unfold dU
 rw[List.take_succ_eq_append_getElem hi,List.zipIdx_append]
 simp[List.length_take,Nat.min_eq_left (Nat.le_of_lt hi)]
def acY{ns:List (List Nat)}(D:ns.Nodup){i:Nat}(hi:i<ns.length):aP (dU ns i) ns[i]=none:=by
 have F: ∀(m:List (List Nat×Nat)) (s:List Nat),(∀p∈m,p.1≠s)→aP m s=none:=by
  intro m s h
  induction m with
  |nil=>rfl
  |cons p m ih=>
   rw[aP,if_neg (fun e=>h p (List.mem_cons_self ..) e.symm)]
   exact ih fun q I=>h q (List.mem_cons_of_mem _ I)
 refine F _ _ fun p J e=> ?_
 have H:p.1∈ns.take i:=List.fst_mem_of_mem_zipIdx J
 rw[e]at H
 obtain⟨j,K,r⟩:=List.getElem_of_mem H
 rw[List.length_take]at K
 rw[List.getElem_take]at r
 exact List.pairwise_iff_getElem.1 D j i zV hi zV r
def kV(lT:T)(m:List (List Nat×Nat))(kn:List (Nat×Int))(c0 c1 c2 c3:T)(ms:List (List (List Nat×Nat))):List ah:=
 ⟨1,.map (m.map fun p=>sK p.1) (m.map fun p=>nK p.2) false⟩::⟨1,.map (kn.map fun p=>nK p.1) (kn.map fun p=>iV p.2) false⟩::⟨1,.cells [lT,.mp .S 0 1,.mp .S 1 1,c0,c1,c2,c3] 0 true⟩::ms.map fun p=>⟨1,.map (p.map fun p=>sK p.1) (p.map fun p=>nK p.2) false⟩
section
variable(lT:T)(m:List (List Nat×Nat))(kn:List (Nat×Int))(c0 c1 c2 c3:T)(ms:List (List (List Nat×Nat)))
theorem cp0:aI (kV lT m kn c0 c1 c2 c3 ms) 0=⟨1,.map (m.map fun p=>sK p.1) (m.map fun p=>nK p.2) false⟩:=nr rfl
theorem cp2:aI (kV lT m kn c0 c1 c2 c3 ms) 2=⟨1,.cells [lT,.mp .S 0 1,.mp .S 1 1,c0,c1,c2,c3] 0 true⟩:=nr rfl
theorem aJ7(r:List (List Nat×Nat)):bI (kV lT m kn c0 c1 c2 c3 ms) 0 ⟨1,.map (r.map fun p=>sK p.1) (r.map fun p=>nK p.2) false⟩=kV lT r kn c0 c1 c2 c3 ms:=nr rfl
theorem aiu(r D F H:T):bI (kV lT m kn c0 c1 c2 c3 ms) 2 ⟨1,.cells [lT,.mp .S 0 1,.mp .S 1 1,r,D,F,H] 0 true⟩=kV lT m kn r D F H ms:=nr rfl
theorem aDq:kV lT [] [] .nilmp .nilmp .nilmp .nilmp []= [⟨1,.map [] [] false⟩,⟨1,.map [] [] false⟩,⟨1,.cells [lT,.mp .S 0 1,.mp .S 1 1,.nilmp,.nilmp,.nilmp,.nilmp] 0 true⟩]:=nr rfl
end
section
variable(l:Cs)(lT:T)(cl:List T)(hl:IsSl lT l.length cl)(hcl:dc l cl)(hlen:l.length≤jA)
include hl hcl hlen
def aJ8(fr:Fr)(lh:aE ah)(sh:List ah)(V:sh=kV lT [] [] .nilmp .nilmp .nilmp .nilmp [])
  (h3:aa fr 3= .ptr .S 2 1 0) (F:aa fr 16=lT) (D:aa fr 17= qi (l.length:Int)) (H:aa fr 18= qi 0):
  qz 71 tO fr lh sh (.ext 0)∧
  (je pE 71 tO fr lh sh=kV lT (bE l l.length) [] .nilmp .nilmp .nilmp .nilmp []):=by
 refine cq (P:=fun Y aN W=>W=kV lT (bE l l.length) [] .nilmp .nilmp .nilmp .nilmp [])
  (cY (fun k st=> ∃(fr:Fr) (N:aE ah),st=⟨fr,N,kV lT (bE l k) [] .nilmp .nilmp .nilmp .nilmp []⟩∧aa fr 3= .ptr .S 2 1 0∧aa fr 16=lT∧aa fr 17= qi (l.length:Int)∧aa fr 18= qi (k:Int)) _ l.length ?_ ?_ 0 _ (Nat.zero_le _) ⟨fr,lh,by rw[V];rfl,h3,F,D,H⟩)
 ·rintro k _ hk ⟨fr,N,rfl,h3,F,D,H⟩
  left
  have J:(k:Int)<l.length:=zV
  have U:=bn (k:=k) zV
  obtain⟨b,Z,r,K,fg,sH,hb⟩:=gv hl hcl k hk
  have I:=lkS (bE l k) l[k].1
  rw[ze l hk]
  cases O:aP (bE l k) l[k].1 with
  |some i=>
   rw[O]at I
   unfold Vg at I
   simp only[qA,seval,bg,aH,dA,tO,h3,F,D,H,J,K,U,cp2,cp0,bZ,I]
   refine⟨_,rfl,_,_,rfl, ?_, ?_, ?_, ?_⟩ <;> simp only[qA,seval,h3,F,D]
  |none=>
   rw[O]at I
   unfold Vg at I
   have X:l8 (.one .str) (.s l[k].1) (qi (k:Int)) ((bE l k).map fun p=>sK p.1) ((bE l k).map fun p=>nK p.2)=_:=wz (kT:=sK) (vT:=nK) D7 (bE l k) l[k].1 k O
   simp only[qA,seval,bg,aH,dA,tO,h3,F,D,H,J,K,U,cp2,cp0,bZ,I,zP,X,aJ7]
   refine⟨_,rfl,_,_,rfl, ?_, ?_, ?_, ?_⟩ <;> simp only[qA,seval,h3,F,D]
 ·rintro _ ⟨fr,N,rfl,h3,F,D,H⟩
  simp only[qA,seval,tO,D,H,Int.lt_irrefl]
  exact⟨_,_,tS,rfl,rfl,rfl⟩
end
def U9(scope:Int):List (List Nat):=if scope=1 then bC else if scope=2 then ev else if scope=3 then kI else []
theorem aJ9:ae pE 79 [qi 1] []=some (.sl (strs bC) 11 true,[]):=cK (m:=100) (cI (by kernel_rfl))
theorem aKa:ae pE 79 [qi 2] []=some (.sl (strs ev) 25 false,[]):=cK (m:=100) (cI (by kernel_rfl))
theorem aKb:ae pE 79 [qi 3] []=some (.sl (strs kI) 7 true,[]):=cK (m:=100) (cI (by kernel_rfl))
theorem aKc:ae pE 79 [qi 0] []=some (.nilsl,[]):=cK (m:=100) (cI (by kernel_rfl))
def Lm:bC.Nodup:=by decide+kernel
def acZ:ev.Nodup:=by decide+kernel
def ac0:kI.Nodup:=by decide+kernel
theorem F6{α:Type}(d:α): ∀(l:List α) (x:α),nI d l l.length x=l++ [x]
 | [],x=>rfl
 |a::l,x=>by rw[List.length_cons,nI,F6 d l x];rfl
theorem Me{α:Type}(d:α): ∀(l:List α) (x y:α),nI d (l++ [x]) l.length y=l++ [y]
 | [],x,y=>rfl
 |a::l,x,y=>by rw[List.cons_append,List.length_cons,nI,Me d l x y];rfl
section
variable(lT:T)(m:List (List Nat×Nat))(kn:List (Nat×Int))(c0 c1 c2 c3:T)(ms:List (List (List Nat×Nat)))
def cpL:(kV lT m kn c0 c1 c2 c3 ms).length=ms.length+3:=by unfold kV;simp
def cpA:bI (kV lT m kn c0 c1 c2 c3 ms) (ms.length+3) ⟨1,.map [] [] false⟩=kV lT m kn c0 c1 c2 c3 (ms++ [[]]):=by
 grind [kV,bI,nI,List.length_map,F6]
theorem cpq(p:List (List Nat×Nat)):aI (kV lT m kn c0 c1 c2 c3 (ms++ [p])) (ms.length+3)=⟨1,.map (p.map fun p=>sK p.1) (p.map fun p=>nK p.2) false⟩:=by
 grind [kV,aI,aH,List.length_map,sv]
theorem aKd(p q:List (List Nat×Nat)):bI (kV lT m kn c0 c1 c2 c3 (ms++ [p])) (ms.length+3) ⟨1,.map (q.map fun p=>sK p.1) (q.map fun p=>nK p.2) false⟩=kV lT m kn c0 c1 c2 c3 (ms++ [q]):=by
 grind [kV,bI,nI,List.length_map,Me]
def Im(D:Nat)(hc:(D=0∧c0= .mp .S (ms.length+3) 1)∨(D=1∧c1= .mp .S (ms.length+3) 1)∨(D=2∧c2= .mp .S (ms.length+3) 1)∨(D=3∧c3= .mp .S (ms.length+3) 1))(ns:List (List Nat))(H:ns.Nodup)(X:ns.length≤100)(v:T)(N:IsSl v ns.length (strs ns))(fr:Fr)(lh:aE ah)(sh:List ah)(O:sh=kV lT m kn c0 c1 c2 c3 (ms++ [[]]))
  (h3:aa fr 3= .ptr .S 2 1 0) (F:aa fr 8= qi (D:Int)) (Fx:aa fr 53=v) (IA:aa fr 54= qi (ns.length:Int)) (r:aa fr 55= qi 0):
  qz 71 xT fr lh sh (.ext 4)∧
  (je pE 71 xT fr lh sh=kV lT m kn c0 c1 c2 c3 (ms++ [dU ns ns.length])):=by
 refine cq (P:=fun Y aN U=>U=kV lT m kn c0 c1 c2 c3 (ms++ [dU ns ns.length]))
  (cY (fun k st=> ∃(fr:Fr) (I:aE ah),st=⟨fr,I,kV lT m kn c0 c1 c2 c3 (ms++ [dU ns k])⟩∧aa fr 3= .ptr .S 2 1 0∧aa fr 8= qi (D:Int)∧aa fr 53=v∧aa fr 54= qi (ns.length:Int)∧aa fr 55= qi (k:Int)) _ ns.length ?_ ?_ 0 _ (Nat.zero_le _) ⟨fr,lh,by rw[O];rfl,h3,F,Fx,IA,r⟩)
 ·rintro k _ hk ⟨fr,I,rfl,h3,F,Fx,IA,r⟩
  left
  have J:(k:Int)<ns.length:=zV
  have V:=aF (k:=k) zV
  have K: ∀kk,iaV v (.i kk (k:Int)) 1=some (.vp (T.s ns[k]::(strs ns).drop (k+1))):=fun kk=>by rw[N.ia (sz:=1) (by rw[CE];omega) hk,Nat.mul_one,Fq ns k hk]
  have W:l8 (.one .str) (.s ns[k]) (qi (k:Int)) ((dU ns k).map fun p=>sK p.1) ((dU ns k).map fun p=>nK p.2)=_:=wz (kT:=sK) (vT:=nK) D7 (dU ns k) ns[k] k (acY H hk)
  rw[acX hk]
  rcases hc with⟨rfl,hc⟩|⟨rfl,hc⟩|⟨rfl,hc⟩|⟨rfl,hc⟩ <;>
  (simp only[qA,seval,eY,dA,xT,h3,F,Fx,IA,r,J,K,V,cp2,hc,cpq,zP,W,aKd]
   refine⟨_,rfl,_,_,rfl, ?_, ?_, ?_, ?_, ?_⟩ <;> simp only[qA,seval,h3,F,Fx,IA])
 ·rintro _ ⟨fr,I,rfl,h3,F,Fx,IA,r⟩
  simp only[qA,seval,xT,IA,r,Int.lt_irrefl]
  grind
end
def Hj(lT:T)(m:List (List Nat×Nat))(kn:List (Nat×Int)):Nat→List ah
 |0=>kV lT m kn .nilmp .nilmp .nilmp .nilmp []
 |1=>kV lT m kn (.mp .S 3 1) .nilmp .nilmp .nilmp [dU [] 0]
 |2=>kV lT m kn (.mp .S 3 1) (.mp .S 4 1) .nilmp .nilmp [dU [] 0,dU bC 11]
 |3=>kV lT m kn (.mp .S 3 1) (.mp .S 4 1) (.mp .S 5 1) .nilmp [dU [] 0,dU bC 11,dU ev 25]
 |_=>kV lT m kn (.mp .S 3 1) (.mp .S 4 1) (.mp .S 5 1) (.mp .S 6 1) [dU [] 0,dU bC 11,dU ev 25,dU kI 7]
def arf(lT:T)(m:List (List Nat×Nat))(kn:List (Nat×Int))(fr:Fr)(lh:aE ah)(h3:aa fr 3= .ptr .S 2 1 0)(My:aa fr 43= qi 0):
  ∃r aN,DC pE 71 jP ⟨fr,lh,Hj lT m kn 0⟩=some (.nrm,⟨r,aN,Hj lT m kn 1⟩)∧aa r 3= .ptr .S 2 1 0∧aa r 43= qi 1:=by
 have F:bI (kV lT m kn .nilmp .nilmp .nilmp .nilmp []) 3 ⟨1,.map [] [] false⟩=kV lT m kn .nilmp .nilmp .nilmp .nilmp [[]]:=cpA lT m kn .nilmp .nilmp .nilmp .nilmp []
 have gG:(kV lT m kn .nilmp .nilmp .nilmp .nilmp []).length=3:=cpL lT m kn .nilmp .nilmp .nilmp .nilmp []
 have D:=fun fr lh sh h1 h2 h3 h4 h5 h6=>Im lT m kn (.mp .S 3 1) .nilmp .nilmp .nilmp [] 0 yv [] List.nodup_nil zz .nilsl (Or.inl ⟨rfl,rfl,rfl⟩) fr lh sh h1 h2 h3 h4 h5 h6
 change ∀fr lh sh,sh=kV lT m kn (.mp .S 3 1) .nilmp .nilmp .nilmp [[]]→aa fr 3= .ptr .S 2 1 0→aa fr 8= qi 0→aa fr 53= .nilsl→aa fr 54= qi 0→aa fr 55= qi 0→_ at D
 have H:=fun lh=>iQ (lh:=lh) (sh:=kV lT m kn .nilmp .nilmp .nilmp .nilmp [[]]) (k:=2) (g:=1) (off:=3) (m:=1) (v:= .mp .S 3 1) wv (cp2 lT m kn .nilmp .nilmp .nilmp .nilmp [[]])
 unfold Hj
 simp only[qA,seval,eY,eO,jP,ko,h3,My,gG,F,H,aiu,aKc,aef,D]
 first|done|refine⟨_,_,rfl, ?_, ?_⟩ <;> simp only[qA,seval,h3,ko]
def arh(lT:T)(m:List (List Nat×Nat))(kn:List (Nat×Int))(fr:Fr)(lh:aE ah)(h3:aa fr 3= .ptr .S 2 1 0)(My:aa fr 43= qi 1):
  ∃r aN,DC pE 71 jP ⟨fr,lh,Hj lT m kn 1⟩=some (.nrm,⟨r,aN,Hj lT m kn 2⟩)∧aa r 3= .ptr .S 2 1 0∧aa r 43= qi 2:=by
 have F:bI (kV lT m kn (.mp .S 3 1) .nilmp .nilmp .nilmp [dU [] 0]) 4 ⟨1,.map [] [] false⟩=kV lT m kn (.mp .S 3 1) .nilmp .nilmp .nilmp [dU [] 0,[]]:=cpA lT m kn (.mp .S 3 1) .nilmp .nilmp .nilmp [dU [] 0]
 have gG:(kV lT m kn (.mp .S 3 1) .nilmp .nilmp .nilmp [dU [] 0]).length=4:=cpL lT m kn (.mp .S 3 1) .nilmp .nilmp .nilmp [dU [] 0]
 have D:=fun fr lh sh h1 h2 h3 h4 h5 h6=>Im lT m kn (.mp .S 3 1) (.mp .S 4 1) .nilmp .nilmp [dU [] 0] 1 yv bC Lm zz (.sl (strs bC) 11 true) (Or.inr ⟨true,rfl⟩) fr lh sh h1 h2 h3 h4 h5 h6
 change ∀fr lh sh,sh=kV lT m kn (.mp .S 3 1) (.mp .S 4 1) .nilmp .nilmp [dU [] 0,[]]→aa fr 3= .ptr .S 2 1 0→aa fr 8= qi 1→aa fr 53=(.sl (strs bC) 11 true)→aa fr 54= qi 11→aa fr 55= qi 0→_ at D
 have H:=fun lh=>iQ (lh:=lh) (sh:=kV lT m kn (.mp .S 3 1) .nilmp .nilmp .nilmp [dU [] 0,[]]) (k:=2) (g:=1) (off:=4) (m:=1) (v:= .mp .S 4 1) wv (cp2 lT m kn (.mp .S 3 1) .nilmp .nilmp .nilmp [dU [] 0,[]])
 unfold Hj
 simp only[qA,seval,eY,eO,jP,ko,h3,My,gG,F,H,aiu,aJ9,aef,D]
 first|done|refine⟨_,_,rfl, ?_, ?_⟩ <;> simp only[qA,seval,h3,ko]
def ari(lT:T)(m:List (List Nat×Nat))(kn:List (Nat×Int))(fr:Fr)(lh:aE ah)(h3:aa fr 3= .ptr .S 2 1 0)(My:aa fr 43= qi 2):
  ∃r aN,DC pE 71 jP ⟨fr,lh,Hj lT m kn 2⟩=some (.nrm,⟨r,aN,Hj lT m kn 3⟩)∧aa r 3= .ptr .S 2 1 0∧aa r 43= qi 3:=by
 have F:bI (kV lT m kn (.mp .S 3 1) (.mp .S 4 1) .nilmp .nilmp [dU [] 0,dU bC 11]) 5 ⟨1,.map [] [] false⟩=kV lT m kn (.mp .S 3 1) (.mp .S 4 1) .nilmp .nilmp [dU [] 0,dU bC 11,[]]:=cpA lT m kn (.mp .S 3 1) (.mp .S 4 1) .nilmp .nilmp [dU [] 0,dU bC 11]
 have gG:(kV lT m kn (.mp .S 3 1) (.mp .S 4 1) .nilmp .nilmp [dU [] 0,dU bC 11]).length=5:=cpL lT m kn (.mp .S 3 1) (.mp .S 4 1) .nilmp .nilmp [dU [] 0,dU bC 11]
 have D:=fun fr lh sh h1 h2 h3 h4 h5 h6=>Im lT m kn (.mp .S 3 1) (.mp .S 4 1) (.mp .S 5 1) .nilmp [dU [] 0,dU bC 11] 2 yv ev acZ zz (.sl (strs ev) 25 false) (Or.inr ⟨false,rfl⟩) fr lh sh h1 h2 h3 h4 h5 h6
 change ∀fr lh sh,sh=kV lT m kn (.mp .S 3 1) (.mp .S 4 1) (.mp .S 5 1) .nilmp [dU [] 0,dU bC 11,[]]→aa fr 3= .ptr .S 2 1 0→aa fr 8= qi 2→aa fr 53=(.sl (strs ev) 25 false)→aa fr 54= qi 25→aa fr 55= qi 0→_ at D
 have H:=fun lh=>iQ (lh:=lh) (sh:=kV lT m kn (.mp .S 3 1) (.mp .S 4 1) .nilmp .nilmp [dU [] 0,dU bC 11,[]]) (k:=2) (g:=1) (off:=5) (m:=1) (v:= .mp .S 5 1) wv (cp2 lT m kn (.mp .S 3 1) (.mp .S 4 1) .nilmp .nilmp [dU [] 0,dU bC 11,[]])
 unfold Hj
 simp only[qA,seval,eY,eO,jP,ko,h3,My,gG,F,H,aiu,aKa,aef,D]
 first|done|refine⟨_,_,rfl, ?_, ?_⟩ <;> simp only[qA,seval,h3,ko]
def arj(lT:T)(m:List (List Nat×Nat))(kn:List (Nat×Int))(fr:Fr)(lh:aE ah)(h3:aa fr 3= .ptr .S 2 1 0)(My:aa fr 43= qi 3):
  ∃r aN,DC pE 71 jP ⟨fr,lh,Hj lT m kn 3⟩=some (.nrm,⟨r,aN,Hj lT m kn 4⟩)∧aa r 3= .ptr .S 2 1 0∧aa r 43= qi 4:=by
 have F:bI (kV lT m kn (.mp .S 3 1) (.mp .S 4 1) (.mp .S 5 1) .nilmp [dU [] 0,dU bC 11,dU ev 25]) 6 ⟨1,.map [] [] false⟩=kV lT m kn (.mp .S 3 1) (.mp .S 4 1) (.mp .S 5 1) .nilmp [dU [] 0,dU bC 11,dU ev 25,[]]:=cpA lT m kn (.mp .S 3 1) (.mp .S 4 1) (.mp .S 5 1) .nilmp [dU [] 0,dU bC 11,dU ev 25]
 have gG:(kV lT m kn (.mp .S 3 1) (.mp .S 4 1) (.mp .S 5 1) .nilmp [dU [] 0,dU bC 11,dU ev 25]).length=6:=cpL lT m kn (.mp .S 3 1) (.mp .S 4 1) (.mp .S 5 1) .nilmp [dU [] 0,dU bC 11,dU ev 25]
 have D:=fun fr lh sh h1 h2 h3 h4 h5 h6=>Im lT m kn (.mp .S 3 1) (.mp .S 4 1) (.mp .S 5 1) (.mp .S 6 1) [dU [] 0,dU bC 11,dU ev 25] 3 yv kI ac0 zz (.sl (strs kI) 7 true) (Or.inr ⟨true,rfl⟩) fr lh sh h1 h2 h3 h4 h5 h6
 change ∀fr lh sh,sh=kV lT m kn (.mp .S 3 1) (.mp .S 4 1) (.mp .S 5 1) (.mp .S 6 1) [dU [] 0,dU bC 11,dU ev 25,[]]→aa fr 3= .ptr .S 2 1 0→aa fr 8= qi 3→aa fr 53=(.sl (strs kI) 7 true)→aa fr 54= qi 7→aa fr 55= qi 0→_ at D
 have H:=fun lh=>iQ (lh:=lh) (sh:=kV lT m kn (.mp .S 3 1) (.mp .S 4 1) (.mp .S 5 1) .nilmp [dU [] 0,dU bC 11,dU ev 25,[]]) (k:=2) (g:=1) (off:=6) (m:=1) (v:= .mp .S 6 1) wv (cp2 lT m kn (.mp .S 3 1) (.mp .S 4 1) (.mp .S 5 1) .nilmp [dU [] 0,dU bC 11,dU ev 25,[]])
 unfold Hj
 simp only[qA,seval,eY,eO,jP,ko,h3,My,gG,F,H,aiu,aKb,aef,D]
 first|done|refine⟨_,_,rfl, ?_, ?_⟩ <;> simp only[qA,seval,h3,ko]
def aKe(lT:T)(m:List (List Nat×Nat))(fr:Fr)(lh:aE ah)(sh:List ah)(H:sh=kV lT m [] .nilmp .nilmp .nilmp .nilmp [])(h3:aa fr 3= .ptr .S 2 1 0)(My:aa fr 43= qi 0):
  qz 71 jP fr lh sh (.ext 2)∧
  (je pE 71 jP fr lh sh=Hj lT m [] 4):=by
 refine cq (P:=fun D aN I=>I=Hj lT m [] 4)
  (cY (fun k st=> ∃(fr:Fr) (F:aE ah),st=⟨fr,F,Hj lT m [] k⟩∧aa fr 3= .ptr .S 2 1 0∧aa fr 43= qi (k:Int)) _ 4 ?_ ?_ 0 _ (Nat.zero_le _) ⟨fr,lh,by rw[H];rfl,h3,My⟩)
 ·rintro k _ hk ⟨fr,F,rfl,h3,My⟩
  left
  have hc:k=0∨k=1∨k=2∨k=3:=zV
  rcases hc with rfl|rfl|rfl|rfl
  ·obtain⟨D,aN,h,r,OW⟩:=arf lT m [] fr F h3 My
   exact⟨_,h,D,aN,rfl,r,OW⟩
  ·obtain⟨D,aN,h,r,OW⟩:=arh lT m [] fr F h3 My
   exact⟨_,h,D,aN,rfl,r,OW⟩
  ·obtain⟨D,aN,h,r,OW⟩:=ari lT m [] fr F h3 My
   exact⟨_,h,D,aN,rfl,r,OW⟩
  ·obtain⟨D,aN,h,r,OW⟩:=arj lT m [] fr F h3 My
   exact⟨_,h,D,aN,rfl,r,OW⟩
 ·rintro _ ⟨fr,F,rfl,h3,My⟩
  simp only[qA,seval,jP,My]
  exact⟨_,_,tS,rfl,rfl,rfl⟩
section
variable(l:Cs)(lT:T)(cl:List T)(hl:IsSl lT l.length cl)(hcl:dc l cl)(hlen:l.length≤jA)
include hl hcl hlen
def apb:ae pE 72 [lT] []=some (.ptr .S 2 1 0,Hj lT (bE l l.length) [] 4):=by
 have r:=fun fr lh sh=>aJ8 l lT cl hl hcl hlen fr lh sh
 have D:=fun fr lh sh=>aKe lT (bE l l.length) fr lh sh
 rw[aDq]at r
 rw[au am9 (by simp[c72])]
 simp only[qA,seval,eO,dA,c72,Vr,Vq,hl.lenI,hl.cells,hl.noTup,hl.kept1,r,D]
end
def Ag(scope:Int)(s:List Nat):Option Nat:=aP (dU (U9 scope) (U9 scope).length) s
theorem DA{s:List Nat}: ∀{m:List (List Nat×Nat)},aP m s=none↔ ∀p∈m,p.1≠s
 | []=>by simp[aP]
 |p::m=>by
  rw[aP]
  by_cases h:s=p.1
  ·grind
  ·rw[if_neg h,DA (m:=m)]
   grind
theorem aiv{ns:List (List Nat)}{s:List Nat}:aP (dU ns ns.length) s=none↔s∉ns:=by
 rw[DA]
 unfold dU
 rw[List.take_length]
 constructor
 ·intro h hs
  obtain⟨i,hi,e⟩:=List.getElem_of_mem hs
  exact h (ns[i],i) (List.mk_mem_zipIdx_iff_getElem?.2 (by rw[List.getElem?_eq_getElem hi])) e
 grind
theorem Mf{ns:List (List Nat)}{s:List Nat}{i:Nat}: ∀{m:List (List Nat×Nat)},aP m s=some i→(s,i)∈m
 | [],h=>by simp[aP]at h
 |p::m,h=>by
  rw[aP]at h
  by_cases e:s=p.1
  ·grind
  ·rw[if_neg e]at h
   exact List.mem_cons_of_mem _ (Mf (ns:=ns) h)
def arl{scope:Int}{s:List Nat}{i:Nat}(h:Ag scope s=some i):(U9 scope)[i]? =some s:=by
 have r:=Mf (ns:=U9 scope) h
 grind [dU]
theorem zi(s:List Nat):lB s≠0↔s∈bC:=by
 constructor
 ·intro h
  by_cases r:s∈bC
  ·exact r
  simp_all[bC,List.mem_cons,List.not_mem_nil,lB,agK,agL,agM]
 ·intro h
  simp only[bC,List.mem_cons,List.not_mem_nil,or_false]at h
  rcases h with rfl|rfl|rfl|rfl|rfl|rfl|rfl|rfl|rfl|rfl|rfl <;> decide
theorem UM(s:List Nat):wF s≠0↔s∈kI:=by
 grind [kI,wF,P5,P6]
theorem UN(s:List Nat):wG s≠0↔s∈ev:=by
 constructor
 ·intro h
  rw[wG]at h
  by_cases h1:s= [114,101,115,116]
  ·subst h1;decide
  by_cases h2:s= [110,105,103,104,116,115]
  ·subst h2;decide
  by_cases h3:s= [104,111,109,101]
  ·subst h3;decide
  rw[if_neg h1,if_neg h2,if_neg h3]at h
  by_cases h4:pP Mp s
  ·rw[if_pos h4,zi]at h
   have e:s=Mp++s.drop 7:=by rw[←((CG s).1 h4).2,List.take_append_drop]
   rw[e]
   generalize s.drop 7=d at h
   simp only[bC,List.mem_cons,List.not_mem_nil,or_false]at h
   rcases h with rfl|rfl|rfl|rfl|rfl|rfl|rfl|rfl|rfl|rfl|rfl <;> decide
  ·rw[if_neg h4]at h
   by_cases h5:pP NC s
   ·rw[if_pos h5,zi]at h
    have e:s=NC++s.drop 6:=by rw[←((CH s).1 h5).2,List.take_append_drop]
    rw[e]
    generalize s.drop 6=d at h
    simp only[bC,List.mem_cons,List.not_mem_nil,or_false]at h
    rcases h with rfl|rfl|rfl|rfl|rfl|rfl|rfl|rfl|rfl|rfl|rfl <;> decide
   ·rw[if_neg h5]at h;exact absurd rfl h
 ·intro hs
  simp only[ev,List.mem_cons,List.not_mem_nil,or_false]at hs
  rcases hs with rfl|rfl|rfl|rfl|rfl|rfl|rfl|rfl|rfl|rfl|rfl|rfl|rfl|rfl|rfl|rfl|rfl|rfl|rfl|rfl|rfl|rfl|rfl|rfl|rfl <;> decide
theorem UO(scope:Int)(s:List Nat):dI scope s≠0↔s∈U9 scope:=by
 grind [dI,U9,zi,UN,UM]
theorem mC(scope:Int)(s:List Nat):Ag scope s=none↔dI scope s=0:=by
 unfold Ag
 rw[aiv,←UO]
 grind
mutual
def comp(r:List Nat→Int)(scope:Int):Ex→Fm
 | .mk op num name args=>if op=1∨op=2∨op=3 then .mk 1 num []else if op=4 then .mk 1 1 []else if op=5 then .mk 1 0 []else if op=6 then(match Ag scope name with|some i=> .mk 6 (i:Int) []|none=> .mk 1 (r name) [])else .mk op 0 (eA r scope args)
def eA(r:List Nat→Int)(scope:Int):List Ex→List Fm
 | []=> []
 |x::xs=>comp r scope x::eA r scope xs
end
theorem nn(r:List Nat→Int)(scope:Int)(x:Ex):comp r scope x=if x.op=1∨x.op=2∨x.op=3 then .mk 1 x.num []else if x.op=4 then .mk 1 1 []else if x.op=5 then .mk 1 0 []else if x.op=6 then(match Ag scope x.name with|some i=> .mk 6 (i:Int) []|none=> .mk 1 (r x.name) [])else .mk x.op 0 (eA r scope x.args):=by obtain⟨_,_,_,_⟩:=x;rw[comp];rfl
theorem l7(r:List Nat→Int)(scope:Int): ∀xs,eA r scope xs=xs.map (comp r scope)
 | []=>rfl
 |x::xs=>by simp_all[eA,l7]
def Qt(cl:List Nat→Int×Int)(scope:Int)(s:List Nat):Int×Int:=if dI scope s≠0 then(dI scope s,0)else cl s
def qD(D:List Nat→Int)(scope:Int)(r:List Int)(s:List Nat):Int:=match Ag scope s with|some i=>r.getD i 0|none=>D s
theorem abu(cl:List Nat→Int×Int)(scope:Int)(x:Ex):x.ty cl scope=x.ty (Qt cl scope) 0:=by
 induction x using Ex.ind with
 |h x ih=>
  rw[Ex.ty_eq,Ex.ty_eq (cl:=Qt cl scope)]
  have hl:lC cl scope x.args=lC (Qt cl scope) 0 x.args:=by
   generalize x.args=xs at ih
   induction xs with
   |nil=>rfl
   |cons y F r=>
    rw[lC,lC,ih y yv,r fun z D=>ih z (by simp[D])]
  grind [Qt,ki]
theorem aDr(cl:List Nat→Int×Int):Qt cl 0=cl:=by
 grind [Qt,ki]
theorem aDs(s:List Nat):Ag 0 s=none:=(mC 0 s).2 (ki s)
theorem amg(D:List Nat→Int)(r:List Int):qD D 0 r=D:=by
 grind [qD,aDs]
def Qu{cl:List Nat→Int×Int}{D:List Nat→Int}{scope:Int}{r:List Int}(hc:NZ (Qt cl scope) (qD D scope r))(dk:r.length=(U9 scope).length)(x:Ex): ∀k,x.wf=true→gm x.args≤100000→x.ty cl scope=(k,0)→IJ r (comp D scope x)∧(comp D scope x).val r=x.val0 (qD D scope r)∧C7 k (x.val0 (qD D scope r)):=by
 induction x using Ex.ind with
 |h x ih=>
  intro k AR Z N
  have U:C7 k (x.val0 (qD D scope r)):=by
   rw[abu]at N
   exact(Mc hc 0 (fun s=>ki s) x k AR N).2
  refine and_assoc.1 ⟨?_,U⟩
  obtain⟨h1,h2,V,Ej,tF,Ae⟩:=wY AR
  have W:=acT U
  have F: ∀f v,comp D scope x=f→x.val0 (qD D scope r)=v→(bd v→IJ r f∧f.val r=v)→IJ r (comp D scope x)∧(comp D scope x).val r=x.val0 (qD D scope r):=by
   rintro f v rfl e h
   rw[e]at W ⊢
   exact h W
  have O: ∀n,bd n→IJ r (.mk 1 n [])∧(Fm.mk 1 n []).val r=n:=fun n J=>⟨(Ii _ _).2 (.inl ⟨rfl,J⟩),by rw[Fm.val_eq];rfl⟩
  by_cases I:x.op=1∨x.op=2∨x.op=3
  ·exact F _ _ (by rw[nn,if_pos I]) (by rw[Ex.val0_eq,if_neg zV,if_pos I]) (O _)
  by_cases h4:x.op=4
  ·exact F _ _ (by rw[nn,if_neg I,if_pos h4]) (by rw[Ex.val0_eq,if_neg zV,if_neg I,if_pos h4]) (O _)
  by_cases h5:x.op=5
  ·exact F _ _ (by rw[nn,if_neg I,if_neg h4,if_pos h5]) (by rw[Ex.val0_eq,if_neg zV,if_neg I,if_neg h4,if_pos h5]) (O _)
  by_cases h6:x.op=6
  ·cases K:Ag scope x.name with
   |none=>exact F _ _ (by rw[nn,if_neg I,if_neg h4,if_neg h5,if_pos h6,K]) (by rw[Ex.val0_eq,if_pos h6,qD,K]) (O _)
   |some i=>
    have hi:=arl K
    have mF:i<(U9 scope).length:=(List.getElem?_eq_some_iff.1 hi).1
    refine F (.mk 6 (i:Int) []) (r.getD i 0) (by rw[nn,if_neg I,if_neg h4,if_neg h5,if_pos h6,K]) (by rw[Ex.val0_eq,if_pos h6,qD,K]) fun J=>⟨(Ii _ _).2 (.inr (.inl ⟨rfl,Int.natCast_nonneg i, ?_,J⟩)),by rw[Fm.val_eq];rfl⟩
    show(i:Int).toNat<r.length
    rw[Int.toNat_natCast,dk];exact mF
  ·refine F _ _ (by rw[nn,if_neg I,if_neg h4,if_neg h5,if_neg h6]) (by rw[Ex.val0_eq,if_neg h6,if_neg I,if_neg h4,if_neg h5]) fun J=> ?_
   have h7:7≤x.op:=zV
   obtain⟨ts,H,hr,hk⟩:=xb N h6
   have hlen:ts.length=x.args.length:=xc H
   have Au:=gn x.args
   have X:Dz r (eA D scope x.args)∧eQ r (eA D scope x.args)=fL (qD D scope r) x.args∧xq ts (fL (qD D scope r) x.args):=by
    clear N V hr AR Ej tF hlen W U Au F J
    generalize x.args=xs at ih H Ae Z
    induction xs generalizing ts with
    |nil=>rw[lC]at H;cases H;exact⟨by rw[eA,Dz];trivial,by rw[eA,eQ,fL],trivial⟩
    |cons z zs Y=>
     obtain⟨t,us,rfl,e1,e2⟩:=oU H
     rw[Hb,Bool.and_eq_true]at Ae
     rw[gm]at Z
     have hz:=z.nodes_eq
     obtain⟨f1,f2,f3⟩:=ih z yv t Ae.1 zV e1
     obtain⟨g1,g2,g3⟩:=Y us (fun y hy=>ih y (by simp[hy])) e2 Ae.2 zV
     rw[eA,eQ,fL,Dz,f2,g2]
     exact⟨⟨f1,g1⟩,rfl,f3,g3⟩
   obtain⟨i1,i2,i3⟩:=X
   have hcl:(eA D scope x.args).length=x.args.length:=by rw[l7,List.length_map]
   obtain⟨hv,_⟩:=abr i3 h7 h2 (by rw[hlen];exact V) hr hk
   refine⟨(Ii _ _).2 (.inr (.inr ⟨h7,h2,by show dQ x.op (eA D scope x.args).length=true;rw[hcl];exact V,by show(eA D scope x.args).length≤jA;rw[hcl];exact iu zV,i1,by show vOk x.op (eQ r (eA D scope x.args));rw[i2];exact hv⟩)), ?_⟩
   rw[Fm.val_eq]
   show(if x.op=1 then(0:Int)else if x.op=6 then r.getD (0:Int).toNat 0 else DF x.op (eQ r (eA D scope x.args)))=DF x.op (fL (qD D scope r) x.args)
   rw[if_neg zV,if_neg h6,i2]
def eJ(lT:T)(m:List (List Nat×Nat))(kn:List (Nat×Int))(R:List ah):List ah:=Hj lT m kn 4++R
section
variable(lT:T)(m:List (List Nat×Nat))(kn:List (Nat×Int))(R:List ah)
theorem aDt:aI (eJ lT m kn R) 0=⟨1,.map (m.map fun p=>sK p.1) (m.map fun p=>nK p.2) false⟩:=nr rfl
theorem aDu:aI (eJ lT m kn R) 1=⟨1,.map (kn.map fun p=>nK p.1) (kn.map fun p=>iV p.2) false⟩:=nr rfl
theorem Io:aI (eJ lT m kn R) 2=⟨1,.cells [lT,.mp .S 0 1,.mp .S 1 1,.mp .S 3 1,.mp .S 4 1,.mp .S 5 1,.mp .S 6 1] 0 true⟩:=nr rfl
theorem aKf:aI (eJ lT m kn R) 3=⟨1,.map ((dU [] 0).map fun p=>sK p.1) ((dU [] 0).map fun p=>nK p.2) false⟩:=nr rfl
theorem aDv:aI (eJ lT m kn R) 4=⟨1,.map ((dU bC 11).map fun p=>sK p.1) ((dU bC 11).map fun p=>nK p.2) false⟩:=nr rfl
theorem aDw:aI (eJ lT m kn R) 5=⟨1,.map ((dU ev 25).map fun p=>sK p.1) ((dU ev 25).map fun p=>nK p.2) false⟩:=nr rfl
theorem aDx:aI (eJ lT m kn R) 6=⟨1,.map ((dU kI 7).map fun p=>sK p.1) ((dU kI 7).map fun p=>nK p.2) false⟩:=nr rfl
theorem aDy(r:List (Nat×Int)):bI (eJ lT m kn R) 1 ⟨1,.map (r.map fun p=>nK p.1) (r.map fun p=>iV p.2) false⟩=eJ lT m r R:=nr rfl
end
def kOf:List ah→List (Nat×Int)
 |_::⟨_,.map ks r _⟩::_=>(ks.zip r).map fun p=>((match p.1 with| .i _ n=>n.toNat|_=>0),(match p.2 with| .i _ n=>n|_=>0))
 |_=> []
theorem arn(lT:T)(m:List (List Nat×Nat))(R:List ah): ∀kn,kOf (eJ lT m kn R)=kn:=by
 intro kn
 unfold kOf eJ Hj kV
 simp only[List.cons_append]
 induction kn with
 |nil=>rfl
 |cons p kn ih=>rw[List.map_cons,List.map_cons,List.zip_cons_cons,List.map_cons,ih];obtain⟨a,b⟩:=p;simp[nK,iV]
noncomputable def kL(E:Env)(n:Nat)(a:ak)(fr:Fr)(lh:aE ah)(sh:List ah):List (Nat×Int):=kOf (je E n a fr lh sh)
def amh{E:Env}{n:Nat}{a:ak}{fr:Fr}{lh:aE ah}{sh:List ah}{lT:T}{m:List (List Nat×Nat)}{R:List ah}{P:List (Nat×Int)→Prop}(h: ∃kn,je E n a fr lh sh=eJ lT m kn R∧P kn):je E n a fr lh sh=eJ lT m (kL E n a fr lh sh) R∧P (kL E n a fr lh sh):=by
 obtain⟨kn,h1,h2⟩:=h
 have:kL E n a fr lh sh=kn:=by unfold kL;rw[h1,arn]
 rw[this];exact⟨h1,h2⟩
theorem ac1{cl:List Nat→Int×Int}{scope:Int}: ∀{xs:List Ex} {ts:List Int},lC cl scope xs= .ok ts→ ∀(k:Nat) (hk:k<xs.length),∃t,xs[k].ty cl scope=(t,0)
 | [],ts,h,k,hk=>by simp at hk
 |x::xs,ts,h,k,hk=>by
  obtain⟨t,us,rfl,e1,e2⟩:=oU h
  cases k with
  |zero=>exact⟨t,e1⟩
  |succ k=>exact ac1 e2 k (by simpa using hk)
section
variable(l:Cs)(lT:T)(R:List ah)(cl:List T)(hl:IsSl lT l.length cl)(hcl:dc l cl)(hlen:l.length≤jA)
def jC(kn:List (Nat×Int)):Prop:= ∀i v,aP kn i=some v→v=(tE l l.length).getD i 0
def aDz(n:Nat)(scope:Int)(y:Ex):Prop:= ∀k kn cs,jC l kn→iD y cs→y.nodes≤200→y.wf=true→y.ty (CL l n) scope=(k,0)→
 ∃D r,ae pE 73 [.ptr .S 2 1 0,qi scope,.agg cs] (eJ lT (bE l l.length) kn R)=some (.agg D,eJ lT (bE l l.length) r R)∧jv (comp (fI l) scope y) D∧jC l r∧ ∀i,n≤i→aP r i=aP kn i
def aDA(j:Nat):Prop:= ∀s t kn,fu l s=some j→He l s=(t,0)→jC l kn→ ∃r,ae pE 134 [.ptr .S 2 1 0,.s s] (eJ lT (bE l l.length) kn R)=some (qi (fI l s),eJ lT (bE l l.length) r R)∧jC l r∧ ∀i,j<i→aP r i=aP kn i
theorem aKh(n:Nat)(scope:Int)(xs:List Ex)(ih: ∀y∈xs,aDz l lT R n scope y)(a:T)(cc:List T)(ha:IsSl a xs.length cc)(hx:cD xs cc)(hn:gm xs≤200)(AR:Hb xs=true)(ts:List Int)(U:lC (CL l n) scope xs= .ok ts)(kn:List (Nat×Int))(jH:jC l kn)(op:T)(g D:Nat)(c6:ah)(fr:Fr)(lh:aE ah)(sh:List ah)(fx:sh=eJ lT (bE l l.length) kn R)
  (h0:aa fr 0= .ptr .S 2 1 0) (h1:aa fr 1= qi scope) (I:aa fr 9= .ptr .L 9 D 0) (BU:aa fr 63=a) (F7:aa fr 64= qi (xs.length:Int)) (Ip:aa fr 65= qi 0) (J:ab lh 6=c6) (F:ab lh 9=⟨D,.cells [op,qi 0,.isl .L 60 g 0 xs.length 3] 0 true⟩) (F8:ab lh 60=⟨g,.cells (repl [qi 0,qi 0,.nilsl] xs.length) 0 false⟩):
  qz 80 oZ fr lh sh (.ext 1)∧
  (ab (iL pE 80 oZ fr lh sh) 6=c6∧ab (iL pE 80 oZ fr lh sh) 9=⟨D,.cells [op,qi 0,.isl .L 60 g 0 xs.length 3] 0 true⟩∧(∃cs,ab (iL pE 80 oZ fr lh sh) 60=⟨g,.cells cs 0 false⟩∧bf (eA (fI l) scope xs) cs)∧
    (∃r,je pE 80 oZ fr lh sh=eJ lT (bE l l.length) r R∧jC l r∧ ∀i,n≤i→aP r i=aP kn i)):=by
 refine cq (P:=fun bL aN aR=>ab aN 6=c6∧ab aN 9=⟨D,.cells [op,qi 0,.isl .L 60 g 0 xs.length 3] 0 true⟩∧(∃cs,ab aN 60=⟨g,.cells cs 0 false⟩∧bf (eA (fI l) scope xs) cs)∧(∃r,aR=eJ lT (bE l l.length) r R∧jC l r∧ ∀i,n≤i→aP r i=aP kn i))
  (cY (fun k st=> ∃(fr:Fr) (H:aE ah) (A:List T) (KN:List (Nat×Int)),st=⟨fr,H,eJ lT (bE l l.length) KN R⟩∧aa fr 0= .ptr .S 2 1 0∧aa fr 1= qi scope∧aa fr 9= .ptr .L 9 D 0∧aa fr 63=a∧aa fr 64= qi (xs.length:Int)∧aa fr 65= qi (k:Int)∧ab H 6=c6∧ab H 9=⟨D,.cells [op,qi 0,.isl .L 60 g 0 xs.length 3] 0 true⟩∧
    ab H 60=⟨g,.cells (A++repl [qi 0,qi 0,.nilsl] (xs.length-k)) 0 false⟩∧bf (eA (fI l) scope (xs.take k)) A∧jC l KN∧ ∀i,n≤i→aP KN i=aP kn i) _ xs.length ?_ ?_ 0 _ (Nat.zero_le _) ⟨fr,lh,[],kn,by rw[fx],h0,h1,I,BU,F7,Ip,J,F,by rw[F8];rfl,by rw[List.take_zero,eA];exact bf.nil,jH,fun _ _=>rfl⟩)
 ·rintro k _ hk ⟨fr,H,A,KN,rfl,h0,h1,I,BU,F7,Ip,J,F,F8,K,OP,L5⟩
  left
  have V:(k:Int)<xs.length:=zV
  have Yi:=gn xs
  have hyk:=mq (List.getElem_mem hk)
  have hw:=bn (k:=k) (iu zV)
  obtain⟨b,cb,rr,W,fg,sH,hb⟩:=nO ha hx k hk
  obtain⟨t,ht⟩:=ac1 U k hk
  obtain⟨cf,Qc,aC,ym,X,Od⟩:=ih xs[k] (List.getElem_mem hk) t KN _ OP hb zV (AE.1 AR _ (List.getElem_mem hk)) ht
  obtain⟨O,fc,rfl,CA,hf2⟩:=ym.cells
  have N:A.length=k*3:=by rw[K.len,l7];simp;omega
  generalize hy:comp (fI l) scope xs[k]=y at*
  have Ix:(A++repl [qi 0,qi 0,T.nilsl] (xs.length-k)).length=xs.length*3:=by rw[List.length_append,Dv,N];simp;omega
  have Y:splice (A++repl [qi 0,qi 0,T.nilsl] (xs.length-k)) (k*3) [qi y.op,qi y.num,O]=(A++ [qi y.op,qi y.num,O])++repl [qi 0,qi 0,T.nilsl] (xs.length-(k+1)):=by
   rw[show xs.length-k=(xs.length-(k+1))+1 by omega,yZ,Du A [qi 0,qi 0,T.nilsl] _ [qi y.op,qi y.num,O] (k*3) N rfl]
  have Z:k*3+3≤xs.length*3:=zV
  simp only[qA,seval,bg,aH,dA,oZ,h0,h1,I,BU,F7,Ip,F,F8,V,W,hw,aC,mH,nH,fg.kept1,CA.froz1,hk,Ix,Y,Z]
  refine⟨_,rfl,_,_,A++ [qi y.op,qi y.num,O],Qc,rfl, ?_, ?_, ?_, ?_, ?_, ?_, ?_, ?_, ?_, ?_,X,fun i hi=>by rw[Od i hi,L5 i hi]⟩
  all_goals first|(simp only[qA,seval,h0,h1,I,BU,F7,J,F];done)|skip
  rw[List.take_succ_eq_append_getElem hk,l7,List.map_append,←l7,List.map_cons,hy]
  exact bf.append K (bf.one ym)
 ·rintro _ ⟨fr,H,A,KN,rfl,h0,h1,I,BU,F7,Ip,J,F,F8,K,OP,L5⟩
  rw[Nat.sub_self,show repl [qi 0,qi 0,T.nilsl] 0= []from rfl,List.append_nil]at F8
  rw[List.take_length]at K
  simp only[qA,seval,oZ,F7,Ip,Int.lt_irrefl]
  exact⟨_,_,tS,rfl,rfl,J,F,⟨A,F8,K⟩,KN,rfl,OP,L5⟩
end
section
variable(l:Cs)(lT:T)(R:List ah)(cl:List T)(hl:IsSl lT l.length cl)(hcl:dc l cl)(hlen:l.length≤jA)
theorem Hf(n:Nat)(MW:n≤l.length)(hc: ∀j,j<n→aDA l lT R j)(scope:Int)(fw:scope=0∨scope=1∨scope=2∨scope=3)(x:Ex):aDz l lT R n scope x:=by
 induction x using Ex.ind with
 |h x ih=>
  intro k kn cs J hx hn AR W
  obtain⟨a,cc,rfl,ha,Vb⟩:=hx.cells
  obtain⟨h1,h2,fj,Ej,tF,Ae⟩:=wY AR
  have hnd:=x.nodes_eq
  rw[au ana (by simp[Jo]),nn]
  by_cases e1:x.op=1
  ·rw[if_pos (.inl e1)]
   simp only[qA,seval,Jo,e1]
   exact⟨_,kn,rfl,jv.of (x:= .mk 1 x.num []) (Or.inl ⟨rfl,rfl,rfl⟩) bf.nil,J,fun _ _=>rfl⟩
  by_cases e2:x.op=2
  ·rw[if_pos (.inr (.inl e2))]
   simp only[qA,seval,Jo,e2]
   exact⟨_,kn,rfl,jv.of (x:= .mk 1 x.num []) (Or.inl ⟨rfl,rfl,rfl⟩) bf.nil,J,fun _ _=>rfl⟩
  by_cases e3:x.op=3
  ·rw[if_pos (.inr (.inr e3))]
   simp only[qA,seval,Jo,e3]
   exact⟨_,kn,rfl,jv.of (x:= .mk 1 x.num []) (Or.inl ⟨rfl,rfl,rfl⟩) bf.nil,J,fun _ _=>rfl⟩
  rw[if_neg zV]
  by_cases e4:x.op=4
  ·rw[if_pos e4]
   simp only[qA,seval,Jo,e4]
   exact⟨_,kn,rfl,jv.of (x:= .mk 1 1 []) (Or.inl ⟨rfl,rfl,rfl⟩) bf.nil,J,fun _ _=>rfl⟩
  rw[if_neg e4]
  by_cases e5:x.op=5
  ·rw[if_pos e5]
   simp only[qA,seval,Jo,e5]
   exact⟨_,kn,rfl,jv.of (x:= .mk 1 0 []) (Or.inl ⟨rfl,rfl,rfl⟩) bf.nil,J,fun _ _=>rfl⟩
  rw[if_neg e5]
  by_cases h6:x.op=6
  ·rw[if_pos h6]
   rw[Ex.ty_eq,if_pos h6]at W
   have r:=lkS (dU (U9 scope) (U9 scope).length) x.name
   change _=some (Vg (Ag scope x.name))at r
   by_cases Y:dI scope x.name=0
   ·rw[if_neg (by simp[Y])]at W
    have Z:=(mC scope x.name).2 Y
    rw[Z]at r ⊢
    obtain⟨i,mF,jf,Lo,_,_,aro,_⟩:=wZ MW W
    obtain⟨K,aC,jD,fP⟩:=hc i jf x.name k kn Lo aro J
    simp only[Vg]at r
    rcases fw with rfl|rfl|rfl|rfl
    ·change iN _ ((dU [] 0).map _) ((dU [] 0).map _) _ _ _=_ at r
     simp only[qA,seval,eY,dA,Jo,h6,Io,aKf,bZ,r,aC,O8]
     exact⟨_,K,rfl,jv.of (x:= .mk 1 (fI l x.name) []) (Or.inl ⟨rfl,rfl,rfl⟩) bf.nil,jD,fun i hi=>fP i zV⟩
    ·change iN _ ((dU bC 11).map _) ((dU bC 11).map _) _ _ _=_ at r
     simp only[qA,seval,eY,dA,Jo,h6,Io,aDv,bZ,r,aC,O8]
     exact⟨_,K,rfl,jv.of (x:= .mk 1 (fI l x.name) []) (Or.inl ⟨rfl,rfl,rfl⟩) bf.nil,jD,fun i hi=>fP i zV⟩
    ·change iN _ ((dU ev 25).map _) ((dU ev 25).map _) _ _ _=_ at r
     simp only[qA,seval,eY,dA,Jo,h6,Io,aDw,bZ,r,aC,O8]
     exact⟨_,K,rfl,jv.of (x:= .mk 1 (fI l x.name) []) (Or.inl ⟨rfl,rfl,rfl⟩) bf.nil,jD,fun i hi=>fP i zV⟩
    ·change iN _ ((dU kI 7).map _) ((dU kI 7).map _) _ _ _=_ at r
     simp only[qA,seval,eY,dA,Jo,h6,Io,aDx,bZ,r,aC,O8]
     exact⟨_,K,rfl,jv.of (x:= .mk 1 (fI l x.name) []) (Or.inl ⟨rfl,rfl,rfl⟩) bf.nil,jD,fun i hi=>fP i zV⟩
   ·cases Z:Ag scope x.name with
    |none=>exact absurd ((mC scope x.name).1 Z) Y
    |some i=>
     rw[Z]at r
     rw[show Vg (some i)= .tup [qi (i:Int),.b true]from rfl]at r
     have hf:jv (.mk 6 (i:Int) []) [qi 6,qi (i:Int),.nilsl]:=jv.of (x:= .mk 6 (i:Int) []) (Or.inl ⟨rfl,rfl,rfl⟩) bf.nil
     rcases fw with rfl|rfl|rfl|rfl
     ·exact absurd (ki _) Y
     ·change iN _ ((dU bC 11).map _) ((dU bC 11).map _) _ _ _=_ at r
      simp only[qA,seval,eY,Jo,h6,Io,aDv,bZ,r]
      exact⟨_,kn,rfl,hf,J,fun _ _=>rfl⟩
     ·change iN _ ((dU ev 25).map _) ((dU ev 25).map _) _ _ _=_ at r
      simp only[qA,seval,eY,Jo,h6,Io,aDw,bZ,r]
      exact⟨_,kn,rfl,hf,J,fun _ _=>rfl⟩
     ·change iN _ ((dU kI 7).map _) ((dU kI 7).map _) _ _ _=_ at r
      simp only[qA,seval,eY,Jo,h6,Io,aDx,bZ,r]
      exact⟨_,kn,rfl,hf,J,fun _ _=>rfl⟩
  ·rw[if_neg h6]
   obtain⟨ts,hts,hr,hk⟩:=xb W h6
   have Au:=gn x.args
   have Eg:x.args.length≤jA:=iu zV
   have hmk:x.args.length*40≤roomy∧x.args.length≤roomy:=by unfold jA at Eg;unfold roomy;omega
   have KX:=fun fr lh sh D h0 h1 F BU F7 Ip H I F8=>aKh l lT R n scope x.args (fun y hy=>ih y hy) a cc ha Vb zV Ae ts hts kn J (qi x.op) 1 1 ⟨1,.cells [qi 0,qi 0,.nilsl] 0 true⟩ fr lh sh D h0 h1 F BU F7 Ip H I F8
   have hL:=fun fr lh sh D h0 h1 F BU F7 Ip H I F8=>And.intro (KX fr lh sh D h0 h1 F BU F7 Ip H I F8).1 (And.intro (KX fr lh sh D h0 h1 F BU F7 Ip H I F8).2.1 (And.intro (KX fr lh sh D h0 h1 F BU F7 Ip H I F8).2.2.1 (And.intro (Z8 (KX fr lh sh D h0 h1 F BU F7 Ip H I F8).2.2.2.1).1 (amh (KX fr lh sh D h0 h1 F BU F7 Ip H I F8).2.2.2.2).1)))
   have hF:=fun fr lh sh D h0 h1 F BU F7 Ip H I F8=>(Z8 (KX fr lh sh D h0 h1 F BU F7 Ip H I F8).2.2.2.1).2
   have hM:=fun fr lh sh D h0 h1 F BU F7 Ip H I F8=>(amh (KX fr lh sh D h0 h1 F BU F7 Ip H I F8).2.2.2.2).2
   have N:=fun fr lh sh D h0 h1 F BU F7 Ip H I F8=>(hF fr lh sh D h0 h1 F BU F7 Ip H I F8).len
   have hcl:(eA (fI l) scope x.args).length=x.args.length:=by rw[l7];simp
   rw[hcl]at N
   simp only[qA,seval,bg,CC,aH,fS,Jo,Vt,e1,e2,e3,e4,e5,h6,ha.lenI,hmk,hL,N]
   generalize hX:Z7 _ _=X
   generalize hMX:kL _ _ _ _ _ _=K
   have O:bf (eA (fI l) scope x.args) X:=by
    rw[←hX]
    refine hF _ _ _ rfl ?_ ?_ ?_ ?_ ?_ ?_ ?_ ?_ ?_ <;> simp only[qA,seval]
   have U:jC l K∧ ∀i,n≤i→aP K i=aP kn i:=by
    rw[←hMX]
    refine hM _ _ _ rfl ?_ ?_ ?_ ?_ ?_ ?_ ?_ ?_ ?_ <;> simp only[qA,seval]
   have V:=O.len
   rw[hcl]at V
   rw[←V,List.take_length]
   exact⟨_,K,rfl,jv.of (x:= .mk x.op 0 (eA (fI l) scope x.args)) (Or.inr ⟨false,by show T.sl X x.args.length false= .sl X (eA (fI l) scope x.args).length false;rw[hcl]⟩) O,U.1,U.2⟩
end
def iS{x:Ex}(r:bM x=0):x.nodes≤200∧x.depth≤16:=by
 unfold bM at r
 by_cases h:big x
 ·rw[if_pos h]at r;cases r
 ·unfold big at h;omega
def ac2{lh:aE ah}{sh:List ah}{keep:Bool}{k g r:Nat}{cs:List T}{bx:Bool}(h:ab lh k=⟨g,.cells cs r bx⟩)(hc:cs.all froz1=true):fzV lh sh keep (.ptr .L k g 0)=some (.vp cs,[(.L,k,⟨g,.cells cs cs.length bx⟩)]):=by
 unfold fzV aJ
 have hk:(keep&&Sp.L==Sp.S)=false:=by cases keep <;> rfl
 show Q.run _ _ (if(keep&&Sp.L==Sp.S)=true then _ else _)=_
 rw[hk]
 simp only[Bool.false_eq_true,if_false,Q.run]
 have D:(St.mk .nil lh sh).get .L k=⟨g,.cells cs r bx⟩:=h
 rw[D]
 simp only[if_true,List.drop_zero]
 have:bo (fz false 7) cs= .ret (cs,[]):=by
  clear h D
  induction cs with
  |nil=>rfl
  |cons c cs ih=>
   rw[List.all_cons,Bool.and_eq_true]at hc
   simp only[bo,re hc.1,ih hc.2,Q.bind,List.append_nil]
 rw[this]
 rfl
def const_comp{l:Cs}{s:List Nat}{t:Int}(h:He l s=(t,0)): ∃i,∃hi:i<l.length,fu l s=some i∧bM l[i].2=0∧l[i].2.ty (CL l i) 0=(t,0)∧IJ [] (comp (fI l) 0 l[i].2)∧(comp (fI l) 0 l[i].2).val []=fI l s∧fI l s=(tE l l.length).getD i 0:=by
 obtain⟨i,hi,Lo,F,H,r,U0,I,_,J⟩:=Md h
 have AR:=iG F
 have K:=(l[i].2).nodes_eq
 have N:=iS F
 have h0:NZ (Qt (He l) 0) (qD (fI l) 0 []):=by rw[aDr,amg];exact Hs l
 obtain⟨h1,h2,h3⟩:=Qu h0 rfl l[i].2 t AR zV r
 rw[amg]at h2 h3
 have O:=(Mc (Hs l) 0 (fun s=>ki s) l[i].2 t AR r).1
 have D:acW l 0 l[i].2=sX t (l[i].2.val0 (fI l)):=O
 rw[U0]at D
 have e1:=(Ik (scope:=0) I).2.2
 have e2:=(Ik (scope:=0) h3).2.2
 rw[←D,e1]at e2
 exact⟨i,hi,Lo,F,H,h1,by rw[h2,e2],J⟩
section
variable(l:Cs)(lT:T)(R:List ah)(cl:List T)(hl:IsSl lT l.length cl)(hcl:dc l cl)(hlen:l.length≤jA)
include hl hcl
theorem Hg: ∀j,j<l.length→aDA l lT R j:=by
 intro j
 induction j using Nat.strongRecOn with
 |ind j ih=>
  intro Z s t kn Lo O U
  obtain⟨j',hj',H,hv,ht,iR,I,sV⟩:=const_comp O
  rw[Lo]at H
  cases H
  have D:=lkS (bE l l.length) s
  rw[sO l s l.length (Nat.le_refl _),List.take_length,Lo]at D
  rw[show Vg (some j)= .tup [qi (j:Int),.b true]from rfl]at D
  have F:iN (.one .int) (kn.map fun p=>nK p.1) (kn.map fun p=>iV p.2) (qi (j:Int)) (qi 0) true=_:=aoX (kT:=nK) (vT:=iV) aii (fun _=>rfl) kn j (qi 0)
  rw[au ajh (by simp[RQ])]
  cases N:aP kn j with
  |some v=>
   have e:=U j v N
   rw[N]at F
   simp only[show iV v= qi v from rfl]at F
   rw[sV,←e]
   simp only[qA,seval,RQ,Io,aDt,aDu,bZ,D,F]
   exact⟨kn,rfl,U,fun _ _=>rfl⟩
  |none=>
   rw[N]at F
   simp only at F
   obtain⟨b,cb,r,V,fg,sH,hb⟩:=gv hl hcl j Z
   obtain⟨cf,J,aC,ym,jD,fP⟩:=Hf l lT R j (Nat.le_of_lt Z) (fun i hi=>ih i hi zV) 0 (.inl rfl) l[j].2 t kn _ U hb (iS hv).1 (iG hv) ht
   obtain⟨W,fc,rfl,CA,X⟩:=ym.cells
   have K:=N5 [] .nilsl (Or.inl ⟨rfl,rfl,rfl⟩) (comp (fI l) 0 l[j].2) W fc [] CA X iR
   rw[I]at K
   have Af:aP J j=none:=by rw[fP j (Nat.le_refl _),N]
   have jo:l8 (.one .int) (qi (j:Int)) (qi (fI l s)) (J.map fun p=>nK p.1) (J.map fun p=>iV p.2)=_:=wz (kT:=nK) (vT:=iV) aii J j (fI l s) Af
   generalize comp (fI l) 0 l[j].2=y at*
   have AV:([qi y.op,qi y.num,W]:List T).all froz1=true:=by simp[CA.froz1,wq]
   have Y:=fun lh sh keep (h:ab lh 9=⟨1,.cells [qi y.op,qi y.num,W] 0 true⟩)=>ac2 (sh:=sh) (keep:=keep) h AV
   simp only[qA,seval,dA,RQ,Io,aDt,aDu,bZ,D,F,V,fg.kept1,aC,mH,Y,aGq,K,alk,jo,aDy]
   refine⟨_,rfl, ?_, ?_⟩
   ·intro i v hi
    rw[lZ]at hi
    cases Ax:aP J i with
    |some u=>rw[Ax]at hi;cases hi;exact jD i _ Ax
    |none=>
     rw[Ax]at hi
     simp only at hi
     split at hi
     ·rename_i e;subst e;cases hi;exact sV
     ·cases hi
   ·intro i hi
    rw[lZ,fP i zV]
    cases aP kn i with
    |some u=>rfl
    |none=>simp only;rw[if_neg zV]
end
def abq(op num:Int)(h:op=1∨op=2∨op=3∨op=4∨op=5)(a:T):ae pE 107 [qi op,qi num,a] []=some (qi (if op=1∨op=2∨op=3 then num else if op=4 then 1 else 0),[]):=by
 rw[au WX (by simp[qO])]
 rcases h with rfl|rfl|rfl|rfl|rfl <;> simp only[qA,seval,qO,true_or,or_true,or_self]
theorem QH{cl:List Nat→Int×Int}{scope:Int}: ∀{xs:List Ex} {ts:List Int},lC cl scope xs= .ok ts→ ∀(k:Nat) (hk:k<xs.length),∃t,xs[k].ty cl scope=(t,0)
 | [],ts,h,k,hk=>by simp at hk
 |x::xs,ts,h,k,hk=>by
  obtain⟨t,us,rfl,e1,e2⟩:=oU h
  cases k with
  |zero=>grind
  |succ k=>simp_all[QH]
theorem Lq{cl:List Nat→Int×Int}{D:List Nat→Int}(hc:NZ cl D){scope:Int}(F: ∀s,dI scope s=0): ∀{xs:List Ex} {ts:List Int},Hb xs=true→lC cl scope xs= .ok ts→xq ts (fL D xs)
 | [],ts,_,h=>by rw[lC]at h;cases h;trivial
 |x::xs,ts,r,h=>by
  obtain⟨t,us,rfl,e1,e2⟩:=oU h
  rw[Hb,Bool.and_eq_true]at r
  exact⟨(Mc hc scope F x t r.1 e1).2,Lq hc F r.2 e2⟩
theorem F9(l:Cs)(k:Nat): ∀n,n≤k→n≤l.length→ju (l.take k) n=ju l n
 |0,_,_=>rfl
 |n+1,h,hl=>by
  rw[yY l zV,yY (l.take k) (by rw[List.length_take];omega),F9 l k n zV zV,List.take_take,Nat.min_eq_left zV,List.getElem_take]
theorem OX(l:Cs){k:Nat}(hk:k≤l.length)(x:Ex):cj (l.take k) 0 x=Hc (l.take k) (ju l k) x:=by
 grind [cj,Hc,List.length_take,Nat.min_eq_left,F9]
section
variable(l:Cs)(lT:T)(cl:List T)(hl:IsSl lT l.length cl)(hcl:dc l cl)(hlen:l.length≤jA)(tz:smC l)
theorem aix{k:Nat}(hk:k<l.length)(hl:IsSl lT l.length cl)(hcl:dc l cl): ∃ex,lT= .sl cl l.length ex∧IsSl (.sl (List.take (k*5) cl) k (ex&&decide (k=l.length))) k (cl.take (k*5))∧dc (l.take k) (cl.take (k*5))∧cl.length=l.length*5:=by
 rcases hl with⟨_,hz,_⟩|⟨ex,rfl⟩
 ·omega
 ·exact⟨ex,rfl,Or.inr ⟨_,rfl⟩,hcl.take k,hcl.len⟩
end
end Go.Proofs.YtnkgnjecmfkcfaaGreat
