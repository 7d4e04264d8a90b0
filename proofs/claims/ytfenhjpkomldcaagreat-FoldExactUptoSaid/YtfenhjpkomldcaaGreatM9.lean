/- Values of typed operators stay in their types: plain. Simplified nodes keep their types: plain. Simplified forms keep their types: plain. The program's reduce. The program's reduce: its parts. Conditions: the theorems' own. -/
import Derived.Test.YtfenhjpkomldcaaGreatM8
import Derived.KernelRfl
set_option maxRecDepth 100000
set_option linter.unusedSimpArgs false
set_option linter.unusedVariables false
set_option maxHeartbeats 16000000
namespace Go.Proofs.YtfenhjpkomldcaaGreat
open Go Go.Ev
def ou:List Int→List Int→Prop
 | [],[]=>True
 |t::ts,v::vs=>Ar t v∧ou ts vs
 |_,_=>False
theorem ou.len: ∀{ts vs:List Int},ou ts vs→ts.length=vs.length
 | [],[],_=>rfl
 |t::ts,v::vs,h=>by rw[List.length_cons,List.length_cons,ou.len h.2]
theorem ou.bd: ∀{ts vs:List Int},ou ts vs→ ∀v∈vs,bd v
 | [],[],_=>by simp
 |t::ts,v::vs,h=>by
  intro w hw
  rcases List.mem_cons.1 hw with rfl|hw
  ·exact se h.1
  ·exact ou.bd h.2 w hw
theorem ou.all{k:Int}: ∀{ts vs:List Int},ou ts vs→cI ts k=true→ ∀v∈vs,Ar k v
 | [],[],_,_=>by simp
 |t::ts,v::vs,h,ha=>by
  rw[cT,Bool.and_eq_true,decide_eq_true_eq]at ha
  intro w hw
  rcases List.mem_cons.1 hw with rfl|hw
  ·rw[←ha.1];exact h.1
  ·exact ou.all h.2 ha.2 w hw
theorem AQ(op:Int)(h:op=12∨op=13): ∀(vs:List Int) (m:Int),bd m→(∀v∈vs,bd v)→bd (y7 op m vs)
 | [],m,hm,_=>by rw[wi];exact hm
 |v::vs,m,hm,hv=>by
  rw[sI _ _ _ _ h]
  refine AQ op h vs _ ?_ (fun w hw=>hv w (by simp[hw]))
  have:=hv v (by simp)
  split <;> (unfold Go.Proofs.YtfenhjpkomldcaaGreat.bd at *; omega)
theorem Wx{ts:List Int}{k:Int}(h:(if cI ts 1=true then(1:Int)else if cI ts 2=true then 2 else 0)=k)(hk:k≠0):k=1∨k=2:=by
 split at h
 ·exact .inl h.symm
 ·split at h
  ·exact .inr h.symm
  ·exact absurd h.symm hk
theorem yW{op a b k:Int}(h:eu op a b=k)(hk:k≠0):k=1∨k=2:=by
 unfold eu at h
 split at h
 ·omega
 ·split at h
  ·omega
  ·split at h
   ·omega
   ·split at h <;> omega
theorem yc{op k:Int}{ts vs:List Int}(kH:ou ts vs)(h7:7≤op)(Aq:op≤22)(aX:aW op ts.length=true)(hr:dk op ts=k)(hk:k≠0):Qc op vs∧Ar k (oG op vs):=by
 have ij:=kH.bd
 have hlen:=kH.len
 have flag: ∀b:Bool,Ar 4 (lQ b):=fun b=> .inr (.inr ⟨rfl,Ec b⟩)
 rcases ed (show 1≤op by omega) Aq with rfl|rfl|rfl|rfl|rfl|rfl|rfl|rfl|rfl|rfl|rfl|rfl|rfl|rfl|rfl|rfl|rfl|rfl|rfl|rfl|rfl|rfl
 iterate 6 ·omega
 ·have Ef:=Wx hr hk
  obtain⟨v,rfl⟩:=yM (ts:=vs) (by rw[←hlen];simpa[aW]using aX)
  exact⟨⟨ij,fun h=>absurd h (by decide),fun h=>absurd h (by decide)⟩,kO Ef (lS (ij v (by simp)))⟩
 ·have Ef:=Wx hr hk
  obtain⟨v,w,rfl⟩:=eA (ts:=vs) (by rw[←hlen];simpa[aW]using aX)
  exact⟨⟨ij,fun h=>absurd h (by decide),fun h=>absurd h (by decide)⟩,kO Ef (ml _)⟩
 ·have Ef:=Wx hr hk
  obtain⟨v,w,rfl⟩:=eA (ts:=vs) (by rw[←hlen];simpa[aW]using aX)
  exact⟨⟨ij,fun h=>absurd h (by decide),fun h=>absurd h (by decide)⟩,kO Ef (ml _)⟩
 ·have Ef:=yW (op:=10) hr hk
  obtain⟨v,w,rfl⟩:=eA (ts:=vs) (by rw[←hlen];simpa[aW]using aX)
  exact⟨⟨ij,fun h=>absurd h (by decide),fun h=>absurd h (by decide)⟩,kO Ef (ml _)⟩
 ·have Ef:=yW (op:=11) hr hk
  obtain⟨v,w,rfl⟩:=eA (ts:=vs) (by rw[←hlen];simpa[aW]using aX)
  exact⟨⟨ij,fun h=>absurd h (by decide),fun h=>absurd h (by decide)⟩,kO Ef (L1 _ _)⟩
 iterate 2
  ·have Ef:=Wx hr hk
   match vs,ij,hlen with
   | [],_,hlen=>rw[hlen]at aX;simp[aW]at aX
   |v::vs,ij,_=>
    refine⟨⟨ij,fun h=>absurd h (by decide),fun h=>absurd h (by decide)⟩,kO Ef ?_⟩
    first
     |exact AQ 12 (.inl rfl) vs v (ij v (by simp)) (fun w hw=>ij w (by simp[hw]))
     |exact AQ 13 (.inr rfl) vs v (ij v (by simp)) (fun w hw=>ij w (by simp[hw]))
 ·obtain⟨a,b,c,rfl⟩:=v8 (ts:=ts) (by simpa[aW]using aX)
  obtain⟨x,y,z,rfl⟩:=v8 (ts:=vs) (by rw[←hlen];rfl)
  obtain⟨h1,h2,h3,_⟩:=kH
  have dO:(if a=4∧b=c then b else 0)=k:=hr
  split at dO
  ·rename_i B3
   obtain⟨rfl,rfl⟩:=B3
   subst dO
   have yS:=oC h1
   refine⟨⟨ij,fun h=>absurd h (by decide),fun _=>yS⟩, ?_⟩
   show Ar b (if x=0 then z else y)
   split
   ·exact h3
   ·exact h2
  ·exact absurd dO.symm hk
 ·have dO:(if cI ts 3=true then(4:Int)else 0)=k:=hr
  split at dO
  ·subst dO
   exact⟨⟨ij,fun h=>absurd h (by decide),fun h=>absurd h (by decide)⟩,flag _⟩
  ·exact absurd dO.symm hk
 iterate 2
  ·have dO:(if(a0 ts=1∨a0 ts=2)∧a0 ts=a1 ts then(4:Int)else 0)=k:=hr
   split at dO
   ·subst dO
    exact⟨⟨ij,fun h=>absurd h (by decide),fun h=>absurd h (by decide)⟩,flag _⟩
   ·exact absurd dO.symm hk
 ·have dO:(if a0 ts=a1 ts then(4:Int)else 0)=k:=hr
  split at dO
  ·subst dO
   exact⟨⟨ij,fun h=>absurd h (by decide),fun h=>absurd h (by decide)⟩,flag _⟩
  ·exact absurd dO.symm hk
 ·have dO:(if cI ts 4=true then(4:Int)else 0)=k:=hr
  split at dO
  ·rename_i aU
   subst dO
   have hb:=fun v hv=>oC (kH.all aU v hv)
   obtain⟨v,rfl⟩:=yM (ts:=vs) (by rw[←hlen];simpa[aW]using aX)
   have hv:=hb v (by simp)
   refine⟨⟨ij,fun _=>hb,fun h=>absurd h (by decide)⟩,.inr (.inr ⟨rfl, ?_⟩)⟩
   show bit (1-v)
   unfold bit at *; omega
  ·exact absurd dO.symm hk
 iterate 3
  ·have dO:(if cI ts 4=true then(4:Int)else 0)=k:=hr
   split at dO
   ·rename_i aU
    subst dO
    have hb:=fun v hv=>oC (kH.all aU v hv)
    obtain⟨v,w,rfl⟩:=eA (ts:=vs) (by rw[←hlen];simpa[aW]using aX)
    have hv:=hb v (by simp)
    have hw:=hb w (by simp)
    refine⟨⟨ij,fun _=>hb,fun h=>absurd h (by decide)⟩,.inr (.inr ⟨rfl, ?_⟩)⟩
    first
     |(show bit (min v w);unfold bit at *; omega)
     |(show bit (max v w);unfold bit at *; omega)
     |(show bit (max (1-v) w);unfold bit at *; omega)
   ·exact absurd dO.symm hk
theorem La{op k:Int}{ts:List Int}{ys:List Ex}(VW:qk ys=ts)(h7:7≤op)(Aq:op≤22)(aX:aW op ts.length=true)(hr:dk op ts=k)(hk:k≠0):(Ex.mk op 0 [] ys).kX=k:=by
 rw[Ex.kX_eq]
 show(if op=1 then(1:Int)else if op=2 then 2 else if op=3 then 3 else if op=7∨op=8∨op=9∨op=12∨op=13 then a0 (qk ys)else if op=14 then a1 (qk ys)
  else if op=10 then max (a0 (qk ys)) (a1 (qk ys))else if op=11 then(if a1 (qk ys)=2 then 1 else a0 (qk ys))else 4)=k
 rw[VW]
 have ln: ∀t us,ts=t::us→(if cI ts 1=true then(1:Int)else if cI ts 2=true then 2 else 0)=k→t=k:=by
  rintro t us rfl h
  rw[D6]at h
  split at h
  ·exact h
  ·exact absurd h.symm hk
 have hc: ∀t us,ts=t::us→a0 ts=t:=by rintro t us rfl;rfl
 rcases ed (show 1≤op by omega) Aq with rfl|rfl|rfl|rfl|rfl|rfl|rfl|rfl|rfl|rfl|rfl|rfl|rfl|rfl|rfl|rfl|rfl|rfl|rfl|rfl|rfl|rfl
 iterate 6 ·omega
 ·obtain⟨a,rfl⟩:=yM (ts:=ts) (by simpa[aW]using aX)
  exact ln a [] rfl hr
 ·obtain⟨a,b,rfl⟩:=eA (ts:=ts) (by simpa[aW]using aX)
  exact ln a [b] rfl hr
 ·obtain⟨a,b,rfl⟩:=eA (ts:=ts) (by simpa[aW]using aX)
  exact ln a [b] rfl hr
 ·obtain⟨a,b,rfl⟩:=eA (ts:=ts) (by simpa[aW]using aX)
  have dO:eu 10 a b=k:=hr
  unfold eu at dO
  show max a b=k
  split at dO
  ·omega
  ·split at dO
   ·omega
   ·split at dO
    ·omega
    ·split at dO <;> omega
 ·obtain⟨a,b,rfl⟩:=eA (ts:=ts) (by simpa[aW]using aX)
  have dO:eu 11 a b=k:=hr
  unfold eu at dO
  show(if b=2 then(1:Int)else a)=k
  split at dO
  ·rw[if_neg (by omega)];omega
  ·split at dO
   ·rw[if_neg (by omega)];omega
   ·split at dO
    ·omega
    ·split at dO
     ·rw[if_pos (by omega)];omega
     ·omega
 iterate 2
  ·match ts,aX,hr,ln with
   | [],aX,_,_=>simp[aW]at aX
   |t::us,_,hr,ln=>exact ln t us rfl hr
 ·obtain⟨a,b,c,rfl⟩:=v8 (ts:=ts) (by simpa[aW]using aX)
  have dO:(if a=4∧b=c then b else 0)=k:=hr
  split at dO
  ·exact dO
  ·exact absurd dO.symm hk
 all_goals
  (have h4:k=4∨k=0:=by
    simp only[dk,Int.reduceEq,or_self,if_false,if_true,or_true,or_false]at hr
    split at hr <;> omega)
  (rcases h4 with rfl|rfl
   ·rfl
   ·exact absurd rfl hk)
end Go.Proofs.YtfenhjpkomldcaaGreat
namespace Go.Proofs.YtfenhjpkomldcaaGreat
open Go Go.Ev
theorem FK.op1{scope k:Int}{y:Ex}(h:FK scope k y)(h1:y.op=1):k=1:=by
 obtain⟨ts,_,hr,_⟩:=h.arg (by omega)
 rw[h1]at hr;exact hr.symm
theorem FK.not{scope k:Int}{y:Ex}(h:FK scope k y)(m4:y.op=19):k=4∧FK scope 4 (y.args.headD (bz 0 0)):=by
 obtain⟨_,_,aX,_⟩:=h.node
 obtain⟨ts,gI,hr,hk⟩:=h.arg (by omega)
 have hlen:y.args.length=1:=by rw[m4]at aX;simpa[aW]using aX
 rw[m4]at hr
 have dO:(if cI ts 4=true then(4:Int)else 0)=k:=hr
 split at dO
 ·rename_i aU
  refine⟨dO.symm, ?_⟩
  generalize y.args=l at gI hlen
  match l,ts,gI,hlen,aU with
  | [z],[t],gI,_,aU=>
    rw[cT,Bool.and_eq_true,decide_eq_true_eq]at aU
    rw[←aU.1];exact gI.1
 ·exact absurd dO.symm hk
def pk(op:Int)(a b:Ex):Ex:=
    if op=20 then(if a.op=5∨b.op=5 then bz 5 0 else if a.op=4 then b else if b.op=4 then a else .mk op 0 [] [a,b])
    else if op=21 then(if a.op=4∨b.op=4 then bz 4 0 else if a.op=5 then b else if b.op=5 then a else .mk op 0 [] [a,b])
    else if op=22 then(if a.op=5∨b.op=4 then bz 4 0 else if a.op=4 then b else if b.op=5 then(if a.op=19 then a.args.headD (bz 0 0)else .mk 19 0 [] [a])else .mk op 0 [] [a,b])
    else if op=8 then(if jd b then a else if jd a then b else .mk op 0 [] [a,b])
    else if op=9 then(if jd b then a else .mk op 0 [] [a,b])
    else if op=10 then(if lM b then a else if lM a then b else .mk op 0 [] [a,b])
    else if op=11 then(if lM b then a else .mk op 0 [] [a,b])
    else .mk op 0 [] [a,b]
theorem fY(op:Int)(a b:Ex):mB op [a,b]=pk op a b:=rfl
theorem wo{y:Ex}(h:lM y=true):y.op=1:=by unfold lM at h;simp at h;exact h.1
theorem Q0{scope op k:Int}{ts:List Int}{ys:List Ex}(kZ:uc scope ts ys)(h7:7≤op)(Aq:op≤22)(aX:aW op ys.length=true)(hr:dk op ts=k)(hk:k≠0):FK scope k (mB op ys):=by
 have fo:FK scope k (.mk op 0 [] ys):=FK.mk (by omega) Aq (by omega) aX kZ hr hk
 match ys,ts,kZ,aX,hr,fo with
 | [],[],_,_,_,fo=>exact fo
 | [a],[t],kZ,aX,hr,fo=>
   show FK scope k (if op=19∧a.op=19 then a.args.headD (bz 0 0)else .mk op 0 [] [a])
   split
   ·rename_i h
    obtain⟨rfl,h2⟩:=h
    have:=kZ.1.not h2
    have dO:(if cI [t] 4=true then(4:Int)else 0)=k:=hr
    split at dO
    ·rw[←dO];exact this.2
    ·exact absurd dO.symm hk
   ·exact fo
 | [a,b],[t,u],kZ,aX,hr,fo=>
   obtain⟨ha,hb,_⟩:=kZ
   have Z2:(op=20∨op=21∨op=22)→t=4∧u=4∧k=4:=by
    intro ho
    have dO:(if cI [t,u] 4=true then(4:Int)else 0)=k:=by rcases ho with rfl|rfl|rfl <;> exact hr
    split at dO
    ·rename_i aU
     rw[cT,cT,kb,Bool.and_eq_true,Bool.and_eq_true,decide_eq_true_eq,decide_eq_true_eq]at aU
     exact⟨aU.1,aU.2.1,dO.symm⟩
    ·exact absurd dO.symm hk
   have htt:(op=8∨op=9)→t=k∧u=k:=by
    intro ho
    have dO:(if cI [t,u] 1=true then(1:Int)else if cI [t,u] 2=true then 2 else 0)=k:=by rcases ho with rfl|rfl <;> exact hr
    rw[cT,cT,kb,cT,cT,kb]at dO
    simp only[Bool.and_true,Bool.and_eq_true,decide_eq_true_eq]at dO
    split at dO
    ·omega
    ·split at dO <;> omega
   have T4:FK scope 4 (bz 4 0):=FK.leaf (.inr (.inr (.inr (.inl ⟨rfl,rfl,rfl⟩))))
   have T5:FK scope 4 (bz 5 0):=FK.leaf (.inr (.inr (.inr (.inr ⟨rfl,rfl,rfl⟩))))
   rw[fY]
   unfold pk
   by_cases Z3:op=20
   ·obtain⟨rfl,rfl,rfl⟩:=Z2 (.inl Z3)
    rw[if_pos Z3]
    split
    ·exact T5
    ·split
     ·exact hb
     ·split
      ·exact ha
      ·exact fo
   rw[if_neg Z3]
   by_cases Z4:op=21
   ·obtain⟨rfl,rfl,rfl⟩:=Z2 (.inr (.inl Z4))
    rw[if_pos Z4]
    split
    ·exact T4
    ·split
     ·exact hb
     ·split
      ·exact ha
      ·exact fo
   rw[if_neg Z4]
   by_cases Z5:op=22
   ·obtain⟨rfl,rfl,rfl⟩:=Z2 (.inr (.inr Z5))
    rw[if_pos Z5]
    split
    ·exact T4
    ·split
     ·exact hb
     ·split
      ·split
       ·rename_i m4
        exact(ha.not m4).2
       ·exact FK.mk (ts:= [4]) (by decide) (by decide) (by decide) rfl ⟨ha,trivial⟩ rfl (by decide)
      ·exact fo
   rw[if_neg Z5]
   by_cases o8:op=8
   ·obtain⟨rfl,rfl⟩:=htt (.inl o8)
    rw[if_pos o8]
    split
    ·exact ha
    ·split
     ·exact hb
     ·exact fo
   rw[if_neg o8]
   by_cases o9:op=9
   ·obtain⟨rfl,rfl⟩:=htt (.inr o9)
    rw[if_pos o9]
    split
    ·exact ha
    ·exact fo
   rw[if_neg o9]
   by_cases o10:op=10
   ·subst o10
    have dO:eu 10 t u=k:=hr
    unfold eu at dO
    rw[if_pos rfl]
    split
    ·rename_i h1
     have:=hb.op1 (wo h1)
     have e:t=k:=by
      split at dO
      ·omega
      ·split at dO
       ·omega
       ·split at dO
        ·omega
        ·split at dO <;> omega
     rw[←e];exact ha
    ·split
     ·rename_i h1
      have:=ha.op1 (wo h1)
      have e:u=k:=by
       split at dO
       ·omega
       ·split at dO
        ·omega
        ·split at dO
         ·omega
         ·split at dO <;> omega
      rw[←e];exact hb
     ·exact fo
   rw[if_neg o10]
   by_cases o11:op=11
   ·subst o11
    have dO:eu 11 t u=k:=hr
    unfold eu at dO
    rw[if_pos rfl]
    split
    ·rename_i h1
     have:=hb.op1 (wo h1)
     have e:t=k:=by
      split at dO
      ·omega
      ·split at dO
       ·omega
       ·split at dO
        ·omega
        ·split at dO <;> omega
     rw[←e];exact ha
    ·exact fo
   rw[if_neg o11]
   exact fo
 | [a,b,c],[t,u,w],kZ,aX,hr,fo=>
   obtain⟨ha,hb,hc,_⟩:=kZ
   show FK scope k (if op=14 then(if a.op=4 then b else if a.op=5 then c else .mk op 0 [] [a,b,c])else .mk op 0 [] [a,b,c])
   split
   ·rename_i o14
    subst o14
    have dO:(if t=4∧u=w then u else 0)=k:=hr
    split at dO
    ·rename_i hh
     obtain⟨_,rfl⟩:=hh
     subst dO
     split
     ·exact hb
     ·split
      ·exact hc
      ·exact fo
    ·exact absurd dO.symm hk
   ·exact fo
 |a::b::c::d::rest,_,_,_,_,fo=>exact fo
end Go.Proofs.YtfenhjpkomldcaaGreat
namespace Go.Proofs.YtfenhjpkomldcaaGreat
open Go Go.Ev
theorem Ex.fold_eq(cl:List Nat→Int×Int)(cx:List Nat→Ex)(scope:Int)(x:Ex):x.fold cl cx scope=
  if x.op=6 then(if dE scope x.name≠0 then x else cx x.name)
  else if x.args.isEmpty then x
  else if(dm cl cx scope x.args).all isLit then ew (x.ty cl scope).1 (oG x.op ((dm cl cx scope x.args).map jo))
  else mB x.op (dm cl cx scope x.args):=by obtain⟨_,_,_,_⟩:=x;rw[Ex.fold];rfl
theorem pr(cl:List Nat→Int×Int)(cx:List Nat→Ex)(scope:Int): ∀xs,dm cl cx scope xs=xs.map (Ex.fold cl cx scope)
 | []=>rfl
 |x::xs=>by rw[dm,pr cl cx scope xs];rfl
theorem kL{cl:List Nat→Int×Int}{scope k:Int}{x:Ex}(ht:x.ty cl scope=(k,0))(h6:x.op≠6): ∃ts,fE cl scope x.args= .ok ts∧dk x.op ts=k∧k≠0:=by
 rw[Ex.ty_eq,if_neg h6]at ht
 cases hr:fE cl scope x.args with
 |error e=>
  rw[hr]at ht
  have hh:((0:Int),e)=(k,0):=ht
  injection hh with _ h0
  exact absurd h0 (wk hr)
 |ok ts=>
  rw[hr]at ht
  have hh:(if dk x.op ts=0 then((0:Int),(9:Int))else(dk x.op ts,0))=(k,0):=ht
  split at hh
  ·cases hh
  ·rename_i dr
   have e1:dk x.op ts=k:=by injection hh
   exact⟨ts,rfl,e1,by rw[←e1];exact dr⟩
theorem gY{cl:List Nat→Int×Int}{scope:Int}{x:Ex}{xs:List Ex}{ts:List Int}(h:fE cl scope (x::xs)= .ok ts): ∃t us,ts=t::us∧x.ty cl scope=(t,0)∧fE cl scope xs= .ok us:=by
 rw[fE]at h
 split at h
 ·cases h
 ·rename_i h0
  cases hx:fE cl scope xs with
  |error e=>rw[hx]at h;cases h
  |ok us=>
   rw[hx]at h;cases h
   have e2:(x.ty cl scope).2=0:=by simpa using h0
   exact⟨_,us,rfl,by rw[←e2],rfl⟩
theorem er{x:Ex}(h:x.wf=true):1≤x.op∧x.op≤22∧aW x.op x.args.length=true∧(0≤x.num∧x.num≤ga x.op)∧(if x.op=6 then gB x.name=true else x.name= [])∧fG x.args=true:=by
 rw[Ex.wf_eq,Bool.and_eq_true]at h
 obtain⟨iE,jC⟩:=h
 simp only[fe,Bool.and_eq_true,decide_eq_true_eq]at iE
 obtain⟨h1,h2,h3,h4,h5⟩:=iE
 refine⟨h1,h2,h3,h4, ?_,jC⟩
 split at h5 <;> rename_i e
 ·rw[if_pos e];exact h5
 ·rw[if_neg e];simpa using h5
theorem vI{op:Int}{n:Nat}(h1:1≤op)(aX:aW op n=true)(hn:n≠0):7≤op:=by
 by_cases h:op≤6
 ·simp[aW,h]at aX;omega
 ·omega
theorem Lg{op:Int}{n:Nat}(h2:op≤22)(aX:aW op n=true)(hn:n=0):op≤6:=by
 subst hn
 by_cases h:op≤6
 ·exact h
 ·rcases ed (show 1≤op by omega) h2 with rfl|rfl|rfl|rfl|rfl|rfl|rfl|rfl|rfl|rfl|rfl|rfl|rfl|rfl|rfl|rfl|rfl|rfl|rfl|rfl|rfl|rfl <;> simp[aW]at aX h
def Qj(cl:List Nat→Int×Int)(cx:List Nat→Ex):Prop:= ∀s t,cl s=(t,0)→ ∃n,cx s=ew t n∧Ar t n
theorem lits{scope:Int}: ∀{ts:List Int} {ys:List Ex},uc scope ts ys→ys.all isLit=true→ou ts (ys.map jo)∧qk ys=ts
 | [],[],_,_=>⟨trivial,rfl⟩
 |t::ts,y::ys,h,ha=>by
  rw[List.all_cons,Bool.and_eq_true]at ha
  have h1:=h.1.lit ha.1
  have h2:=lits h.2 ha.2
  exact⟨⟨h1.1,h2.1⟩,by rw[qk,h1.2.1,h2.2]⟩
theorem BS{cl:List Nat→Int×Int}{cx:List Nat→Ex}(hc:Qj cl cx)(scope:Int)(x:Ex): ∀k,x.wf=true→x.ty cl scope=(k,0)→FK scope k (x.fold cl cx scope):=by
 induction x using Ex.ind with
 |h x ih=>
  intro k fy ht
  obtain⟨h1,h2,aX,gr,iA,jC⟩:=er fy
  rw[Ex.fold_eq]
  by_cases h6:x.op=6
  ·rw[if_pos h6]
   rw[Ex.ty_eq,if_pos h6]at ht
   by_cases hz:dE scope x.name≠0
   ·rw[if_pos hz]
    rw[if_pos hz]at ht
    refine⟨fy, ?_⟩
    rw[Ex.ty_eq,if_pos h6,if_pos hz];exact ht
   ·rw[if_neg hz]
    rw[if_neg hz]at ht
    obtain⟨n,e,hn⟩:=hc _ _ ht
    rw[e];exact(qL hn).1
  rw[if_neg h6]
  obtain⟨ts,gI,hr,hk⟩:=kL ht h6
  by_cases he:x.args.isEmpty=true
  ·rw[if_pos he]
   have nM:x.args= []:=by simpa using he
   refine⟨fy, ?_⟩
   rw[nM,fE]at gI
   cases gI
   rw[Ex.ty_eq,if_neg h6,nM,fE]
   show(if dk x.op []=0 then((0:Int),(9:Int))else(dk x.op [],0))=(k,0)
   rw[hr,if_neg hk]
  ·rw[if_neg he]
   have dr:x.args.length≠0:=by
    intro h;exact he (by simp[List.length_eq_zero_iff.1 h])
   have h7:=vI h1 aX dr
   have kZ:uc scope ts (dm cl cx scope x.args):=by
    clear ht aX dr he hr fy gr iA
    generalize x.args=xs at ih gI jC
    induction xs generalizing ts with
    |nil=>rw[fE]at gI;cases gI;trivial
    |cons z zs Lh=>
     obtain⟨t,us,rfl,e1,e2⟩:=gY gI
     rw[fG,Bool.and_eq_true]at jC
     rw[dm]
     exact⟨ih z (by simp) t jC.1 e1,Lh us (fun y hy=>ih y (by simp[hy])) e2 jC.2⟩
   have hlen:ts.length=x.args.length:=mb gI
   by_cases aU:(dm cl cx scope x.args).all isLit=true
   ·rw[if_pos aU,ht]
    exact(qL (yc (lits kZ aU).1 h7 h2 (by rw[hlen];exact aX) hr hk).2).1
   ·rw[if_neg aU]
    exact Q0 kZ h7 h2 (by rw[←kZ.len,hlen];exact aX) hr hk
end Go.Proofs.YtfenhjpkomldcaaGreat
namespace Go.Proofs.YtfenhjpkomldcaaGreat
open Go Go.Ev
def BK(ys:List Ex):Prop:= ∀y∈ys,y.op=7→0<y.args.length
theorem Iz{ys:List Ex}{k:Nat}(hk:k<ys.length):(ys.drop k).all isLit=(isLit ys[k]&&(ys.drop (k+1)).all isLit):=by rw[j8 hk,List.all_cons]
theorem VQ(ys:List Ex)(hn:BK ys)(a:T)(cc:List T)(ha:aN a ys.length cc)(hx:aL ys cc)(hlen:ys.length≤gi)(o:Out)(ho:o=if ys.all isLit then .ext 0 else .ret)(fr:Fr)(lh:aQ aA)(sh:List aA)
  (h0:an fr 0=a) (h1:an fr 1= .fn 147 [] []) (h7:an fr 7= .i .i64 (ys.length:Int)) (h8:an fr 8= .i .i64 0):
  DC pE 19 (.loop fK) ⟨fr,lh,sh⟩=some (o,⟨ev pE 19 fK fr lh sh,eP pE 19 fK fr lh sh,eJ pE 19 fK fr lh sh⟩)∧
  ((ys.all isLit=false→ ∃k:Nat,an (ev pE 19 fK fr lh sh) 4= .i .i64 (k:Int))∧eP pE 19 fK fr lh sh=lh∧eJ pE 19 fK fr lh sh=sh):=by
 refine a6 (P:=fun fr dj cq=>(ys.all isLit=false→ ∃k:Nat,an fr 4= .i .i64 (k:Int))∧dj=lh∧cq=sh) (bt (fun k st=> ∃(fr:Fr),st=⟨fr,lh,sh⟩∧an fr 0=a∧an fr 1= .fn 147 [] []∧an fr 7= .i .i64 (ys.length:Int)∧an fr 8= .i .i64 (k:Int)∧ys.all isLit=(ys.drop k).all isLit) _ ys.length ?_ ?_ 0 _ (Nat.zero_le _) ⟨fr,rfl,h0,h1,h7,h8,rfl⟩)
 ·rintro k _ hk ⟨fr,rfl,h0,h1,h7,h8,aU⟩
  have dN:(k:Int)<ys.length:=by omega
  have hw:=cE (k:=k) (by omega)
  obtain⟨b,cb,r,cQ,fu,oq,hb⟩:=dV ha hx k hk
  have aB:=Ee ys[k] _ hb (hn _ (List.getElem_mem hk))
  rw[Iz hk]at aU
  cases hf:isLit ys[k]with
  |true=>
   left
   rw[hf]at aB aU
   rw[Bool.not_true]at aB
   simp(maxDischargeDepth:=6) only[qF,ah,ai,ab,aj,ae,fV,reduceCtorEq,Nat.reduceLT,Nat.reduceLeDiff,Nat.reduceEqDiff,fK,h0,h1,h7,h8,dN,cQ,hw,aB,Mt,fu.froz1]
   refine⟨_,rfl,_,rfl, ?_, ?_, ?_, ?_,aU⟩ <;> simp(maxDischargeDepth:=6) only[ab,ae,reduceCtorEq,Nat.reduceEqDiff,h0,h1,h7]
  |false=>
   right
   rw[hf]at aB aU
   rw[Bool.not_false]at aB
   simp(maxDischargeDepth:=6) only[qF,ah,ai,ab,aj,ae,fV,reduceCtorEq,Nat.reduceLT,Nat.reduceLeDiff,Nat.reduceEqDiff,fK,h0,h1,h7,h8,dN,cQ,aB,Mt,fu.froz1]
   refine⟨_,_,(by simp:Out.ret≠ .nrm),rfl,by rw[ho,aU];rfl,fun _=>⟨k,by simp(maxDischargeDepth:=6) only[ab]⟩,rfl,rfl⟩
 ·rintro _ ⟨fr,rfl,h0,h1,h7,h8,aU⟩
  rw[List.drop_length]at aU
  have aU:ys.all isLit=true:=aU
  simp(maxDischargeDepth:=6) only[ah,ai,ab,ae,ak,Nat.reduceLT,fK,h7,h8,Int.lt_irrefl]
  exact⟨_,_,(by simp:Out.ext 0≠ .nrm),rfl,by rw[ho,aU];rfl,fun hc=>(by rw[aU]at hc;cases hc),rfl,rfl⟩
theorem vG(ys:List Ex)(hn:BK ys)(a:T)(cc:List T)(ha:aN a ys.length cc)(hx:aL ys cc)(hlen:ys.length≤gi):aa pE 146 [a,.fn 147 [] []] []=some (.b (!ys.all isLit),[]):=by
 have hL:=fun fr lh sh h0 h1 h7 h8=>VQ ys hn a cc ha hx hlen _ rfl fr lh sh h0 h1 h7 h8
 have hfz:froz (.fn 147 [] [])=true:=rfl
 have hI: ∃j:Int,aa pE 216 [a,.fn 147 [] []] []=some (.i .i64 j,[])∧(0≤j↔ys.all isLit=false):=by
  rw[aD MX (by simp[Cn])]
  cases h:ys.all isLit with
  |true=>
   have Ej:=fun fr lh sh h0 h1 h7 h8=>And.intro (hL fr lh sh h0 h1 h7 h8).1 (hL fr lh sh h0 h1 h7 h8).2.2
   simp only[h,if_true]at Ej
   simp(maxDischargeDepth:=6) only[qF,ah,ai,ab,aj,ae,Int.reduceNeg,reduceCtorEq,Nat.reduceLT,Nat.reduceEqDiff,Cn,ha.lenI,Ej]
   exact⟨-1,rfl,by simp⟩
  |false=>
   have Ej:=fun fr lh sh h0 h1 h7 h8=>And.intro (hL fr lh sh h0 h1 h7 h8).1 (hL fr lh sh h0 h1 h7 h8).2.2
   simp only[h,Bool.false_eq_true,if_false]at Ej
   simp(maxDischargeDepth:=6) only[qF,ah,ai,ab,ae,Int.reduceNeg,reduceCtorEq,Nat.reduceLT,Nat.reduceEqDiff,Cn,ha.lenI,Ej]
   generalize hX:an _ _=X
   obtain⟨k,e⟩: ∃k:Nat,X= .i .i64 (k:Int):=by
    rw[←hX]
    refine(hL _ _ _ ?_ ?_ ?_ ?_).2.1 h <;> simp(maxDischargeDepth:=6) only[ab,ae,reduceCtorEq,Nat.reduceEqDiff]
   rw[e]
   exact⟨k,rfl,by simp⟩
 obtain⟨j,hj,lR⟩:=hI
 rw[aD Mr (by simp[EA])]
 have e:decide (0≤j)= !ys.all isLit:=by
  cases h:ys.all isLit with
  |true=>rw[h]at lR;simp at lR;simp;omega
  |false=>rw[h]at lR;simp at lR;simp[lR]
 simp(maxDischargeDepth:=6) only[qF,ah,ai,ab,aj,ae,reduceCtorEq,Nat.reduceLT,Nat.reduceEqDiff,EA,hj,SL,ha.froz,hfz,e]
end Go.Proofs.YtfenhjpkomldcaaGreat
namespace Go.Proofs.YtfenhjpkomldcaaGreat
open Go Go.Ev
theorem lj{xs:List Ex}{a:T}{cc:List T}(h1:aN a xs.length cc)(h2:aL xs cc)(k:Nat)(hk:k<xs.length)(j:Int)(hj:j=(k:Int)):
  ∃b r,(∀kk,tJ a (.i kk j) 4=some (.vp (.i .i64 xs[k].op:: .i .i64 xs[k].num:: .s xs[k].name::b::r)))∧(∃cb,aN b xs[k].args.length cb∧aL xs[k].args cb)∧froz1 b=true∧bj xs[k] [.i .i64 xs[k].op,.i .i64 xs[k].num,.s xs[k].name,b]:=by
 obtain⟨b,cb,r,cQ,h3,h4,h5⟩:=dV h1 h2 k hk
 subst hj
 exact⟨b,r,cQ,⟨cb,h3,h4⟩,h3.froz1,h5⟩
theorem jD(op:Int)(ys:List Ex)(a:T)(cc:List T)(ha:aN a ys.length cc)(hx:aL ys cc):bj (.mk op 0 [] ys) [.i .i64 op,.i .i64 0,.s [],a]:=bj.of (x:= .mk op 0 [] ys) ha hx
theorem p7(op:Int)(ho:op=20∨op=21)(x y:Ex)(a:T)(cc:List T)(ha:aN a 2 cc)(hx:aL [x,y] cc): ∃cs,aa pE 150 [.agg [.i .i64 op,.i .i64 0,.s [],a]] []=some (.agg cs,[])∧bj (pk op x y) cs:=by
 obtain⟨b0,r0,bB,_,kJ,lp⟩:=lj (xs:= [x,y]) ha hx 0 (by simp) 0 rfl
 obtain⟨b1,r1,bK,_,jl,gG⟩:=lj (xs:= [x,y]) ha hx 1 (by simp) 1 rfl
 simp only[List.getElem_cons_zero,List.getElem_cons_succ]at bB bK lp gG
 have hn:=jD op [x,y] a cc ha hx
 rw[aD Mv (by simp[ng])]
 unfold pk
 rcases ho with rfl|rfl
 ·by_cases a5:x.op=5
  ·simp(maxDischargeDepth:=6) only[qF,ah,ai,ab,aj,ae,ak,aG,splice,aF,Nat.reduceAdd,Nat.reduceLT,Nat.reduceLeDiff,Nat.reduceEqDiff,Int.reduceEq,bV,gX,aV,ng,bB,bK,kJ,jl,a5,true_or]
   exact⟨_,rfl,bO _ _ _ cD⟩
  by_cases b5:y.op=5
  ·simp(maxDischargeDepth:=6) only[qF,ah,ai,ab,aj,ae,ak,aG,splice,aF,Nat.reduceAdd,Nat.reduceLT,Nat.reduceLeDiff,Nat.reduceEqDiff,Int.reduceEq,bV,gX,aV,ng,bB,bK,kJ,jl,a5,b5,or_true]
   exact⟨_,rfl,bO _ _ _ cD⟩
  by_cases a4:x.op=4
  ·simp(maxDischargeDepth:=6) only[qF,ah,ai,ab,aj,ae,ak,aG,splice,aF,Nat.reduceAdd,Nat.reduceLT,Nat.reduceLeDiff,Nat.reduceEqDiff,Int.reduceEq,bV,gX,aV,ng,bB,bK,kJ,jl,b5,a4,or_self]
   exact⟨_,rfl,gG⟩
  by_cases b4:y.op=4
  ·rw[b4]at gG
   simp(maxDischargeDepth:=6) only[qF,ah,ai,ab,aj,ae,ak,aG,splice,aF,Nat.reduceAdd,Nat.reduceLT,Nat.reduceLeDiff,Nat.reduceEqDiff,Int.reduceEq,bV,gX,aV,ng,bB,bK,kJ,jl,a5,a4,b4,or_self]
   exact⟨_,rfl,lp⟩
  ·simp(maxDischargeDepth:=6) only[qF,ah,ai,ab,aj,ae,ak,aG,splice,aF,Nat.reduceAdd,Nat.reduceLT,Nat.reduceLeDiff,Nat.reduceEqDiff,Int.reduceEq,bV,gX,aV,ng,bB,bK,kJ,jl,ha.froz1,a5,b5,a4,b4,or_self]
   exact⟨_,rfl,hn⟩
 ·by_cases a4:x.op=4
  ·simp(maxDischargeDepth:=6) only[qF,ah,ai,ab,aj,ae,ak,aG,splice,aF,Nat.reduceAdd,Nat.reduceLT,Nat.reduceLeDiff,Nat.reduceEqDiff,Int.reduceEq,bV,gX,aV,ng,bB,bK,kJ,jl,a4,true_or]
   exact⟨_,rfl,bO _ _ _ cD⟩
  by_cases b4:y.op=4
  ·simp(maxDischargeDepth:=6) only[qF,ah,ai,ab,aj,ae,ak,aG,splice,aF,Nat.reduceAdd,Nat.reduceLT,Nat.reduceLeDiff,Nat.reduceEqDiff,Int.reduceEq,bV,gX,aV,ng,bB,bK,kJ,jl,a4,b4,or_true]
   exact⟨_,rfl,bO _ _ _ cD⟩
  by_cases a5:x.op=5
  ·simp(maxDischargeDepth:=6) only[qF,ah,ai,ab,aj,ae,ak,aG,splice,aF,Nat.reduceAdd,Nat.reduceLT,Nat.reduceLeDiff,Nat.reduceEqDiff,Int.reduceEq,bV,gX,aV,ng,bB,bK,kJ,jl,a5,b4,or_self]
   exact⟨_,rfl,gG⟩
  by_cases b5:y.op=5
  ·rw[b5]at gG
   simp(maxDischargeDepth:=6) only[qF,ah,ai,ab,aj,ae,ak,aG,splice,aF,Nat.reduceAdd,Nat.reduceLT,Nat.reduceLeDiff,Nat.reduceEqDiff,Int.reduceEq,bV,gX,aV,ng,bB,bK,kJ,jl,a5,b5,a4,or_self]
   exact⟨_,rfl,lp⟩
  ·simp(maxDischargeDepth:=6) only[qF,ah,ai,ab,aj,ae,ak,aG,splice,aF,Nat.reduceAdd,Nat.reduceLT,Nat.reduceLeDiff,Nat.reduceEqDiff,Int.reduceEq,bV,gX,aV,ng,bB,bK,kJ,jl,ha.froz1,a5,b5,a4,b4,or_self]
   exact⟨_,rfl,hn⟩
theorem kK(op:Int)(f:Nat)(is:Ex→Bool)(both:Bool)(hf: ∀(z:Ex) (b:T),froz1 b=true→ ∀d fr lh sh,ar pE (aa pE) d ⟨fr,lh,sh⟩ f [.agg [.i .i64 z.op,.i .i64 z.num,.s z.name,b]]=some (.b (is z),⟨fr,lh,sh⟩))(x y:Ex)(a:T)(cc:List T)(ha:aN a 2 cc)(hx:aL [x,y] cc):
  ∃cs,aa pE 152 [.agg [.i .i64 op,.i .i64 0,.s [],a],.fn f [] [],.b both] []=some (.agg cs,[])∧bj (if is y then x else if both&&is x then y else .mk op 0 [] [x,y]) cs:=by
 obtain⟨b0,r0,bB,_,kJ,lp⟩:=lj (xs:= [x,y]) ha hx 0 (by simp) 0 rfl
 obtain⟨b1,r1,bK,_,jl,gG⟩:=lj (xs:= [x,y]) ha hx 1 (by simp) 1 rfl
 simp only[List.getElem_cons_zero,List.getElem_cons_succ]at bB bK lp gG
 have hn:=jD op [x,y] a cc ha hx
 have h1:=fun d fr lh sh=>hf y b1 jl d fr lh sh
 have h0:=fun d fr lh sh=>hf x b0 kJ d fr lh sh
 rw[aD My (by simp[wG])]
 cases hy:is y with
 |true=>
  rw[hy]at h1
  simp(maxDischargeDepth:=6) only[qF,ah,ai,ab,aj,ae,ak,fV,splice,Nat.reduceAdd,reduceCtorEq,Nat.reduceLT,Nat.reduceLeDiff,Nat.reduceEqDiff,wG,bB,bK,kJ,h1]
  exact⟨_,rfl,lp⟩
 |false=>
  rw[hy]at h1
  cases both with
  |false=>
   simp(maxDischargeDepth:=6) only[qF,ah,ai,ab,aj,ae,ak,fV,splice,Nat.reduceAdd,reduceCtorEq,Nat.reduceLT,Nat.reduceLeDiff,Nat.reduceEqDiff,wG,bB,bK,ha.froz1,h1]
   exact⟨_,rfl,hn⟩
  |true=>
   cases Bm:is x with
   |true=>
    rw[Bm]at h0
    simp(maxDischargeDepth:=6) only[qF,ah,ai,ab,aj,ae,ak,fV,splice,Nat.reduceAdd,reduceCtorEq,Nat.reduceLT,Nat.reduceLeDiff,Nat.reduceEqDiff,wG,bB,bK,jl,h1,h0]
    exact⟨_,rfl,gG⟩
   |false=>
    rw[Bm]at h0
    simp(maxDischargeDepth:=6) only[qF,ah,ai,ab,aj,ae,ak,fV,splice,Nat.reduceAdd,reduceCtorEq,Nat.reduceLT,Nat.reduceLeDiff,Nat.reduceEqDiff,wG,bB,bK,ha.froz1,h1,h0]
    exact⟨_,rfl,hn⟩
end Go.Proofs.YtfenhjpkomldcaaGreat
