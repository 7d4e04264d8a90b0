/- Values of typed operators stay in their types: plain. Simplified nodes keep their types: plain. Simplified forms keep their types: plain. The program's reduce. The program's reduce: its parts. Conditions: the theorems' own. -/
import Derived.Test.YtfenhjpkomldcaaGreatM8
import Derived.KernelRfl
set_option maxRecDepth 100000
set_option linter.unusedSimpArgs false
set_option linter.unusedVariables false
set_option maxHeartbeats 16000000
namespace Go.Proofs.YtfenhjpkomldcaaGreat
open Go Go.Ev
def ra:List Int→List Int→Prop
 | [],[]=>True
 |t::ts,v::vs=>Dk t v∧ra ts vs
 |_,_=>False
theorem ra.len: ∀{ts vs:List Int},ra ts vs→ts.length=vs.length
 | [],[],_=>rfl
 |t::ts,v::vs,h=>by rw[List.length_cons,List.length_cons,ra.len h.2]
theorem ra.bd: ∀{ts vs:List Int},ra ts vs→ ∀v∈vs,bd v
 | [],[],_=>by simp
 |t::ts,v::vs,h=>by
  intro w hw
  rcases List.mem_cons.1 hw with rfl|hw
  ·exact vq h.1
  ·exact ra.bd h.2 w hw
theorem ra.all{k:Int}: ∀{ts vs:List Int},ra ts vs→cY ts k=true→ ∀v∈vs,Dk k v
 | [],[],_,_=>by simp
 |t::ts,v::vs,h,ha=>by
  rw[dt,Bool.and_eq_true,decide_eq_true_eq]at ha
  intro w hw
  rcases List.mem_cons.1 hw with rfl|hw
  ·rw[←ha.1];exact h.1
  ·exact ra.all h.2 ha.2 w hw
theorem DP(op:Int)(h:op=12∨op=13): ∀(vs:List Int) (m:Int),bd m→(∀v∈vs,bd v)→bd (B8 op m vs)
 | [],m,hm,_=>by rw[zt];exact hm
 |v::vs,m,hm,hv=>by
  rw[vR _ _ _ _ h]
  refine DP op h vs _ ?_ (fun w hw=>hv w (by simp[hw]))
  have:=hv v (by simp)
  split <;> (unfold Go.Proofs.YtfenhjpkomldcaaGreat.bd at *; omega)
theorem E7{ts:List Int}{k:Int}(h:(if cY ts 1=true then(1:Int)else if cY ts 2=true then 2 else 0)=k)(hk:k≠0):k=1∨k=2:=by
 split at h
 ·exact .inl h.symm
 ·split at h
  ·exact .inr h.symm
  ·exact absurd h.symm hk
theorem B0{op a b k:Int}(h:fm op a b=k)(hk:k≠0):k=1∨k=2:=by
 unfold fm at h
 split at h
 ·omega
 ·split at h
  ·omega
  ·split at h
   ·omega
   ·split at h <;> omega
theorem Bl{op k:Int}{ts vs:List Int}(j1:ra ts vs)(h7:7≤op)(Dj:op≤22)(bo:bm op ts.length=true)(hr:dJ op ts=k)(hk:k≠0):TW op vs∧Dk k (ry op vs):=by
 have jP:=j1.bd
 have hlen:=j1.len
 have flag: ∀b:Bool,Dk 4 (ov b):=fun b=> .inr (.inr ⟨rfl,Hs b⟩)
 rcases eP (show 1≤op by omega) Dj with rfl|rfl|rfl|rfl|rfl|rfl|rfl|rfl|rfl|rfl|rfl|rfl|rfl|rfl|rfl|rfl|rfl|rfl|rfl|rfl|rfl|rfl
 iterate 6 ·omega
 ·have Hv:=E7 hr hk
  obtain⟨v,rfl⟩:=BQ (ts:=vs) (by rw[←hlen];simpa[bm]using bo)
  exact⟨⟨jP,fun h=>absurd h (by decide),fun h=>absurd h (by decide)⟩,nl Hv (oA (jP v (by simp)))⟩
 ·have Hv:=E7 hr hk
  obtain⟨v,w,rfl⟩:=ft (ts:=vs) (by rw[←hlen];simpa[bm]using bo)
  exact⟨⟨jP,fun h=>absurd h (by decide),fun h=>absurd h (by decide)⟩,nl Hv (oW _)⟩
 ·have Hv:=E7 hr hk
  obtain⟨v,w,rfl⟩:=ft (ts:=vs) (by rw[←hlen];simpa[bm]using bo)
  exact⟨⟨jP,fun h=>absurd h (by decide),fun h=>absurd h (by decide)⟩,nl Hv (oW _)⟩
 ·have Hv:=B0 (op:=10) hr hk
  obtain⟨v,w,rfl⟩:=ft (ts:=vs) (by rw[←hlen];simpa[bm]using bo)
  exact⟨⟨jP,fun h=>absurd h (by decide),fun h=>absurd h (by decide)⟩,nl Hv (oW _)⟩
 ·have Hv:=B0 (op:=11) hr hk
  obtain⟨v,w,rfl⟩:=ft (ts:=vs) (by rw[←hlen];simpa[bm]using bo)
  exact⟨⟨jP,fun h=>absurd h (by decide),fun h=>absurd h (by decide)⟩,nl Hv (PD _ _)⟩
 iterate 2
  ·have Hv:=E7 hr hk
   match vs,jP,hlen with
   | [],_,hlen=>rw[hlen]at bo;simp[bm]at bo
   |v::vs,jP,_=>
    refine⟨⟨jP,fun h=>absurd h (by decide),fun h=>absurd h (by decide)⟩,nl Hv ?_⟩
    first
     |exact DP 12 (.inl rfl) vs v (jP v (by simp)) (fun w hw=>jP w (by simp[hw]))
     |exact DP 13 (.inr rfl) vs v (jP v (by simp)) (fun w hw=>jP w (by simp[hw]))
 ·obtain⟨a,b,c,rfl⟩:=zj (ts:=ts) (by simpa[bm]using bo)
  obtain⟨x,y,z,rfl⟩:=zj (ts:=vs) (by rw[←hlen];rfl)
  obtain⟨h1,h2,h3,_⟩:=j1
  have ep:(if a=4∧b=c then b else 0)=k:=hr
  split at ep
  ·rename_i LK
   obtain⟨rfl,rfl⟩:=LK
   subst ep
   have BW:=rh h1
   refine⟨⟨jP,fun h=>absurd h (by decide),fun _=>BW⟩, ?_⟩
   show Dk b (if x=0 then z else y)
   split
   ·exact h3
   ·exact h2
  ·exact absurd ep.symm hk
 ·have ep:(if cY ts 3=true then(4:Int)else 0)=k:=hr
  split at ep
  ·subst ep
   exact⟨⟨jP,fun h=>absurd h (by decide),fun h=>absurd h (by decide)⟩,flag _⟩
  ·exact absurd ep.symm hk
 iterate 2
  ·have ep:(if(a0 ts=1∨a0 ts=2)∧a0 ts=a1 ts then(4:Int)else 0)=k:=hr
   split at ep
   ·subst ep
    exact⟨⟨jP,fun h=>absurd h (by decide),fun h=>absurd h (by decide)⟩,flag _⟩
   ·exact absurd ep.symm hk
 ·have ep:(if a0 ts=a1 ts then(4:Int)else 0)=k:=hr
  split at ep
  ·subst ep
   exact⟨⟨jP,fun h=>absurd h (by decide),fun h=>absurd h (by decide)⟩,flag _⟩
  ·exact absurd ep.symm hk
 ·have ep:(if cY ts 4=true then(4:Int)else 0)=k:=hr
  split at ep
  ·rename_i bl
   subst ep
   have hb:=fun v hv=>rh (j1.all bl v hv)
   obtain⟨v,rfl⟩:=BQ (ts:=vs) (by rw[←hlen];simpa[bm]using bo)
   have hv:=hb v (by simp)
   refine⟨⟨jP,fun _=>hb,fun h=>absurd h (by decide)⟩,.inr (.inr ⟨rfl, ?_⟩)⟩
   show bit (1-v)
   unfold bit at *; omega
  ·exact absurd ep.symm hk
 iterate 3
  ·have ep:(if cY ts 4=true then(4:Int)else 0)=k:=hr
   split at ep
   ·rename_i bl
    subst ep
    have hb:=fun v hv=>rh (j1.all bl v hv)
    obtain⟨v,w,rfl⟩:=ft (ts:=vs) (by rw[←hlen];simpa[bm]using bo)
    have hv:=hb v (by simp)
    have hw:=hb w (by simp)
    refine⟨⟨jP,fun _=>hb,fun h=>absurd h (by decide)⟩,.inr (.inr ⟨rfl, ?_⟩)⟩
    first
     |(show bit (min v w);unfold bit at *; omega)
     |(show bit (max v w);unfold bit at *; omega)
     |(show bit (max (1-v) w);unfold bit at *; omega)
   ·exact absurd ep.symm hk
theorem OH{op k:Int}{ts:List Int}{ys:List Ex}(ZO:tf ys=ts)(h7:7≤op)(Dj:op≤22)(bo:bm op ts.length=true)(hr:dJ op ts=k)(hk:k≠0):(Ex.mk op 0 [] ys).kX=k:=by
 rw[Ex.kX_eq]
 show(if op=1 then(1:Int)else if op=2 then 2 else if op=3 then 3 else if op=7∨op=8∨op=9∨op=12∨op=13 then a0 (tf ys)else if op=14 then a1 (tf ys)
  else if op=10 then max (a0 (tf ys)) (a1 (tf ys))else if op=11 then(if a1 (tf ys)=2 then 1 else a0 (tf ys))else 4)=k
 rw[ZO]
 have nL: ∀t us,ts=t::us→(if cY ts 1=true then(1:Int)else if cY ts 2=true then 2 else 0)=k→t=k:=by
  rintro t us rfl h
  rw[Hn]at h
  split at h
  ·exact h
  ·exact absurd h.symm hk
 have hc: ∀t us,ts=t::us→a0 ts=t:=by rintro t us rfl;rfl
 rcases eP (show 1≤op by omega) Dj with rfl|rfl|rfl|rfl|rfl|rfl|rfl|rfl|rfl|rfl|rfl|rfl|rfl|rfl|rfl|rfl|rfl|rfl|rfl|rfl|rfl|rfl
 iterate 6 ·omega
 ·obtain⟨a,rfl⟩:=BQ (ts:=ts) (by simpa[bm]using bo)
  exact nL a [] rfl hr
 ·obtain⟨a,b,rfl⟩:=ft (ts:=ts) (by simpa[bm]using bo)
  exact nL a [b] rfl hr
 ·obtain⟨a,b,rfl⟩:=ft (ts:=ts) (by simpa[bm]using bo)
  exact nL a [b] rfl hr
 ·obtain⟨a,b,rfl⟩:=ft (ts:=ts) (by simpa[bm]using bo)
  have ep:fm 10 a b=k:=hr
  unfold fm at ep
  show max a b=k
  split at ep
  ·omega
  ·split at ep
   ·omega
   ·split at ep
    ·omega
    ·split at ep <;> omega
 ·obtain⟨a,b,rfl⟩:=ft (ts:=ts) (by simpa[bm]using bo)
  have ep:fm 11 a b=k:=hr
  unfold fm at ep
  show(if b=2 then(1:Int)else a)=k
  split at ep
  ·rw[if_neg (by omega)];omega
  ·split at ep
   ·rw[if_neg (by omega)];omega
   ·split at ep
    ·omega
    ·split at ep
     ·rw[if_pos (by omega)];omega
     ·omega
 iterate 2
  ·match ts,bo,hr,nL with
   | [],bo,_,_=>simp[bm]at bo
   |t::us,_,hr,nL=>exact nL t us rfl hr
 ·obtain⟨a,b,c,rfl⟩:=zj (ts:=ts) (by simpa[bm]using bo)
  have ep:(if a=4∧b=c then b else 0)=k:=hr
  split at ep
  ·exact ep
  ·exact absurd ep.symm hk
 all_goals
  (have h4:k=4∨k=0:=by
    simp only[dJ,Int.reduceEq,or_self,if_false,if_true,or_true,or_false]at hr
    split at hr <;> omega)
  (rcases h4 with rfl|rfl
   ·rfl
   ·exact absurd rfl hk)
end Go.Proofs.YtfenhjpkomldcaaGreat
namespace Go.Proofs.YtfenhjpkomldcaaGreat
open Go Go.Ev
theorem FK.op1{scope k:Int}{y:Ex}(h:FK scope k y)(h1:y.op=1):k=1:=by
 obtain⟨ts,_,hr,_⟩:=h.arg (by omega)
 rw[h1]at hr;exact hr.symm
theorem FK.not{scope k:Int}{y:Ex}(h:FK scope k y)(yU:y.op=19):k=4∧FK scope 4 (y.args.headD (bN 0 0)):=by
 obtain⟨_,_,bo,_⟩:=h.node
 obtain⟨ts,je,hr,hk⟩:=h.arg (by omega)
 have hlen:y.args.length=1:=by rw[yU]at bo;simpa[bm]using bo
 rw[yU]at hr
 have ep:(if cY ts 4=true then(4:Int)else 0)=k:=hr
 split at ep
 ·rename_i bl
  refine⟨ep.symm, ?_⟩
  generalize y.args=l at je hlen
  match l,ts,je,hlen,bl with
  | [z],[t],je,_,bl=>
    rw[dt,Bool.and_eq_true,decide_eq_true_eq]at bl
    rw[←bl.1];exact je.1
 ·exact absurd ep.symm hk
def rX(op:Int)(a b:Ex):Ex:=
    if op=20 then(if a.op=5∨b.op=5 then bN 5 0 else if a.op=4 then b else if b.op=4 then a else .mk op 0 [] [a,b])
    else if op=21 then(if a.op=4∨b.op=4 then bN 4 0 else if a.op=5 then b else if b.op=5 then a else .mk op 0 [] [a,b])
    else if op=22 then(if a.op=5∨b.op=4 then bN 4 0 else if a.op=4 then b else if b.op=5 then(if a.op=19 then a.args.headD (bN 0 0)else .mk 19 0 [] [a])else .mk op 0 [] [a,b])
    else if op=8 then(if gn b then a else if gn a then b else .mk op 0 [] [a,b])
    else if op=9 then(if gn b then a else .mk op 0 [] [a,b])
    else if op=10 then(if og b then a else if og a then b else .mk op 0 [] [a,b])
    else if op=11 then(if og b then a else .mk op 0 [] [a,b])
    else .mk op 0 [] [a,b]
theorem iz(op:Int)(a b:Ex):pg op [a,b]=rX op a b:=rfl
theorem zx{y:Ex}(h:og y=true):y.op=1:=by unfold og at h;simp at h;exact h.1
theorem UR{scope op k:Int}{ts:List Int}{ys:List Ex}(pB:xA scope ts ys)(h7:7≤op)(Dj:op≤22)(bo:bm op ys.length=true)(hr:dJ op ts=k)(hk:k≠0):FK scope k (pg op ys):=by
 have gq:FK scope k (.mk op 0 [] ys):=FK.mk (by omega) Dj (by omega) bo pB hr hk
 match ys,ts,pB,bo,hr,gq with
 | [],[],_,_,_,gq=>exact gq
 | [a],[t],pB,bo,hr,gq=>
   show FK scope k (if op=19∧a.op=19 then a.args.headD (bN 0 0)else .mk op 0 [] [a])
   split
   ·rename_i h
    obtain⟨rfl,h2⟩:=h
    have:=pB.1.not h2
    have ep:(if cY [t] 4=true then(4:Int)else 0)=k:=hr
    split at ep
    ·rw[←ep];exact this.2
    ·exact absurd ep.symm hk
   ·exact gq
 | [a,b],[t,u],pB,bo,hr,gq=>
   obtain⟨ha,hb,_⟩:=pB
   have h44:(op=20∨op=21∨op=22)→t=4∧u=4∧k=4:=by
    intro ho
    have ep:(if cY [t,u] 4=true then(4:Int)else 0)=k:=by rcases ho with rfl|rfl|rfl <;> exact hr
    split at ep
    ·rename_i bl
     rw[dt,dt,mF,Bool.and_eq_true,Bool.and_eq_true,decide_eq_true_eq,decide_eq_true_eq]at bl
     exact⟨bl.1,bl.2.1,ep.symm⟩
    ·exact absurd ep.symm hk
   have htt:(op=8∨op=9)→t=k∧u=k:=by
    intro ho
    have ep:(if cY [t,u] 1=true then(1:Int)else if cY [t,u] 2=true then 2 else 0)=k:=by rcases ho with rfl|rfl <;> exact hr
    rw[dt,dt,mF,dt,dt,mF]at ep
    simp only[Bool.and_true,Bool.and_eq_true,decide_eq_true_eq]at ep
    split at ep
    ·omega
    ·split at ep <;> omega
   have T4:FK scope 4 (bN 4 0):=FK.leaf (.inr (.inr (.inr (.inl ⟨rfl,rfl,rfl⟩))))
   have T5:FK scope 4 (bN 5 0):=FK.leaf (.inr (.inr (.inr (.inr ⟨rfl,rfl,rfl⟩))))
   rw[iz]
   unfold rX
   by_cases o20:op=20
   ·obtain⟨rfl,rfl,rfl⟩:=h44 (.inl o20)
    rw[if_pos o20]
    split
    ·exact T5
    ·split
     ·exact hb
     ·split
      ·exact ha
      ·exact gq
   rw[if_neg o20]
   by_cases o21:op=21
   ·obtain⟨rfl,rfl,rfl⟩:=h44 (.inr (.inl o21))
    rw[if_pos o21]
    split
    ·exact T4
    ·split
     ·exact hb
     ·split
      ·exact ha
      ·exact gq
   rw[if_neg o21]
   by_cases o22:op=22
   ·obtain⟨rfl,rfl,rfl⟩:=h44 (.inr (.inr o22))
    rw[if_pos o22]
    split
    ·exact T4
    ·split
     ·exact hb
     ·split
      ·split
       ·rename_i yU
        exact(ha.not yU).2
       ·exact FK.mk (ts:= [4]) (by decide) (by decide) (by decide) rfl ⟨ha,trivial⟩ rfl (by decide)
      ·exact gq
   rw[if_neg o22]
   by_cases o8:op=8
   ·obtain⟨rfl,rfl⟩:=htt (.inl o8)
    rw[if_pos o8]
    split
    ·exact ha
    ·split
     ·exact hb
     ·exact gq
   rw[if_neg o8]
   by_cases o9:op=9
   ·obtain⟨rfl,rfl⟩:=htt (.inr o9)
    rw[if_pos o9]
    split
    ·exact ha
    ·exact gq
   rw[if_neg o9]
   by_cases o10:op=10
   ·subst o10
    have ep:fm 10 t u=k:=hr
    unfold fm at ep
    rw[if_pos rfl]
    split
    ·rename_i h1
     have:=hb.op1 (zx h1)
     have e:t=k:=by
      split at ep
      ·omega
      ·split at ep
       ·omega
       ·split at ep
        ·omega
        ·split at ep <;> omega
     rw[←e];exact ha
    ·split
     ·rename_i h1
      have:=ha.op1 (zx h1)
      have e:u=k:=by
       split at ep
       ·omega
       ·split at ep
        ·omega
        ·split at ep
         ·omega
         ·split at ep <;> omega
      rw[←e];exact hb
     ·exact gq
   rw[if_neg o10]
   by_cases o11:op=11
   ·subst o11
    have ep:fm 11 t u=k:=hr
    unfold fm at ep
    rw[if_pos rfl]
    split
    ·rename_i h1
     have:=hb.op1 (zx h1)
     have e:t=k:=by
      split at ep
      ·omega
      ·split at ep
       ·omega
       ·split at ep
        ·omega
        ·split at ep <;> omega
     rw[←e];exact ha
    ·exact gq
   rw[if_neg o11]
   exact gq
 | [a,b,c],[t,u,w],pB,bo,hr,gq=>
   obtain⟨ha,hb,hc,_⟩:=pB
   show FK scope k (if op=14 then(if a.op=4 then b else if a.op=5 then c else .mk op 0 [] [a,b,c])else .mk op 0 [] [a,b,c])
   split
   ·rename_i o14
    subst o14
    have ep:(if t=4∧u=w then u else 0)=k:=hr
    split at ep
    ·rename_i hh
     obtain⟨_,rfl⟩:=hh
     subst ep
     split
     ·exact hb
     ·split
      ·exact hc
      ·exact gq
    ·exact absurd ep.symm hk
   ·exact gq
 |a::b::c::d::rest,_,_,_,_,gq=>exact gq
end Go.Proofs.YtfenhjpkomldcaaGreat
namespace Go.Proofs.YtfenhjpkomldcaaGreat
open Go Go.Ev
theorem Ex.fold_eq(cl:List Nat→Int×Int)(cx:List Nat→Ex)(scope:Int)(x:Ex):x.fold cl cx scope=
  if x.op=6 then(if dI scope x.name≠0 then x else cx x.name)
  else if x.args.isEmpty then x
  else if(dM cl cx scope x.args).all isLit then fo (x.ty cl scope).1 (ry x.op ((dM cl cx scope x.args).map kZ))
  else pg x.op (dM cl cx scope x.args):=by obtain⟨_,_,_,_⟩:=x;rw[Ex.fold];rfl
theorem sb(cl:List Nat→Int×Int)(cx:List Nat→Ex)(scope:Int): ∀xs,dM cl cx scope xs=xs.map (Ex.fold cl cx scope)
 | []=>rfl
 |x::xs=>by rw[dM,sb cl cx scope xs];rfl
theorem ng{cl:List Nat→Int×Int}{scope k:Int}{x:Ex}(ht:x.ty cl scope=(k,0))(h6:x.op≠6): ∃ts,gS cl scope x.args= .ok ts∧dJ x.op ts=k∧k≠0:=by
 rw[Ex.ty_eq,if_neg h6]at ht
 cases hr:gS cl scope x.args with
 |error e=>
  rw[hr]at ht
  have hh:((0:Int),e)=(k,0):=ht
  injection hh with _ h0
  exact absurd h0 (zw hr)
 |ok ts=>
  rw[hr]at ht
  have hh:(if dJ x.op ts=0 then((0:Int),(9:Int))else(dJ x.op ts,0))=(k,0):=ht
  split at hh
  ·cases hh
  ·rename_i ev
   have e1:dJ x.op ts=k:=by injection hh
   exact⟨ts,rfl,e1,by rw[←e1];exact ev⟩
theorem js{cl:List Nat→Int×Int}{scope:Int}{x:Ex}{xs:List Ex}{ts:List Int}(h:gS cl scope (x::xs)= .ok ts): ∃t us,ts=t::us∧x.ty cl scope=(t,0)∧gS cl scope xs= .ok us:=by
 rw[gS]at h
 split at h
 ·cases h
 ·rename_i h0
  cases hx:gS cl scope xs with
  |error e=>rw[hx]at h;cases h
  |ok us=>
   rw[hx]at h;cases h
   have e2:(x.ty cl scope).2=0:=by simpa using h0
   exact⟨_,us,rfl,by rw[←e2],rfl⟩
theorem fk{x:Ex}(h:x.wf=true):1≤x.op∧x.op≤22∧bm x.op x.args.length=true∧(0≤x.num∧x.num≤iA x.op)∧(if x.op=6 then iY x.name=true else x.name= [])∧gT x.args=true:=by
 rw[Ex.wf_eq,Bool.and_eq_true]at h
 obtain⟨fh,lD⟩:=h
 simp only[fX,Bool.and_eq_true,decide_eq_true_eq]at fh
 obtain⟨h1,h2,h3,h4,h5⟩:=fh
 refine⟨h1,h2,h3,h4, ?_,lD⟩
 split at h5 <;> rename_i e
 ·rw[if_pos e];exact h5
 ·rw[if_neg e];simpa using h5
theorem yW{op:Int}{n:Nat}(h1:1≤op)(bo:bm op n=true)(hn:n≠0):7≤op:=by
 by_cases h:op≤6
 ·simp[bm,h]at bo;omega
 ·omega
theorem OM{op:Int}{n:Nat}(h2:op≤22)(bo:bm op n=true)(hn:n=0):op≤6:=by
 subst hn
 by_cases h:op≤6
 ·exact h
 ·rcases eP (show 1≤op by omega) h2 with rfl|rfl|rfl|rfl|rfl|rfl|rfl|rfl|rfl|rfl|rfl|rfl|rfl|rfl|rfl|rfl|rfl|rfl|rfl|rfl|rfl|rfl <;> simp[bm]at bo h
def T3(cl:List Nat→Int×Int)(cx:List Nat→Ex):Prop:= ∀s t,cl s=(t,0)→ ∃n,cx s=fo t n∧Dk t n
theorem lits{scope:Int}: ∀{ts:List Int} {ys:List Ex},xA scope ts ys→ys.all isLit=true→ra ts (ys.map kZ)∧tf ys=ts
 | [],[],_,_=>⟨trivial,rfl⟩
 |t::ts,y::ys,h,ha=>by
  rw[List.all_cons,Bool.and_eq_true]at ha
  have h1:=h.1.lit ha.1
  have h2:=lits h.2 ha.2
  exact⟨⟨h1.1,h2.1⟩,by rw[tf,h1.2.1,h2.2]⟩
theorem EW{cl:List Nat→Int×Int}{cx:List Nat→Ex}(hc:T3 cl cx)(scope:Int)(x:Ex): ∀k,x.wf=true→x.ty cl scope=(k,0)→FK scope k (x.fold cl cx scope):=by
 induction x using Ex.ind with
 |h x ih=>
  intro k gK ht
  obtain⟨h1,h2,bo,gJ,jT,lD⟩:=fk gK
  rw[Ex.fold_eq]
  by_cases h6:x.op=6
  ·rw[if_pos h6]
   rw[Ex.ty_eq,if_pos h6]at ht
   by_cases hz:dI scope x.name≠0
   ·rw[if_pos hz]
    rw[if_pos hz]at ht
    refine⟨gK, ?_⟩
    rw[Ex.ty_eq,if_pos h6,if_pos hz];exact ht
   ·rw[if_neg hz]
    rw[if_neg hz]at ht
    obtain⟨n,e,hn⟩:=hc _ _ ht
    rw[e];exact(tM hn).1
  rw[if_neg h6]
  obtain⟨ts,je,hr,hk⟩:=ng ht h6
  by_cases he:x.args.isEmpty=true
  ·rw[if_pos he]
   have wz:x.args= []:=by simpa using he
   refine⟨gK, ?_⟩
   rw[wz,gS]at je
   cases je
   rw[Ex.ty_eq,if_neg h6,wz,gS]
   show(if dJ x.op []=0 then((0:Int),(9:Int))else(dJ x.op [],0))=(k,0)
   rw[hr,if_neg hk]
  ·rw[if_neg he]
   have ev:x.args.length≠0:=by
    intro h;exact he (by simp[List.length_eq_zero_iff.1 h])
   have h7:=yW h1 bo ev
   have pB:xA scope ts (dM cl cx scope x.args):=by
    clear ht bo ev he hr gK gJ jT
    generalize x.args=xs at ih je lD
    induction xs generalizing ts with
    |nil=>rw[gS]at je;cases je;trivial
    |cons z zs ON=>
     obtain⟨t,us,rfl,e1,e2⟩:=js je
     rw[gT,Bool.and_eq_true]at lD
     rw[dM]
     exact⟨ih z (by simp) t lD.1 e1,ON us (fun y hy=>ih y (by simp[hy])) e2 lD.2⟩
   have hlen:ts.length=x.args.length:=oP je
   by_cases bl:(dM cl cx scope x.args).all isLit=true
   ·rw[if_pos bl,ht]
    exact(tM (Bl (lits pB bl).1 h7 h2 (by rw[hlen];exact bo) hr hk).2).1
   ·rw[if_neg bl]
    exact UR pB h7 h2 (by rw[←pB.len,hlen];exact bo) hr hk
end Go.Proofs.YtfenhjpkomldcaaGreat
namespace Go.Proofs.YtfenhjpkomldcaaGreat
open Go Go.Ev
def EN(ys:List Ex):Prop:= ∀y∈ys,y.op=7→0<y.args.length
theorem LN{ys:List Ex}{k:Nat}(hk:k<ys.length):(ys.drop k).all isLit=(isLit ys[k]&&(ys.drop (k+1)).all isLit):=by rw[mD hk,List.all_cons]
theorem ZH(ys:List Ex)(hn:EN ys)(a:T)(cc:List T)(ha:aR a ys.length cc)(hx:aK ys cc)(hlen:ys.length≤eG)(o:Out)(ho:o=if ys.all isLit then .ext 0 else .ret)(fr:Fr)(lh:aQ aB)(sh:List aB)
  (h0:ak fr 0=a) (h1:ak fr 1= .fn 147 [] []) (h7:ak fr 7= .i .i64 (ys.length:Int)) (h8:ak fr 8= .i .i64 0):
  DC pE 19 (.loop gZ) ⟨fr,lh,sh⟩=some (o,⟨cz pE 19 gZ fr lh sh,bK pE 19 gZ fr lh sh,cw pE 19 gZ fr lh sh⟩)∧
  ((ys.all isLit=false→ ∃k:Nat,ak (cz pE 19 gZ fr lh sh) 4= .i .i64 (k:Int))∧bK pE 19 gZ fr lh sh=lh∧cw pE 19 gZ fr lh sh=sh):=by
 refine aD (P:=fun fr bp br=>(ys.all isLit=false→ ∃k:Nat,ak fr 4= .i .i64 (k:Int))∧bp=lh∧br=sh) (aI (fun k st=> ∃(fr:Fr),st=⟨fr,lh,sh⟩∧ak fr 0=a∧ak fr 1= .fn 147 [] []∧ak fr 7= .i .i64 (ys.length:Int)∧ak fr 8= .i .i64 (k:Int)∧ys.all isLit=(ys.drop k).all isLit) _ ys.length ?_ ?_ 0 _ (Nat.zero_le _) ⟨fr,rfl,h0,h1,h7,h8,rfl⟩)
 ·rintro k _ hk ⟨fr,rfl,h0,h1,h7,h8,bl⟩
  have bt:(k:Int)<ys.length:=by omega
  have hw:=aJ (k:=k) (by omega)
  obtain⟨b,cb,r,bh,cH,nA,hb⟩:=dm ha hx k hk
  have az:=Hu ys[k] _ hb (hn _ (List.getElem_mem hk))
  rw[LN hk]at bl
  cases hf:isLit ys[k]with
  |true=>
   left
   rw[hf]at az bl
   rw[Bool.not_true]at az
   simp(maxDischargeDepth:=6) only[qF,ae,ah,aa,aj,ab,iq,reduceCtorEq,Nat.reduceLT,Nat.reduceLeDiff,Nat.reduceEqDiff,gZ,h0,h1,h7,h8,bt,bh,hw,az,Qa,cH.froz1]
   refine⟨_,rfl,_,rfl, ?_, ?_, ?_, ?_,bl⟩ <;> simp(maxDischargeDepth:=6) only[aa,ab,reduceCtorEq,Nat.reduceEqDiff,h0,h1,h7]
  |false=>
   right
   rw[hf]at az bl
   rw[Bool.not_false]at az
   simp(maxDischargeDepth:=6) only[qF,ae,ah,aa,aj,ab,iq,reduceCtorEq,Nat.reduceLT,Nat.reduceLeDiff,Nat.reduceEqDiff,gZ,h0,h1,h7,h8,bt,bh,az,Qa,cH.froz1]
   refine⟨_,_,(by simp:Out.ret≠ .nrm),rfl,by rw[ho,bl];rfl,fun _=>⟨k,by simp(maxDischargeDepth:=6) only[aa]⟩,rfl,rfl⟩
 ·rintro _ ⟨fr,rfl,h0,h1,h7,h8,bl⟩
  rw[List.drop_length]at bl
  have bl:ys.all isLit=true:=bl
  simp(maxDischargeDepth:=6) only[ae,ah,aa,ab,an,Nat.reduceLT,gZ,h7,h8,Int.lt_irrefl]
  exact⟨_,_,(by simp:Out.ext 0≠ .nrm),rfl,by rw[ho,bl];rfl,fun hc=>(by rw[bl]at hc;cases hc),rfl,rfl⟩
theorem yS(ys:List Ex)(hn:EN ys)(a:T)(cc:List T)(ha:aR a ys.length cc)(hx:aK ys cc)(hlen:ys.length≤eG):ai pE 146 [a,.fn 147 [] []] []=some (.b (!ys.all isLit),[]):=by
 have hL:=fun fr lh sh h0 h1 h7 h8=>ZH ys hn a cc ha hx hlen _ rfl fr lh sh h0 h1 h7 h8
 have pU:froz (.fn 147 [] [])=true:=rfl
 have hI: ∃j:Int,ai pE 216 [a,.fn 147 [] []] []=some (.i .i64 j,[])∧(0≤j↔ys.all isLit=false):=by
  rw[aG QK (by simp[Fy])]
  cases h:ys.all isLit with
  |true=>
   have HB:=fun fr lh sh h0 h1 h7 h8=>And.intro (hL fr lh sh h0 h1 h7 h8).1 (hL fr lh sh h0 h1 h7 h8).2.2
   simp only[h,if_true]at HB
   simp(maxDischargeDepth:=6) only[qF,ae,ah,aa,aj,ab,Int.reduceNeg,reduceCtorEq,Nat.reduceLT,Nat.reduceEqDiff,Fy,ha.lenI,HB]
   exact⟨-1,rfl,by simp⟩
  |false=>
   have HB:=fun fr lh sh h0 h1 h7 h8=>And.intro (hL fr lh sh h0 h1 h7 h8).1 (hL fr lh sh h0 h1 h7 h8).2.2
   simp only[h,Bool.false_eq_true,if_false]at HB
   simp(maxDischargeDepth:=6) only[qF,ae,ah,aa,ab,Int.reduceNeg,reduceCtorEq,Nat.reduceLT,Nat.reduceEqDiff,Fy,ha.lenI,HB]
   generalize hX:ak _ _=X
   obtain⟨k,e⟩: ∃k:Nat,X= .i .i64 (k:Int):=by
    rw[←hX]
    refine(hL _ _ _ ?_ ?_ ?_ ?_).2.1 h <;> simp(maxDischargeDepth:=6) only[aa,ab,reduceCtorEq,Nat.reduceEqDiff]
   rw[e]
   exact⟨k,rfl,by simp⟩
 obtain⟨j,hj,ow⟩:=hI
 rw[aG P8 (by simp[HX])]
 have e:decide (0≤j)= !ys.all isLit:=by
  cases h:ys.all isLit with
  |true=>rw[h]at ow;simp at ow;simp;omega
  |false=>rw[h]at ow;simp at ow;simp[ow]
 simp(maxDischargeDepth:=6) only[qF,ae,ah,aa,aj,ab,reduceCtorEq,Nat.reduceLT,Nat.reduceEqDiff,HX,hj,WC,ha.froz,pU,e]
end Go.Proofs.YtfenhjpkomldcaaGreat
namespace Go.Proofs.YtfenhjpkomldcaaGreat
open Go Go.Ev
theorem nH{xs:List Ex}{a:T}{cc:List T}(h1:aR a xs.length cc)(h2:aK xs cc)(k:Nat)(hk:k<xs.length)(j:Int)(hj:j=(k:Int)):
  ∃b r,(∀kk,uW a (.i kk j) 4=some (.vp (.i .i64 xs[k].op:: .i .i64 xs[k].num:: .s xs[k].name::b::r)))∧(∃cb,aR b xs[k].args.length cb∧aK xs[k].args cb)∧froz1 b=true∧bE xs[k] [.i .i64 xs[k].op,.i .i64 xs[k].num,.s xs[k].name,b]:=by
 obtain⟨b,cb,r,bh,h3,h4,h5⟩:=dm h1 h2 k hk
 subst hj
 exact⟨b,r,bh,⟨cb,h3,h4⟩,h3.froz1,h5⟩
theorem lE(op:Int)(ys:List Ex)(a:T)(cc:List T)(ha:aR a ys.length cc)(hx:aK ys cc):bE (.mk op 0 [] ys) [.i .i64 op,.i .i64 0,.s [],a]:=bE.of (x:= .mk op 0 [] ys) ha hx
theorem sU(op:Int)(ho:op=20∨op=21)(x y:Ex)(a:T)(cc:List T)(ha:aR a 2 cc)(hx:aK [x,y] cc): ∃cs,ai pE 150 [.agg [.i .i64 op,.i .i64 0,.s [],a]] []=some (.agg cs,[])∧bE (rX op x y) cs:=by
 obtain⟨b0,r0,bO,_,m6,nM⟩:=nH (xs:= [x,y]) ha hx 0 (by simp) 0 rfl
 obtain⟨b1,r1,cu,_,fD,jd⟩:=nH (xs:= [x,y]) ha hx 1 (by simp) 1 rfl
 simp only[List.getElem_cons_zero,List.getElem_cons_succ]at bO cu nM jd
 have hn:=lE op [x,y] a cc ha hx
 rw[aG Qc (by simp[qc])]
 unfold rX
 rcases ho with rfl|rfl
 ·by_cases a5:x.op=5
  ·simp(maxDischargeDepth:=6) only[qF,ae,ah,aa,aj,ab,an,aF,splice,aH,Nat.reduceAdd,Nat.reduceLT,Nat.reduceLeDiff,Nat.reduceEqDiff,Int.reduceEq,cq,iw,aZ,qc,bO,cu,m6,fD,a5,true_or]
   exact⟨_,rfl,cE _ _ _ cp⟩
  by_cases b5:y.op=5
  ·simp(maxDischargeDepth:=6) only[qF,ae,ah,aa,aj,ab,an,aF,splice,aH,Nat.reduceAdd,Nat.reduceLT,Nat.reduceLeDiff,Nat.reduceEqDiff,Int.reduceEq,cq,iw,aZ,qc,bO,cu,m6,fD,a5,b5,or_true]
   exact⟨_,rfl,cE _ _ _ cp⟩
  by_cases a4:x.op=4
  ·simp(maxDischargeDepth:=6) only[qF,ae,ah,aa,aj,ab,an,aF,splice,aH,Nat.reduceAdd,Nat.reduceLT,Nat.reduceLeDiff,Nat.reduceEqDiff,Int.reduceEq,cq,iw,aZ,qc,bO,cu,m6,fD,b5,a4,or_self]
   exact⟨_,rfl,jd⟩
  by_cases b4:y.op=4
  ·rw[b4]at jd
   simp(maxDischargeDepth:=6) only[qF,ae,ah,aa,aj,ab,an,aF,splice,aH,Nat.reduceAdd,Nat.reduceLT,Nat.reduceLeDiff,Nat.reduceEqDiff,Int.reduceEq,cq,iw,aZ,qc,bO,cu,m6,fD,a5,a4,b4,or_self]
   exact⟨_,rfl,nM⟩
  ·simp(maxDischargeDepth:=6) only[qF,ae,ah,aa,aj,ab,an,aF,splice,aH,Nat.reduceAdd,Nat.reduceLT,Nat.reduceLeDiff,Nat.reduceEqDiff,Int.reduceEq,cq,iw,aZ,qc,bO,cu,m6,fD,ha.froz1,a5,b5,a4,b4,or_self]
   exact⟨_,rfl,hn⟩
 ·by_cases a4:x.op=4
  ·simp(maxDischargeDepth:=6) only[qF,ae,ah,aa,aj,ab,an,aF,splice,aH,Nat.reduceAdd,Nat.reduceLT,Nat.reduceLeDiff,Nat.reduceEqDiff,Int.reduceEq,cq,iw,aZ,qc,bO,cu,m6,fD,a4,true_or]
   exact⟨_,rfl,cE _ _ _ cp⟩
  by_cases b4:y.op=4
  ·simp(maxDischargeDepth:=6) only[qF,ae,ah,aa,aj,ab,an,aF,splice,aH,Nat.reduceAdd,Nat.reduceLT,Nat.reduceLeDiff,Nat.reduceEqDiff,Int.reduceEq,cq,iw,aZ,qc,bO,cu,m6,fD,a4,b4,or_true]
   exact⟨_,rfl,cE _ _ _ cp⟩
  by_cases a5:x.op=5
  ·simp(maxDischargeDepth:=6) only[qF,ae,ah,aa,aj,ab,an,aF,splice,aH,Nat.reduceAdd,Nat.reduceLT,Nat.reduceLeDiff,Nat.reduceEqDiff,Int.reduceEq,cq,iw,aZ,qc,bO,cu,m6,fD,a5,b4,or_self]
   exact⟨_,rfl,jd⟩
  by_cases b5:y.op=5
  ·rw[b5]at jd
   simp(maxDischargeDepth:=6) only[qF,ae,ah,aa,aj,ab,an,aF,splice,aH,Nat.reduceAdd,Nat.reduceLT,Nat.reduceLeDiff,Nat.reduceEqDiff,Int.reduceEq,cq,iw,aZ,qc,bO,cu,m6,fD,a5,b5,a4,or_self]
   exact⟨_,rfl,nM⟩
  ·simp(maxDischargeDepth:=6) only[qF,ae,ah,aa,aj,ab,an,aF,splice,aH,Nat.reduceAdd,Nat.reduceLT,Nat.reduceLeDiff,Nat.reduceEqDiff,Int.reduceEq,cq,iw,aZ,qc,bO,cu,m6,fD,ha.froz1,a5,b5,a4,b4,or_self]
   exact⟨_,rfl,hn⟩
theorem nb(op:Int)(f:Nat)(is:Ex→Bool)(both:Bool)(hf: ∀(z:Ex) (b:T),froz1 b=true→ ∀d fr lh sh,ar pE (ai pE) d ⟨fr,lh,sh⟩ f [.agg [.i .i64 z.op,.i .i64 z.num,.s z.name,b]]=some (.b (is z),⟨fr,lh,sh⟩))(x y:Ex)(a:T)(cc:List T)(ha:aR a 2 cc)(hx:aK [x,y] cc):
  ∃cs,ai pE 152 [.agg [.i .i64 op,.i .i64 0,.s [],a],.fn f [] [],.b both] []=some (.agg cs,[])∧bE (if is y then x else if both&&is x then y else .mk op 0 [] [x,y]) cs:=by
 obtain⟨b0,r0,bO,_,m6,nM⟩:=nH (xs:= [x,y]) ha hx 0 (by simp) 0 rfl
 obtain⟨b1,r1,cu,_,fD,jd⟩:=nH (xs:= [x,y]) ha hx 1 (by simp) 1 rfl
 simp only[List.getElem_cons_zero,List.getElem_cons_succ]at bO cu nM jd
 have hn:=lE op [x,y] a cc ha hx
 have h1:=fun d fr lh sh=>hf y b1 fD d fr lh sh
 have h0:=fun d fr lh sh=>hf x b0 m6 d fr lh sh
 rw[aG Qf (by simp[zY])]
 cases hy:is y with
 |true=>
  rw[hy]at h1
  simp(maxDischargeDepth:=6) only[qF,ae,ah,aa,aj,ab,an,iq,splice,Nat.reduceAdd,reduceCtorEq,Nat.reduceLT,Nat.reduceLeDiff,Nat.reduceEqDiff,zY,bO,cu,m6,h1]
  exact⟨_,rfl,nM⟩
 |false=>
  rw[hy]at h1
  cases both with
  |false=>
   simp(maxDischargeDepth:=6) only[qF,ae,ah,aa,aj,ab,an,iq,splice,Nat.reduceAdd,reduceCtorEq,Nat.reduceLT,Nat.reduceLeDiff,Nat.reduceEqDiff,zY,bO,cu,ha.froz1,h1]
   exact⟨_,rfl,hn⟩
  |true=>
   cases Ep:is x with
   |true=>
    rw[Ep]at h0
    simp(maxDischargeDepth:=6) only[qF,ae,ah,aa,aj,ab,an,iq,splice,Nat.reduceAdd,reduceCtorEq,Nat.reduceLT,Nat.reduceLeDiff,Nat.reduceEqDiff,zY,bO,cu,fD,h1,h0]
    exact⟨_,rfl,jd⟩
   |false=>
    rw[Ep]at h0
    simp(maxDischargeDepth:=6) only[qF,ae,ah,aa,aj,ab,an,iq,splice,Nat.reduceAdd,reduceCtorEq,Nat.reduceLT,Nat.reduceLeDiff,Nat.reduceEqDiff,zY,bO,cu,ha.froz1,h1,h0]
    exact⟨_,rfl,hn⟩
end Go.Proofs.YtfenhjpkomldcaaGreat
