/- Simplified nodes keep their types: plain. Simplified forms keep their types: plain. Constants and their values; simplified forms by them. The size of simplified forms. The program's reduce. The program's reduce: its parts. Conditions: the theorems' own. -/
import Derived.Test.YtfenhjpkomldcaaGreatM8
import Derived.KernelRfl
set_option maxRecDepth 100000
set_option linter.unusedSimpArgs false
set_option linter.unusedVariables false
set_option maxHeartbeats 16000000
namespace Go.Proofs.YtfenhjpkomldcaaGreat
open Go Go.Ev
theorem FK.op1{scope k:Int}{y:Ex}(h:FK scope k y)(h1:y.op=1):k=1:=by
 obtain⟨ts,_,hr,_⟩:=h.arg (by omega)
 rw[h1]at hr;exact hr.symm
theorem FK.not{scope k:Int}{y:Ex}(h:FK scope k y)(h19:y.op=19):k=4∧FK scope 4 (y.args.headD (leafX 0 0)):=by
 obtain⟨_,_,har,_⟩:=h.node
 obtain⟨ts,hts,hr,hk⟩:=h.arg (by omega)
 have hlen:y.args.length=1:=by rw[h19]at har;simpa[arOk]using har
 rw[h19]at hr
 have hrr:(if allK ts 4=true then(4:Int)else 0)=k:=hr
 split at hrr
 ·rename_i hall
  refine⟨hrr.symm, ?_⟩
  generalize y.args=l at hts hlen
  match l,ts,hts,hlen,hall with
  | [z],[t],hts,_,hall=>
    rw[allK_cons,Bool.and_eq_true,decide_eq_true_eq]at hall
    rw[←hall.1];exact hts.1
 ·exact absurd hrr.symm hk
def red2(op:Int)(a b:Ex):Ex:=
    if op=20 then(if a.op=5∨b.op=5 then leafX 5 0 else if a.op=4 then b else if b.op=4 then a else .mk op 0 [] [a,b])
    else if op=21 then(if a.op=4∨b.op=4 then leafX 4 0 else if a.op=5 then b else if b.op=5 then a else .mk op 0 [] [a,b])
    else if op=22 then(if a.op=5∨b.op=4 then leafX 4 0 else if a.op=4 then b else if b.op=5 then(if a.op=19 then a.args.headD (leafX 0 0)else .mk 19 0 [] [a])else .mk op 0 [] [a,b])
    else if op=8 then(if zeroX b then a else if zeroX a then b else .mk op 0 [] [a,b])
    else if op=9 then(if zeroX b then a else .mk op 0 [] [a,b])
    else if op=10 then(if oneX b then a else if oneX a then b else .mk op 0 [] [a,b])
    else if op=11 then(if oneX b then a else .mk op 0 [] [a,b])
    else .mk op 0 [] [a,b]
theorem redX_two(op:Int)(a b:Ex):redX op [a,b]=red2 op a b:=rfl
theorem oneX_op{y:Ex}(h:oneX y=true):y.op=1:=by unfold oneX at h;simp at h;exact h.1
theorem red_ok{scope op k:Int}{ts:List Int}{ys:List Ex}(hys:FKs scope ts ys)(h7:7≤op)(h22:op≤22)(har:arOk op ys.length=true)(hr:resK op ts=k)(hk:k≠0):FK scope k (redX op ys):=by
 have hnode:FK scope k (.mk op 0 [] ys):=FK.mk (by omega) h22 (by omega) har hys hr hk
 match ys,ts,hys,har,hr,hnode with
 | [],[],_,_,_,hnode=>exact hnode
 | [a],[t],hys,har,hr,hnode=>
   show FK scope k (if op=19∧a.op=19 then a.args.headD (leafX 0 0)else .mk op 0 [] [a])
   split
   ·rename_i h
    obtain⟨rfl,h2⟩:=h
    have:=hys.1.not h2
    have hrr:(if allK [t] 4=true then(4:Int)else 0)=k:=hr
    split at hrr
    ·rw[←hrr];exact this.2
    ·exact absurd hrr.symm hk
   ·exact hnode
 | [a,b],[t,u],hys,har,hr,hnode=>
   obtain⟨ha,hb,_⟩:=hys
   have h44:(op=20∨op=21∨op=22)→t=4∧u=4∧k=4:=by
    intro ho
    have hrr:(if allK [t,u] 4=true then(4:Int)else 0)=k:=by rcases ho with rfl|rfl|rfl <;> exact hr
    split at hrr
    ·rename_i hall
     rw[allK_cons,allK_cons,allK_nil,Bool.and_eq_true,Bool.and_eq_true,decide_eq_true_eq,decide_eq_true_eq]at hall
     exact⟨hall.1,hall.2.1,hrr.symm⟩
    ·exact absurd hrr.symm hk
   have htt:(op=8∨op=9)→t=k∧u=k:=by
    intro ho
    have hrr:(if allK [t,u] 1=true then(1:Int)else if allK [t,u] 2=true then 2 else 0)=k:=by rcases ho with rfl|rfl <;> exact hr
    rw[allK_cons,allK_cons,allK_nil,allK_cons,allK_cons,allK_nil]at hrr
    simp only[Bool.and_true,Bool.and_eq_true,decide_eq_true_eq]at hrr
    split at hrr
    ·omega
    ·split at hrr <;> omega
   have T4:FK scope 4 (leafX 4 0):=FK.leaf (.inr (.inr (.inr (.inl ⟨rfl,rfl,rfl⟩))))
   have T5:FK scope 4 (leafX 5 0):=FK.leaf (.inr (.inr (.inr (.inr ⟨rfl,rfl,rfl⟩))))
   rw[redX_two]
   unfold red2
   by_cases o20:op=20
   ·obtain⟨rfl,rfl,rfl⟩:=h44 (.inl o20)
    rw[if_pos o20]
    split
    ·exact T5
    ·split
     ·exact hb
     ·split
      ·exact ha
      ·exact hnode
   rw[if_neg o20]
   by_cases o21:op=21
   ·obtain⟨rfl,rfl,rfl⟩:=h44 (.inr (.inl o21))
    rw[if_pos o21]
    split
    ·exact T4
    ·split
     ·exact hb
     ·split
      ·exact ha
      ·exact hnode
   rw[if_neg o21]
   by_cases o22:op=22
   ·obtain⟨rfl,rfl,rfl⟩:=h44 (.inr (.inr o22))
    rw[if_pos o22]
    split
    ·exact T4
    ·split
     ·exact hb
     ·split
      ·split
       ·rename_i h19
        exact(ha.not h19).2
       ·exact FK.mk (ts:= [4]) (by decide) (by decide) (by decide) rfl ⟨ha,trivial⟩ rfl (by decide)
      ·exact hnode
   rw[if_neg o22]
   by_cases o8:op=8
   ·obtain⟨rfl,rfl⟩:=htt (.inl o8)
    rw[if_pos o8]
    split
    ·exact ha
    ·split
     ·exact hb
     ·exact hnode
   rw[if_neg o8]
   by_cases o9:op=9
   ·obtain⟨rfl,rfl⟩:=htt (.inr o9)
    rw[if_pos o9]
    split
    ·exact ha
    ·exact hnode
   rw[if_neg o9]
   by_cases o10:op=10
   ·subst o10
    have hrr:prodK 10 t u=k:=hr
    unfold prodK at hrr
    rw[if_pos rfl]
    split
    ·rename_i h1
     have:=hb.op1 (oneX_op h1)
     have e:t=k:=by
      split at hrr
      ·omega
      ·split at hrr
       ·omega
       ·split at hrr
        ·omega
        ·split at hrr <;> omega
     rw[←e];exact ha
    ·split
     ·rename_i h1
      have:=ha.op1 (oneX_op h1)
      have e:u=k:=by
       split at hrr
       ·omega
       ·split at hrr
        ·omega
        ·split at hrr
         ·omega
         ·split at hrr <;> omega
      rw[←e];exact hb
     ·exact hnode
   rw[if_neg o10]
   by_cases o11:op=11
   ·subst o11
    have hrr:prodK 11 t u=k:=hr
    unfold prodK at hrr
    rw[if_pos rfl]
    split
    ·rename_i h1
     have:=hb.op1 (oneX_op h1)
     have e:t=k:=by
      split at hrr
      ·omega
      ·split at hrr
       ·omega
       ·split at hrr
        ·omega
        ·split at hrr <;> omega
     rw[←e];exact ha
    ·exact hnode
   rw[if_neg o11]
   exact hnode
 | [a,b,c],[t,u,w],hys,har,hr,hnode=>
   obtain⟨ha,hb,hc,_⟩:=hys
   show FK scope k (if op=14 then(if a.op=4 then b else if a.op=5 then c else .mk op 0 [] [a,b,c])else .mk op 0 [] [a,b,c])
   split
   ·rename_i o14
    subst o14
    have hrr:(if t=4∧u=w then u else 0)=k:=hr
    split at hrr
    ·rename_i hh
     obtain⟨_,rfl⟩:=hh
     subst hrr
     split
     ·exact hb
     ·split
      ·exact hc
      ·exact hnode
    ·exact absurd hrr.symm hk
   ·exact hnode
 |a::b::c::d::rest,_,_,_,_,hnode=>exact hnode
end Go.Proofs.YtfenhjpkomldcaaGreat
namespace Go.Proofs.YtfenhjpkomldcaaGreat
open Go Go.Ev
theorem Ex.fold_eq(cl:List Nat→Int×Int)(cx:List Nat→Ex)(scope:Int)(x:Ex):x.fold cl cx scope=
  if x.op=6 then(if attrK scope x.name≠0 then x else cx x.name)
  else if x.args.isEmpty then x
  else if(foldL cl cx scope x.args).all isLit then litX (x.ty cl scope).1 (apS x.op ((foldL cl cx scope x.args).map litV))
  else redX x.op (foldL cl cx scope x.args):=by obtain⟨_,_,_,_⟩:=x;rw[Ex.fold];rfl
theorem foldL_map(cl:List Nat→Int×Int)(cx:List Nat→Ex)(scope:Int): ∀xs,foldL cl cx scope xs=xs.map (Ex.fold cl cx scope)
 | []=>rfl
 |x::xs=>by rw[foldL,foldL_map cl cx scope xs];rfl
theorem ty_node{cl:List Nat→Int×Int}{scope k:Int}{x:Ex}(ht:x.ty cl scope=(k,0))(h6:x.op≠6): ∃ts,tyL cl scope x.args= .ok ts∧resK x.op ts=k∧k≠0:=by
 rw[Ex.ty_eq,if_neg h6]at ht
 cases hr:tyL cl scope x.args with
 |error e=>
  rw[hr]at ht
  have hh:((0:Int),e)=(k,0):=ht
  injection hh with _ h0
  exact absurd h0 (tyL_err hr)
 |ok ts=>
  rw[hr]at ht
  have hh:(if resK x.op ts=0 then((0:Int),(9:Int))else(resK x.op ts,0))=(k,0):=ht
  split at hh
  ·cases hh
  ·rename_i hne
   have e1:resK x.op ts=k:=by injection hh
   exact⟨ts,rfl,e1,by rw[←e1];exact hne⟩
theorem tyL_cons{cl:List Nat→Int×Int}{scope:Int}{x:Ex}{xs:List Ex}{ts:List Int}(h:tyL cl scope (x::xs)= .ok ts): ∃t us,ts=t::us∧x.ty cl scope=(t,0)∧tyL cl scope xs= .ok us:=by
 rw[tyL]at h
 split at h
 ·cases h
 ·rename_i h0
  cases hx:tyL cl scope xs with
  |error e=>rw[hx]at h;cases h
  |ok us=>
   rw[hx]at h;cases h
   have e2:(x.ty cl scope).2=0:=by simpa using h0
   exact⟨_,us,rfl,by rw[←e2],rfl⟩
theorem wf_node{x:Ex}(h:x.wf=true):1≤x.op∧x.op≤22∧arOk x.op x.args.length=true∧(0≤x.num∧x.num≤mostN x.op)∧(if x.op=6 then attrNm x.name=true else x.name= [])∧wfL x.args=true:=by
 rw[Ex.wf_eq,Bool.and_eq_true]at h
 obtain⟨hno,hwl⟩:=h
 simp only[nodeOk,Bool.and_eq_true,decide_eq_true_eq]at hno
 obtain⟨h1,h2,h3,h4,h5⟩:=hno
 refine⟨h1,h2,h3,h4, ?_,hwl⟩
 split at h5 <;> rename_i e
 ·rw[if_pos e];exact h5
 ·rw[if_neg e];simpa using h5
theorem ar_pos{op:Int}{n:Nat}(h1:1≤op)(har:arOk op n=true)(hn:n≠0):7≤op:=by
 by_cases h:op≤6
 ·simp[arOk,h]at har;omega
 ·omega
theorem ar_zero{op:Int}{n:Nat}(h2:op≤22)(har:arOk op n=true)(hn:n=0):op≤6:=by
 subst hn
 by_cases h:op≤6
 ·exact h
 ·rcases op_cases (show 1≤op by omega) h2 with rfl|rfl|rfl|rfl|rfl|rfl|rfl|rfl|rfl|rfl|rfl|rfl|rfl|rfl|rfl|rfl|rfl|rfl|rfl|rfl|rfl|rfl <;> simp[arOk]at har h
def cxOk(cl:List Nat→Int×Int)(cx:List Nat→Ex):Prop:= ∀s t,cl s=(t,0)→ ∃n,cx s=litX t n∧inK t n
theorem lits{scope:Int}: ∀{ts:List Int} {ys:List Ex},FKs scope ts ys→ys.all isLit=true→inKs ts (ys.map litV)∧kXL ys=ts
 | [],[],_,_=>⟨trivial,rfl⟩
 |t::ts,y::ys,h,ha=>by
  rw[List.all_cons,Bool.and_eq_true]at ha
  have h1:=h.1.lit ha.1
  have h2:=lits h.2 ha.2
  exact⟨⟨h1.1,h2.1⟩,by rw[kXL,h1.2.1,h2.2]⟩
theorem fold_ok{cl:List Nat→Int×Int}{cx:List Nat→Ex}(hc:cxOk cl cx)(scope:Int)(x:Ex): ∀k,x.wf=true→x.ty cl scope=(k,0)→FK scope k (x.fold cl cx scope):=by
 induction x using Ex.ind with
 |h x ih=>
  intro k hwf ht
  obtain⟨h1,h2,har,hnum,hname,hwl⟩:=wf_node hwf
  rw[Ex.fold_eq]
  by_cases h6:x.op=6
  ·rw[if_pos h6]
   rw[Ex.ty_eq,if_pos h6]at ht
   by_cases hz:attrK scope x.name≠0
   ·rw[if_pos hz]
    rw[if_pos hz]at ht
    refine⟨hwf, ?_⟩
    rw[Ex.ty_eq,if_pos h6,if_pos hz];exact ht
   ·rw[if_neg hz]
    rw[if_neg hz]at ht
    obtain⟨n,e,hn⟩:=hc _ _ ht
    rw[e];exact(litX_ok hn).1
  rw[if_neg h6]
  obtain⟨ts,hts,hr,hk⟩:=ty_node ht h6
  by_cases he:x.args.isEmpty=true
  ·rw[if_pos he]
   have hnil:x.args= []:=by simpa using he
   refine⟨hwf, ?_⟩
   rw[hnil,tyL]at hts
   cases hts
   rw[Ex.ty_eq,if_neg h6,hnil,tyL]
   show(if resK x.op []=0 then((0:Int),(9:Int))else(resK x.op [],0))=(k,0)
   rw[hr,if_neg hk]
  ·rw[if_neg he]
   have hne:x.args.length≠0:=by
    intro h;exact he (by simp[List.length_eq_zero_iff.1 h])
   have h7:=ar_pos h1 har hne
   have hys:FKs scope ts (foldL cl cx scope x.args):=by
    clear ht har hne he hr hwf hnum hname
    generalize x.args=xs at ih hts hwl
    induction xs generalizing ts with
    |nil=>rw[tyL]at hts;cases hts;trivial
    |cons z zs ihz=>
     obtain⟨t,us,rfl,e1,e2⟩:=tyL_cons hts
     rw[wfL,Bool.and_eq_true]at hwl
     rw[foldL]
     exact⟨ih z (by simp) t hwl.1 e1,ihz us (fun y hy=>ih y (by simp[hy])) e2 hwl.2⟩
   have hlen:ts.length=x.args.length:=tyL_len hts
   by_cases hall:(foldL cl cx scope x.args).all isLit=true
   ·rw[if_pos hall,ht]
    exact(litX_ok (ap_ok (lits hys hall).1 h7 h2 (by rw[hlen];exact har) hr hk).2).1
   ·rw[if_neg hall]
    exact red_ok hys h7 h2 (by rw[←hys.len,hlen];exact har) hr hk
end Go.Proofs.YtfenhjpkomldcaaGreat
namespace Go.Proofs.YtfenhjpkomldcaaGreat
open Go Go.Ev
mutual
def Ex.val0(vx:List Nat→Int):Ex→Int
 | .mk op num name args=>if op=6 then vx name else if op=1∨op=2∨op=3 then num else if op=4 then 1 else if op=5 then 0 else apS op (val0L vx args)
def val0L(vx:List Nat→Int):List Ex→List Int
 | []=> []
 |x::xs=>x.val0 vx::val0L vx xs
end
theorem Ex.val0_eq(vx:List Nat→Int)(x:Ex):x.val0 vx=if x.op=6 then vx x.name else if x.op=1∨x.op=2∨x.op=3 then x.num else if x.op=4 then 1 else if x.op=5 then 0 else apS x.op (val0L vx x.args):=by obtain⟨_,_,_,_⟩:=x;rw[Ex.val0];rfl
theorem val0L_map(vx:List Nat→Int): ∀xs,val0L vx xs=xs.map (Ex.val0 vx)
 | []=>rfl
 |x::xs=>by rw[val0L,val0L_map vx xs];rfl
def cxv(cl:List Nat→Int×Int)(vx:List Nat→Int)(s:List Nat):Ex:=litX (cl s).1 (vx s)
def vxOk(cl:List Nat→Int×Int)(vx:List Nat→Int):Prop:= ∀s t,cl s=(t,0)→inK t (vx s)
theorem cxv_ok{cl:List Nat→Int×Int}{vx:List Nat→Int}(h:vxOk cl vx):cxOk cl (cxv cl vx):=fun s t hs=>⟨vx s,by unfold cxv;rw[hs],h s t hs⟩
theorem leaf_lit{cl:List Nat→Int×Int}{scope:Int}{x:Ex}{k:Int}(hwf:x.wf=true)(ht:x.ty cl scope=(k,0))(h6:x.op≠6)(hnil:x.args= []):x=litX k (if x.op=1∨x.op=2∨x.op=3 then x.num else if x.op=4 then 1 else 0)∧inK k (if x.op=1∨x.op=2∨x.op=3 then x.num else if x.op=4 then 1 else 0)∧x.op≤5:=by
 obtain⟨h1,h2,har,hnum,hname,hwl⟩:=wf_node hwf
 have h5:x.op≤6:=ar_zero h2 har (by rw[hnil];rfl)
 rw[Ex.ty_eq,if_neg h6,hnil,tyL]at ht
 rw[if_neg h6]at hname
 obtain⟨op,num,name,args⟩:=x
 simp only[Ex.op,Ex.num,Ex.name,Ex.args]at*
 subst hname hnil
 have hcs:op=1∨op=2∨op=3∨op=4∨op=5:=by omega
 rcases hcs with rfl|rfl|rfl|rfl|rfl
 all_goals
  simp[resK]at ht
  subst ht
  simp[mostN]at hnum
 ·refine⟨?_,.inl ⟨.inl rfl, ?_⟩,by decide⟩
  ·simp[litX,leafX];omega
  ·simp[bd];omega
 ·refine⟨?_,.inl ⟨.inr rfl, ?_⟩,by decide⟩
  ·simp[litX,leafX];omega
  ·simp[bd];omega
 ·refine⟨?_,.inr (.inl ⟨rfl, ?_⟩),by decide⟩
  ·simp[litX,leafX]
  ·simpa using hnum
 ·refine⟨?_,.inr (.inr ⟨rfl,.inr rfl⟩),by decide⟩
  simp[litX,leafX];omega
 ·refine⟨?_,.inr (.inr ⟨rfl,.inl rfl⟩),by decide⟩
  simp[litX,leafX];omega
theorem fold0{cl:List Nat→Int×Int}{vx:List Nat→Int}(hc:vxOk cl vx)(scope:Int)(hsc: ∀s,attrK scope s=0)(x:Ex): ∀k,x.wf=true→x.ty cl scope=(k,0)→x.fold cl (cxv cl vx) scope=litX k (x.val0 vx)∧inK k (x.val0 vx):=by
 induction x using Ex.ind with
 |h x ih=>
  intro k hwf ht
  obtain⟨h1,h2,har,hnum,hname,hwl⟩:=wf_node hwf
  rw[Ex.fold_eq,Ex.val0_eq]
  by_cases h6:x.op=6
  ·rw[if_pos h6,if_pos h6]
   rw[Ex.ty_eq,if_pos h6,if_neg (by simp[hsc])]at ht
   rw[if_neg (by simp[hsc])]
   exact⟨by unfold cxv;rw[ht],hc _ _ ht⟩
  rw[if_neg h6,if_neg h6]
  by_cases he:x.args.isEmpty=true
  ·rw[if_pos he]
   have hnil:x.args= []:=by simpa using he
   obtain⟨e1,e2,e3⟩:=leaf_lit hwf ht h6 hnil
   by_cases hq:x.op=1∨x.op=2∨x.op=3
   ·rw[if_pos hq]at e1 e2 ⊢; exact⟨e1,e2⟩
   ·rw[if_neg hq]at e1 e2 ⊢
    by_cases h4:x.op=4
    ·rw[if_pos h4]at e1 e2 ⊢; exact⟨e1,e2⟩
    ·rw[if_neg h4]at e1 e2 ⊢
     rw[if_pos (by omega)];exact⟨e1,e2⟩
  ·rw[if_neg he]
   have hne:x.args.length≠0:=by
    intro h;exact he (by simp[List.length_eq_zero_iff.1 h])
   have h7:=ar_pos h1 har hne
   obtain⟨ts,hts,hr,hk⟩:=ty_node ht h6
   have hys:inKs ts (val0L vx x.args)∧(foldL cl (cxv cl vx) scope x.args).all isLit=true∧(foldL cl (cxv cl vx) scope x.args).map litV=val0L vx x.args:=by
    clear ht har hne he hr hwf hnum hname
    generalize x.args=xs at ih hts hwl
    induction xs generalizing ts with
    |nil=>rw[tyL]at hts;cases hts;exact⟨trivial,rfl,rfl⟩
    |cons z zs ihz=>
     obtain⟨t,us,rfl,e1,e2⟩:=tyL_cons hts
     rw[wfL,Bool.and_eq_true]at hwl
     obtain⟨f1,f2⟩:=ih z (by simp) t hwl.1 e1
     obtain⟨g1,g2,g3⟩:=ihz us (fun y hy=>ih y (by simp[hy])) e2 hwl.2
     rw[foldL,val0L,f1]
     obtain⟨_,q1,q2⟩:=litX_ok (scope:=scope) f2
     refine⟨⟨f2,g1⟩, ?_, ?_⟩
     ·rw[List.all_cons,q1,g2];rfl
     ·rw[List.map_cons,q2,g3]
   obtain⟨i1,i2,i3⟩:=hys
   have hlen:ts.length=x.args.length:=tyL_len hts
   rw[if_pos i2,i3,ht,if_neg (by omega),if_neg (by omega),if_neg (by omega)]
   exact⟨rfl,(ap_ok i1 h7 h2 (by rw[hlen];exact har) hr hk).2⟩
def vxk(l:Cs)(tab:List Int)(s:List Nat):Int:=match idxC l s with
 |none=>0
 |some i=>tab.getD i 0
def vlC(l:Cs):Nat→List Int
 |0=> []
 |n+1=>vlC l n++ [if(entC (l.take n) (tabC l n) (l.getD n ([],.mk 0 0 [] [])).2).2=0 then(l.getD n ([],.mk 0 0 [] [])).2.val0 (vxk (l.take n) (vlC l n))else 0]
theorem vlC_len(l:Cs): ∀n,(vlC l n).length=n
 |0=>rfl
 |n+1=>by rw[vlC,List.length_append,vlC_len l n];rfl
theorem vlC_succ(l:Cs){n:Nat}(h:n<l.length):vlC l (n+1)=vlC l n++ [if(entC (l.take n) (tabC l n) l[n].2).2=0 then l[n].2.val0 (vxk (l.take n) (vlC l n))else 0]:=by
 rw[vlC,List.getD_eq_getElem?_getD,List.getElem?_eq_getElem h];rfl
theorem vlC_pre(l:Cs)(n:Nat): ∀k,∃r,vlC l (n+k)=vlC l n++r
 |0=>⟨[],by simp⟩
 |k+1=>by
  obtain⟨r,h⟩:=vlC_pre l n k
  rw[←Nat.add_assoc,vlC,h]
  exact⟨_,List.append_assoc _ _ _⟩
theorem vlC_get(l:Cs){n i:Nat}(hn:n≤l.length)(hi:i<n):(vlC l n).getD i 0=(vlC l l.length).getD i 0:=by
 obtain⟨r,h⟩:=vlC_pre l n (l.length-n)
 rw[show n+(l.length-n)=l.length by omega]at h
 rw[h,List.getD_eq_getElem?_getD,List.getD_eq_getElem?_getD,List.getElem?_append_left (by rw[vlC_len];exact hi)]
def CL(l:Cs)(n:Nat):List Nat→Int×Int:=clk (l.take n) (tabC l n)
def VX(l:Cs)(n:Nat):List Nat→Int:=vxk (l.take n) (vlC l n)
def CLa(l:Cs):List Nat→Int×Int:=clk l (tabC l l.length)
def VXa(l:Cs):List Nat→Int:=vxk l (vlC l l.length)
theorem CL_all(l:Cs):CL l l.length=CLa l:=by unfold CL CLa;rw[List.take_length]
theorem VX_all(l:Cs):VX l l.length=VXa l:=by unfold VX VXa;rw[List.take_length]
theorem CL_some{l:Cs}{n:Nat}(hn:n≤l.length){s:List Nat}{t:Int}(h:CL l n s=(t,0)): ∃i,∃hi:i<l.length,i<n∧idxC l s=some i∧validE l[i].2=0∧l[i].2.ty (CL l i) 0=(t,0)∧CLa l s=(t,0)∧VX l n s=l[i].2.val0 (VX l i)∧VXa l s=l[i].2.val0 (VX l i)∧entN l i=(t,0):=by
 unfold CL clk at h
 rw[idxC_take]at h
 cases hd:idxC l s with
 |none=>rw[hd]at h;simp at h
 |some i=>
  rw[hd]at h
  simp only at h
  by_cases hi:i<n
  ·rw[if_pos hi]at h
   simp only at h
   have hil:i<l.length:=idxC_lt hd
   rw[tabC_get l hn hi]at h
   have he:entN l i=(t,0):=h
   have he0:=he
   rw[entN_eq l hil]at he
   have hent:=he
   unfold entC at he
   by_cases hv:validE l[i].2≠0
   ·rw[if_pos hv]at he;injection he with _ he;exact absurd he hv
   ·rw[if_neg hv]at he
    have hvl:(vlC l l.length).getD i 0=l[i].2.val0 (VX l i):=by
     rw[←vlC_get l (n:=i+1) (by omega) (by omega),vlC_succ l hil,List.getD_eq_getElem?_getD,List.getElem?_append_right (by rw[vlC_len];omega),vlC_len,Nat.sub_self,hent]
     rfl
    refine⟨i,hil,hi,rfl,by simpa using hv,he, ?_, ?_, ?_,he0⟩
    ·unfold CLa clk;rw[hd];exact h
    ·unfold VX vxk
     rw[idxC_take,hd]
     simp only[if_pos hi]
     rw[vlC_get l hn hi,hvl];rfl
    ·unfold VXa vxk;rw[hd];exact hvl
  ·rw[if_neg hi]at h;simp at h
theorem attrK_0(s:List Nat):attrK 0 s=0:=by unfold attrK;rfl
theorem vx_ok(l:Cs): ∀n,n≤l.length→vxOk (CL l n) (VX l n):=by
 intro n
 induction n using Nat.strongRecOn with
 |ind n ih=>
  intro hn s t hs
  obtain⟨i,hil,hi,_,hv,ht,_,e,_⟩:=CL_some hn hs
  rw[e]
  exact(fold0 (ih i hi (by omega)) 0 (fun s=>attrK_0 s) l[i].2 t (valid_wf hv) ht).2
theorem vxa_ok(l:Cs):vxOk (CLa l) (VXa l):=by
 have:=vx_ok l l.length (Nat.le_refl _)
 rwa [CL_all,VX_all]at this
theorem fold_congr{cl cl':List Nat→Int×Int}{cx cx':List Nat→Ex}(scope:Int)(hc: ∀s t,cl s=(t,0)→cl' s=(t,0)∧cx' s=cx s)(x:Ex): ∀k,x.ty cl scope=(k,0)→x.ty cl' scope=(k,0)∧x.fold cl' cx' scope=x.fold cl cx scope:=by
 induction x using Ex.ind with
 |h x ih=>
  intro k ht
  by_cases h6:x.op=6
  ·rw[Ex.ty_eq,if_pos h6]at ht
   rw[Ex.ty_eq,if_pos h6,Ex.fold_eq,if_pos h6,Ex.fold_eq,if_pos h6]
   by_cases hz:attrK scope x.name≠0
   ·rw[if_pos hz]at ht ⊢; rw[if_pos hz,if_pos hz];exact⟨ht,rfl⟩
   ·rw[if_neg hz]at ht ⊢; rw[if_neg hz,if_neg hz];exact hc _ _ ht
  ·obtain⟨ts,hts,hr,hk⟩:=ty_node ht h6
   have hl:tyL cl' scope x.args= .ok ts∧foldL cl' cx' scope x.args=foldL cl cx scope x.args:=by
    clear ht hr
    generalize x.args=xs at ih hts
    induction xs generalizing ts with
    |nil=>rw[tyL]at hts;cases hts;exact⟨rfl,rfl⟩
    |cons z zs ihz=>
     obtain⟨t,us,rfl,e1,e2⟩:=tyL_cons hts
     obtain⟨f1,f2⟩:=ih z (by simp) t e1
     obtain⟨g1,g2⟩:=ihz us (fun y hy=>ih y (by simp[hy])) e2
     rw[tyL,foldL,foldL,f1,g1,f2,g2]
     exact⟨rfl,rfl⟩
   have ht':x.ty cl' scope=(k,0):=by
    rw[Ex.ty_eq,if_neg h6,hl.1]
    show(if resK x.op ts=0 then((0:Int),(9:Int))else(resK x.op ts,0))=(k,0)
    rw[hr,if_neg hk]
   refine⟨ht', ?_⟩
   rw[Ex.fold_eq,Ex.fold_eq,if_neg h6,if_neg h6,hl.2,ht',ht]
theorem CL_le{l:Cs}{n:Nat}(hn:n≤l.length): ∀s t,CL l n s=(t,0)→CLa l s=(t,0)∧cxv (CLa l) (VXa l) s=cxv (CL l n) (VX l n) s:=fun s t hs=>by
 obtain⟨i,hil,hi,_,hv,ht,ea,e1,e2,_⟩:=CL_some hn hs
 refine⟨ea, ?_⟩
 unfold cxv
 rw[ea,hs,e1,e2]
def foldS(l:Cs)(scope:Int)(x:Ex):Ex:=x.fold (CLa l) (cxv (CLa l) (VXa l)) scope
theorem foldS_ok(l:Cs)(scope:Int)(x:Ex){k:Int}(hwf:x.wf=true)(ht:x.ty (CLa l) scope=(k,0)):FK scope k (foldS l scope x):=fold_ok (cxv_ok (vxa_ok l)) scope x k hwf ht
theorem foldS_const{l:Cs}{s:List Nat}{t:Int}(h:CLa l s=(t,0)): ∃i,∃hi:i<l.length,idxC l s=some i∧validE l[i].2=0∧l[i].2.ty (CL l i) 0=(t,0)∧l[i].2.ty (CLa l) 0=(t,0)∧foldS l 0 l[i].2=litX t (VXa l s)∧inK t (VXa l s)∧entN l i=(t,0)∧VXa l s=(vlC l l.length).getD i 0:=by
 have h':=h
 rw[←CL_all]at h'
 obtain⟨i,hil,hi,hd,hv,ht,ea,e1,e2,e3⟩:=CL_some (Nat.le_refl _) h'
 obtain⟨c1,c2⟩:=fold_congr 0 (CL_le (Nat.le_of_lt hil)) l[i].2 t ht
 refine⟨i,hil,hd,hv,ht,c1, ?_,vxa_ok l s t h,e3, ?_⟩
 ·unfold foldS
  rw[c2,(fold0 (vx_ok l i (Nat.le_of_lt hil)) 0 (fun s=>attrK_0 s) l[i].2 t (valid_wf hv) ht).1,e2]
 ·unfold VXa vxk;rw[hd]
end Go.Proofs.YtfenhjpkomldcaaGreat
namespace Go.Proofs.YtfenhjpkomldcaaGreat
open Go Go.Ev
def rfm(op:Int)(ys:List Ex)(r:Ex):Prop:=r= .mk op 0 [] ys∨(∃a∈ys,r= .mk 19 0 [] [a])∨(∃a∈ys,r=a)∨(∃a∈ys,r=a.args.headD (leafX 0 0))∨(∃n,r=leafX n 0)
theorem rfm_same{op:Int}{ys:List Ex}:rfm op ys (.mk op 0 [] ys):= .inl rfl
theorem rfm_not{op:Int}{ys:List Ex}{a:Ex}(h:a∈ys):rfm op ys (.mk 19 0 [] [a]):= .inr (.inl ⟨a,h,rfl⟩)
theorem rfm_arg{op:Int}{ys:List Ex}{a:Ex}(h:a∈ys):rfm op ys a:= .inr (.inr (.inl ⟨a,h,rfl⟩))
theorem rfm_head{op:Int}{ys:List Ex}{a:Ex}(h:a∈ys):rfm op ys (a.args.headD (leafX 0 0)):= .inr (.inr (.inr (.inl ⟨a,h,rfl⟩)))
theorem rfm_leaf{op:Int}{ys:List Ex}(n:Int):rfm op ys (leafX n 0):= .inr (.inr (.inr (.inr ⟨n,rfl⟩)))
theorem rfm_ite{op:Int}{ys:List Ex}{c:Prop}[Decidable c]{a b:Ex}(h1:rfm op ys a)(h2:rfm op ys b):rfm op ys (if c then a else b):=by split <;> assumption
theorem redX_form(op:Int)(ys:List Ex):rfm op ys (redX op ys):=by
 match ys with
 | []=>exact rfm_same
 | [a]=>exact rfm_ite (rfm_head (by simp)) rfm_same
 | [a,b]=>
   have ha:a∈ [a,b]:=by simp
   have hb:b∈ [a,b]:=by simp
   rw[redX_two]
   unfold red2
   exact rfm_ite (rfm_ite (rfm_leaf 5) (rfm_ite (rfm_arg hb) (rfm_ite (rfm_arg ha) rfm_same)))
    (rfm_ite (rfm_ite (rfm_leaf 4) (rfm_ite (rfm_arg hb) (rfm_ite (rfm_arg ha) rfm_same)))
    (rfm_ite (rfm_ite (rfm_leaf 4) (rfm_ite (rfm_arg hb) (rfm_ite (rfm_ite (rfm_head ha) (rfm_not ha)) rfm_same)))
    (rfm_ite (rfm_ite (rfm_arg ha) (rfm_ite (rfm_arg hb) rfm_same))
    (rfm_ite (rfm_ite (rfm_arg ha) rfm_same)
    (rfm_ite (rfm_ite (rfm_arg ha) (rfm_ite (rfm_arg hb) rfm_same))
    (rfm_ite (rfm_ite (rfm_arg ha) rfm_same) rfm_same))))))
 | [a,b,c]=>exact rfm_ite (rfm_ite (rfm_arg (by simp)) (rfm_ite (rfm_arg (by simp)) rfm_same)) rfm_same
 |_::_::_::_::_=>exact rfm_same
theorem head_nodes(a:Ex):(a.args.headD (leafX 0 0)).nodes≤a.nodes:=by
 rw[a.nodes_eq]
 cases a.args with
 |nil=>simp[leafX,Ex.nodes,nodesL]
 |cons y ys=>rw[nodesL];show y.nodes≤_;omega
theorem redX_nodes(op:Int)(ys:List Ex):(redX op ys).nodes≤1+nodesL ys:=by
 rcases redX_form op ys with h|⟨a,ha,h⟩|⟨a,ha,h⟩|⟨a,ha,h⟩|⟨n,h⟩ <;> rw[h]
 ·rw[Ex.nodes];exact Nat.le_refl _
 ·have:=nodesL_mem ha
  rw[Ex.nodes,nodesL,nodesL];omega
 ·have:=nodesL_mem ha;omega
 ·have:=nodesL_mem ha
  have:=head_nodes a;omega
 ·simp[leafX,Ex.nodes,nodesL]
theorem litX_nodes(k n:Int):(litX k n).nodes≤2:=by
 unfold litX
 split
 ·split <;> simp[leafX,Ex.nodes,nodesL]
 ·split
  ·simp[leafX,Ex.nodes,nodesL]
  ·split <;> simp[leafX,Ex.nodes,nodesL]
theorem fold_nodes{cl:List Nat→Int×Int}{cx:List Nat→Ex}(hc: ∀s,(cx s).nodes≤2)(scope:Int)(x:Ex):(x.fold cl cx scope).nodes≤2*x.nodes:=by
 induction x using Ex.ind with
 |h x ih=>
  have hpos:1≤x.nodes:=by rw[x.nodes_eq];omega
  rw[Ex.fold_eq]
  split
  ·split
   ·omega
   ·have:=hc x.name;omega
  ·split
   ·omega
   ·have hl:nodesL (foldL cl cx scope x.args)≤2*nodesL x.args:=by
     clear hpos
     generalize x.args=xs at ih
     induction xs with
     |nil=>simp[foldL,nodesL]
     |cons z zs ihz=>
      have h1:=ih z (by simp)
      have h2:=ihz (fun y hy=>ih y (by simp[hy]))
      rw[foldL,nodesL,nodesL];omega
    split
    ·have:=litX_nodes (x.ty cl scope).1 (apS x.op ((foldL cl cx scope x.args).map litV));omega
    ·have:=redX_nodes x.op (foldL cl cx scope x.args)
     rw[x.nodes_eq];omega
theorem leaf_sm(op num:Int):(leafX op num).sm:=by
 rw[Ex.sm_eq];exact⟨Nat.zero_le _,trivial⟩
theorem litX_sm(k n:Int):(litX k n).sm:=by
 unfold litX
 split
 ·split <;> exact leaf_sm _ _
 ·split
  ·exact leaf_sm _ _
  ·split
   ·rw[Ex.sm_eq];exact⟨Nat.zero_le _,leaf_sm _ _,trivial⟩
   ·exact leaf_sm _ _
theorem redX_sm(op:Int)(ys:List Ex)(hs:smL ys):(redX op ys).sm:=by
 have hm:=smL_mem.1 hs
 rcases redX_form op ys with h|⟨a,ha,h⟩|⟨a,ha,h⟩|⟨a,ha,h⟩|⟨n,h⟩ <;> rw[h]
 ·rw[Ex.sm_eq];exact⟨Nat.zero_le _,hs⟩
 ·rw[Ex.sm_eq];exact⟨Nat.zero_le _,hm a ha,trivial⟩
 ·exact hm a ha
 ·have h1:=((Ex.sm_eq a).1 (hm a ha)).2
  generalize a.args=l at h1
  cases l with
  |nil=>exact leaf_sm _ _
  |cons y ys=>exact h1.1
 ·exact leaf_sm _ _
theorem fold_sm{cl:List Nat→Int×Int}{cx:List Nat→Ex}(hc: ∀s,(cx s).sm)(scope:Int)(x:Ex):x.sm→(x.fold cl cx scope).sm:=by
 induction x using Ex.ind with
 |h x ih=>
  intro hs
  rw[Ex.fold_eq]
  split
  ·split
   ·exact hs
   ·exact hc _
  ·split
   ·exact hs
   ·have hl:smL (foldL cl cx scope x.args):=by
     have hs':=((Ex.sm_eq x).1 hs).2
     generalize x.args=xs at ih hs'
     induction xs with
     |nil=>trivial
     |cons z zs ihz=>exact⟨ih z (by simp) hs'.1,ihz (fun y hy=>ih y (by simp[hy])) hs'.2⟩
    split
    ·exact litX_sm _ _
    ·exact redX_sm _ _ hl
theorem foldS_nodes(l:Cs)(scope:Int)(x:Ex):(foldS l scope x).nodes≤2*x.nodes:=fold_nodes (fun s=>litX_nodes _ _) scope x
theorem foldS_sm(l:Cs)(scope:Int)(x:Ex)(h:x.sm):(foldS l scope x).sm:=fold_sm (fun s=>litX_sm _ _) scope x h
end Go.Proofs.YtfenhjpkomldcaaGreat
namespace Go.Proofs.YtfenhjpkomldcaaGreat
open Go Go.Ev
def negOk(ys:List Ex):Prop:= ∀y∈ys,y.op=7→0<y.args.length
theorem all_drop{ys:List Ex}{k:Nat}(hk:k<ys.length):(ys.drop k).all isLit=(isLit ys[k]&&(ys.drop (k+1)).all isLit):=by rw[drop_args hk,List.all_cons]
theorem cont1(ys:List Ex)(hn:negOk ys)(a:T)(cc:List T)(ha:IsSl a ys.length cc)(hx:IsExs ys cc)(hlen:ys.length≤Lim)(o:Out)(ho:o=if ys.all isLit then .ext 0 else .ret)(fr:Fr)(lh:Tri Ent)(sh:List Ent)
  (h0:getF fr 0=a) (h1:getF fr 1= .fn 147 [] []) (h7:getF fr 7= .i .i64 (ys.length:Int)) (h8:getF fr 8= .i .i64 0):
  DC pE 19 (.loop c216_L1) ⟨fr,lh,sh⟩=some (o,⟨frL pE 19 c216_L1 fr lh sh,lhL pE 19 c216_L1 fr lh sh,shL pE 19 c216_L1 fr lh sh⟩)∧
  ((ys.all isLit=false→ ∃k:Nat,getF (frL pE 19 c216_L1 fr lh sh) 4= .i .i64 (k:Int))∧lhL pE 19 c216_L1 fr lh sh=lh∧shL pE 19 c216_L1 fr lh sh=sh):=by
 refine loop_rule (P:=fun fr lh' sh'=>(ys.all isLit=false→ ∃k:Nat,getF fr 4= .i .i64 (k:Int))∧lh'=lh∧sh'=sh) (loop_inv (fun k st=> ∃(fr:Fr),st=⟨fr,lh,sh⟩∧getF fr 0=a∧getF fr 1= .fn 147 [] []∧getF fr 7= .i .i64 (ys.length:Int)∧getF fr 8= .i .i64 (k:Int)∧ys.all isLit=(ys.drop k).all isLit) _ ys.length ?_ ?_ 0 _ (Nat.zero_le _) ⟨fr,rfl,h0,h1,h7,h8,rfl⟩)
 ·rintro k _ hk ⟨fr,rfl,h0,h1,h7,h8,hall⟩
  have hk':(k:Int)<ys.length:=by omega
  have hw:=wr_succL (k:=k) (by omega)
  obtain⟨b,cb,r,hia,hb1,hb2,hb⟩:=arg_at ha hx k hk
  have hcall:=notLit_ev ys[k] _ hb (hn _ (List.getElem_mem hk))
  rw[all_drop hk]at hall
  cases hf:isLit ys[k]with
  |true=>
   left
   rw[hf]at hcall hall
   rw[Bool.not_true]at hcall
   simp(maxDischargeDepth:=6) only[qF,qGO0,qGO1,qGO2,qGO3,qGO4,doCallV,reduceCtorEq,Nat.reduceLT,Nat.reduceLeDiff,Nat.reduceEqDiff,c216_L1,h0,h1,h7,h8,hk',hia,hw,hcall,dc147,hb1.froz1]
   refine⟨_,rfl,_,rfl, ?_, ?_, ?_, ?_,hall⟩ <;> simp(maxDischargeDepth:=6) only[qGO2,qGO4,reduceCtorEq,Nat.reduceEqDiff,h0,h1,h7]
  |false=>
   right
   rw[hf]at hcall hall
   rw[Bool.not_false]at hcall
   simp(maxDischargeDepth:=6) only[qF,qGO0,qGO1,qGO2,qGO3,qGO4,doCallV,reduceCtorEq,Nat.reduceLT,Nat.reduceLeDiff,Nat.reduceEqDiff,c216_L1,h0,h1,h7,h8,hk',hia,hcall,dc147,hb1.froz1]
   refine⟨_,_,(by simp:Out.ret≠ .nrm),rfl,by rw[ho,hall];rfl,fun _=>⟨k,by simp(maxDischargeDepth:=6) only[qGO2]⟩,rfl,rfl⟩
 ·rintro _ ⟨fr,rfl,h0,h1,h7,h8,hall⟩
  rw[List.drop_length]at hall
  have hall:ys.all isLit=true:=hall
  simp(maxDischargeDepth:=6) only[qGO0,qGO1,qGO2,qGO4,qGO5,Nat.reduceLT,c216_L1,h7,h8,Int.lt_irrefl]
  exact⟨_,_,(by simp:Out.ext 0≠ .nrm),rfl,by rw[ho,hall];rfl,fun hc=>(by rw[hall]at hc;cases hc),rfl,rfl⟩
theorem cont_ev(ys:List Ex)(hn:negOk ys)(a:T)(cc:List T)(ha:IsSl a ys.length cc)(hx:IsExs ys cc)(hlen:ys.length≤Lim):DCall pE 146 [a,.fn 147 [] []] []=some (.b (!ys.all isLit),[]):=by
 have hL:=fun fr lh sh h0 h1 h7 h8=>cont1 ys hn a cc ha hx hlen _ rfl fr lh sh h0 h1 h7 h8
 have hfz:froz (.fn 147 [] [])=true:=rfl
 have hI: ∃j:Int,DCall pE 216 [a,.fn 147 [] []] []=some (.i .i64 j,[])∧(0≤j↔ys.all isLit=false):=by
  rw[p_fun fn216 (by simp[c216])]
  cases h:ys.all isLit with
  |true=>
   have hL':=fun fr lh sh h0 h1 h7 h8=>And.intro (hL fr lh sh h0 h1 h7 h8).1 (hL fr lh sh h0 h1 h7 h8).2.2
   simp only[h,if_true]at hL'
   simp(maxDischargeDepth:=6) only[qF,qGO0,qGO1,qGO2,qGO3,qGO4,Int.reduceNeg,reduceCtorEq,Nat.reduceLT,Nat.reduceEqDiff,c216,ha.lenI,hL']
   exact⟨-1,rfl,by simp⟩
  |false=>
   have hL':=fun fr lh sh h0 h1 h7 h8=>And.intro (hL fr lh sh h0 h1 h7 h8).1 (hL fr lh sh h0 h1 h7 h8).2.2
   simp only[h,Bool.false_eq_true,if_false]at hL'
   simp(maxDischargeDepth:=6) only[qF,qGO0,qGO1,qGO2,qGO4,Int.reduceNeg,reduceCtorEq,Nat.reduceLT,Nat.reduceEqDiff,c216,ha.lenI,hL']
   generalize hX:getF _ _=X
   obtain⟨k,e⟩: ∃k:Nat,X= .i .i64 (k:Int):=by
    rw[←hX]
    refine(hL _ _ _ ?_ ?_ ?_ ?_).2.1 h <;> simp(maxDischargeDepth:=6) only[qGO2,qGO4,reduceCtorEq,Nat.reduceEqDiff]
   rw[e]
   exact⟨k,rfl,by simp⟩
 obtain⟨j,hj,hiff⟩:=hI
 rw[p_fun fn146 (by simp[c146])]
 have e:decide (0≤j)= !ys.all isLit:=by
  cases h:ys.all isLit with
  |true=>rw[h]at hiff;simp at hiff;simp;omega
  |false=>rw[h]at hiff;simp at hiff;simp[hiff]
 simp(maxDischargeDepth:=6) only[qF,qGO0,qGO1,qGO2,qGO3,qGO4,reduceCtorEq,Nat.reduceLT,Nat.reduceEqDiff,c146,hj,dc216,ha.froz,hfz,e]
end Go.Proofs.YtfenhjpkomldcaaGreat
namespace Go.Proofs.YtfenhjpkomldcaaGreat
open Go Go.Ev
theorem argJ{xs:List Ex}{a:T}{cc:List T}(h1:IsSl a xs.length cc)(h2:IsExs xs cc)(k:Nat)(hk:k<xs.length)(j:Int)(hj:j=(k:Int)):
  ∃b r,(∀kk,iaV a (.i kk j) 4=some (.vp (.i .i64 xs[k].op:: .i .i64 xs[k].num:: .s xs[k].name::b::r)))∧(∃cb,IsSl b xs[k].args.length cb∧IsExs xs[k].args cb)∧froz1 b=true∧IsEx xs[k] [.i .i64 xs[k].op,.i .i64 xs[k].num,.s xs[k].name,b]:=by
 obtain⟨b,cb,r,hia,h3,h4,h5⟩:=arg_at h1 h2 k hk
 subst hj
 exact⟨b,r,hia,⟨cb,h3,h4⟩,h3.froz1,h5⟩
theorem node_is(op:Int)(ys:List Ex)(a:T)(cc:List T)(ha:IsSl a ys.length cc)(hx:IsExs ys cc):IsEx (.mk op 0 [] ys) [.i .i64 op,.i .i64 0,.s [],a]:=IsEx.of (x:= .mk op 0 [] ys) ha hx
theorem junction_ev(op:Int)(ho:op=20∨op=21)(x y:Ex)(a:T)(cc:List T)(ha:IsSl a 2 cc)(hx:IsExs [x,y] cc): ∃cs,DCall pE 150 [.agg [.i .i64 op,.i .i64 0,.s [],a]] []=some (.agg cs,[])∧IsEx (red2 op x y) cs:=by
 obtain⟨b0,r0,hia0,_,hf0,he0⟩:=argJ (xs:= [x,y]) ha hx 0 (by simp) 0 rfl
 obtain⟨b1,r1,hia1,_,hf1,he1⟩:=argJ (xs:= [x,y]) ha hx 1 (by simp) 1 rfl
 simp only[List.getElem_cons_zero,List.getElem_cons_succ]at hia0 hia1 he0 he1
 have hn:=node_is op [x,y] a cc ha hx
 rw[p_fun fn150 (by simp[c150])]
 unfold red2
 rcases ho with rfl|rfl
 ·by_cases a5:x.op=5
  ·simp(maxDischargeDepth:=6) only[qF,qGO0,qGO1,qGO2,qGO3,qGO4,qGO5,buildV,splice,fills,Nat.reduceAdd,Nat.reduceLT,Nat.reduceLeDiff,Nat.reduceEqDiff,Int.reduceEq,qDR0,qDR1,getL,c150,hia0,hia1,hf0,hf1,a5,true_or]
   exact⟨_,rfl,leaf_is _ _ _ nil_is⟩
  by_cases b5:y.op=5
  ·simp(maxDischargeDepth:=6) only[qF,qGO0,qGO1,qGO2,qGO3,qGO4,qGO5,buildV,splice,fills,Nat.reduceAdd,Nat.reduceLT,Nat.reduceLeDiff,Nat.reduceEqDiff,Int.reduceEq,qDR0,qDR1,getL,c150,hia0,hia1,hf0,hf1,a5,b5,or_true]
   exact⟨_,rfl,leaf_is _ _ _ nil_is⟩
  by_cases a4:x.op=4
  ·simp(maxDischargeDepth:=6) only[qF,qGO0,qGO1,qGO2,qGO3,qGO4,qGO5,buildV,splice,fills,Nat.reduceAdd,Nat.reduceLT,Nat.reduceLeDiff,Nat.reduceEqDiff,Int.reduceEq,qDR0,qDR1,getL,c150,hia0,hia1,hf0,hf1,b5,a4,or_self]
   exact⟨_,rfl,he1⟩
  by_cases b4:y.op=4
  ·rw[b4]at he1
   simp(maxDischargeDepth:=6) only[qF,qGO0,qGO1,qGO2,qGO3,qGO4,qGO5,buildV,splice,fills,Nat.reduceAdd,Nat.reduceLT,Nat.reduceLeDiff,Nat.reduceEqDiff,Int.reduceEq,qDR0,qDR1,getL,c150,hia0,hia1,hf0,hf1,a5,a4,b4,or_self]
   exact⟨_,rfl,he0⟩
  ·simp(maxDischargeDepth:=6) only[qF,qGO0,qGO1,qGO2,qGO3,qGO4,qGO5,buildV,splice,fills,Nat.reduceAdd,Nat.reduceLT,Nat.reduceLeDiff,Nat.reduceEqDiff,Int.reduceEq,qDR0,qDR1,getL,c150,hia0,hia1,hf0,hf1,ha.froz1,a5,b5,a4,b4,or_self]
   exact⟨_,rfl,hn⟩
 ·by_cases a4:x.op=4
  ·simp(maxDischargeDepth:=6) only[qF,qGO0,qGO1,qGO2,qGO3,qGO4,qGO5,buildV,splice,fills,Nat.reduceAdd,Nat.reduceLT,Nat.reduceLeDiff,Nat.reduceEqDiff,Int.reduceEq,qDR0,qDR1,getL,c150,hia0,hia1,hf0,hf1,a4,true_or]
   exact⟨_,rfl,leaf_is _ _ _ nil_is⟩
  by_cases b4:y.op=4
  ·simp(maxDischargeDepth:=6) only[qF,qGO0,qGO1,qGO2,qGO3,qGO4,qGO5,buildV,splice,fills,Nat.reduceAdd,Nat.reduceLT,Nat.reduceLeDiff,Nat.reduceEqDiff,Int.reduceEq,qDR0,qDR1,getL,c150,hia0,hia1,hf0,hf1,a4,b4,or_true]
   exact⟨_,rfl,leaf_is _ _ _ nil_is⟩
  by_cases a5:x.op=5
  ·simp(maxDischargeDepth:=6) only[qF,qGO0,qGO1,qGO2,qGO3,qGO4,qGO5,buildV,splice,fills,Nat.reduceAdd,Nat.reduceLT,Nat.reduceLeDiff,Nat.reduceEqDiff,Int.reduceEq,qDR0,qDR1,getL,c150,hia0,hia1,hf0,hf1,a5,b4,or_self]
   exact⟨_,rfl,he1⟩
  by_cases b5:y.op=5
  ·rw[b5]at he1
   simp(maxDischargeDepth:=6) only[qF,qGO0,qGO1,qGO2,qGO3,qGO4,qGO5,buildV,splice,fills,Nat.reduceAdd,Nat.reduceLT,Nat.reduceLeDiff,Nat.reduceEqDiff,Int.reduceEq,qDR0,qDR1,getL,c150,hia0,hia1,hf0,hf1,a5,b5,a4,or_self]
   exact⟨_,rfl,he0⟩
  ·simp(maxDischargeDepth:=6) only[qF,qGO0,qGO1,qGO2,qGO3,qGO4,qGO5,buildV,splice,fills,Nat.reduceAdd,Nat.reduceLT,Nat.reduceLeDiff,Nat.reduceEqDiff,Int.reduceEq,qDR0,qDR1,getL,c150,hia0,hia1,hf0,hf1,ha.froz1,a5,b5,a4,b4,or_self]
   exact⟨_,rfl,hn⟩
theorem neutral_ev(op:Int)(f:Nat)(is:Ex→Bool)(both:Bool)(hf: ∀(z:Ex) (b:T),froz1 b=true→ ∀d fr lh sh,doCall pE (DCall pE) d ⟨fr,lh,sh⟩ f [.agg [.i .i64 z.op,.i .i64 z.num,.s z.name,b]]=some (.b (is z),⟨fr,lh,sh⟩))(x y:Ex)(a:T)(cc:List T)(ha:IsSl a 2 cc)(hx:IsExs [x,y] cc):
  ∃cs,DCall pE 152 [.agg [.i .i64 op,.i .i64 0,.s [],a],.fn f [] [],.b both] []=some (.agg cs,[])∧IsEx (if is y then x else if both&&is x then y else .mk op 0 [] [x,y]) cs:=by
 obtain⟨b0,r0,hia0,_,hf0,he0⟩:=argJ (xs:= [x,y]) ha hx 0 (by simp) 0 rfl
 obtain⟨b1,r1,hia1,_,hf1,he1⟩:=argJ (xs:= [x,y]) ha hx 1 (by simp) 1 rfl
 simp only[List.getElem_cons_zero,List.getElem_cons_succ]at hia0 hia1 he0 he1
 have hn:=node_is op [x,y] a cc ha hx
 have h1:=fun d fr lh sh=>hf y b1 hf1 d fr lh sh
 have h0:=fun d fr lh sh=>hf x b0 hf0 d fr lh sh
 rw[p_fun fn152 (by simp[c152])]
 cases hy:is y with
 |true=>
  rw[hy]at h1
  simp(maxDischargeDepth:=6) only[qF,qGO0,qGO1,qGO2,qGO3,qGO4,qGO5,doCallV,splice,Nat.reduceAdd,reduceCtorEq,Nat.reduceLT,Nat.reduceLeDiff,Nat.reduceEqDiff,c152,hia0,hia1,hf0,h1]
  exact⟨_,rfl,he0⟩
 |false=>
  rw[hy]at h1
  cases both with
  |false=>
   simp(maxDischargeDepth:=6) only[qF,qGO0,qGO1,qGO2,qGO3,qGO4,qGO5,doCallV,splice,Nat.reduceAdd,reduceCtorEq,Nat.reduceLT,Nat.reduceLeDiff,Nat.reduceEqDiff,c152,hia0,hia1,ha.froz1,h1]
   exact⟨_,rfl,hn⟩
  |true=>
   cases hxx:is x with
   |true=>
    rw[hxx]at h0
    simp(maxDischargeDepth:=6) only[qF,qGO0,qGO1,qGO2,qGO3,qGO4,qGO5,doCallV,splice,Nat.reduceAdd,reduceCtorEq,Nat.reduceLT,Nat.reduceLeDiff,Nat.reduceEqDiff,c152,hia0,hia1,hf1,h1,h0]
    exact⟨_,rfl,he1⟩
   |false=>
    rw[hxx]at h0
    simp(maxDischargeDepth:=6) only[qF,qGO0,qGO1,qGO2,qGO3,qGO4,qGO5,doCallV,splice,Nat.reduceAdd,reduceCtorEq,Nat.reduceLT,Nat.reduceLeDiff,Nat.reduceEqDiff,c152,hia0,hia1,ha.froz1,h1,h0]
    exact⟨_,rfl,hn⟩
end Go.Proofs.YtfenhjpkomldcaaGreat
