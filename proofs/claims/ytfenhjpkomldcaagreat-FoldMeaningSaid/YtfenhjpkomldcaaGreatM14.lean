/- A simplified form has the value of the expression: plain. A simplified form is its own simplified form, and has no names of its own: plain. The built expressions' types: plain. Conditions: the theorems' own. -/
import Derived.Test.YtfenhjpkomldcaaGreatM13
import Derived.KernelRfl
set_option maxRecDepth 100000
set_option linter.unusedSimpArgs false
set_option linter.unusedVariables false
set_option maxHeartbeats 16000000
namespace Go.Proofs.YtfenhjpkomldcaaGreat
open Go Go.Ev
theorem val_node(e:List Nat→Int)(op num:Int)(ys:List Ex)(h:7≤op)(s:List Nat):(Ex.mk op num s ys).val0 e=apS op (val0L e ys):=by
 rw[Ex.val0_eq]
 show(if op=6 then _ else if op=1∨op=2∨op=3 then _ else if op=4 then _ else if op=5 then _ else _)=_
 rw[if_neg (by omega),if_neg (by omega),if_neg (by omega),if_neg (by omega)];rfl
theorem val_4(e:List Nat→Int){y:Ex}(h:y.op=4):y.val0 e=1:=by
 rw[Ex.val0_eq,if_neg (by omega),if_neg (by omega),if_pos h]
theorem val_5(e:List Nat→Int){y:Ex}(h:y.op=5):y.val0 e=0:=by
 rw[Ex.val0_eq,if_neg (by omega),if_neg (by omega),if_neg (by omega),if_pos h]
theorem val_num(e:List Nat→Int){y:Ex}(h:y.op=1∨y.op=2∨y.op=3):y.val0 e=y.num:=by
 rw[Ex.val0_eq,if_neg (by omega),if_pos h]
theorem val_zero(e:List Nat→Int){y:Ex}(h:zeroX y=true):y.val0 e=0:=by
 unfold zeroX at h
 rw[Bool.and_eq_true,decide_eq_true_eq,decide_eq_true_eq]at h
 rw[val_num e (by omega),h.2]
theorem val_one(e:List Nat→Int){y:Ex}(h:oneX y=true):y.val0 e=1:=by
 unfold oneX at h
 rw[Bool.and_eq_true,decide_eq_true_eq,decide_eq_true_eq]at h
 rw[val_num e (by omega),h.2]
theorem val_not(e:List Nat→Int){scope k:Int}{y:Ex}(h:FK scope k y)(h19:y.op=19):y.val0 e=1-(y.args.headD (leafX 0 0)).val0 e:=by
 obtain⟨h1,h2,har,_⟩:=h.node
 obtain⟨op,num,s,ys⟩:=y
 change op=19 at h19
 subst h19
 rw[val_node e 19 num ys (by decide) s]
 have har':arOk 19 ys.length=true:=har
 have hl:ys.length=1:=by simpa[arOk]using har'
 match ys,hl with
 | [z],_=>rfl
theorem clamp_bd{n:Int}(h:bd n):clampS n=n:=by
 unfold bd at h;unfold clampS;omega
theorem redX_val(e:List Nat→Int){scope op k:Int}{ts:List Int}{ys:List Ex}(hys:FKs scope ts ys)(hin:inKs ts (val0L e ys))(h7:7≤op)(h22:op≤22)(har:arOk op ys.length=true)(hr:resK op ts=k)(hk:k≠0):(redX op ys).val0 e=apS op (val0L e ys):=by
 have hnode: ∀ys:List Ex,(Ex.mk op 0 [] ys).val0 e=apS op (val0L e ys):=fun ys=>val_node e op 0 ys h7 []
 match ys,ts,hys,hin,har,hr with
 | [],[],_,_,_,_=>exact hnode []
 | [a],[t],hys,hin,har,hr=>
   show(if op=19∧a.op=19 then a.args.headD (leafX 0 0)else .mk op 0 [] [a]).val0 e=_
   split
   ·rename_i h
    obtain⟨rfl,h2⟩:=h
    have hv:=val_not e hys.1 h2
    show _=1-a.val0 e
    rw[hv];omega
   ·exact hnode [a]
 | [a,b],[t,u],hys,hin,har,hr=>
   obtain⟨ha,hb,_⟩:=hys
   obtain⟨ia,ib,_⟩:=hin
   have hab:=inK_bd ia
   have hbb:=inK_bd ib
   have h44:(op=20∨op=21∨op=22)→bit (a.val0 e)∧bit (b.val0 e):=by
    intro ho
    have hrr:(if allK [t,u] 4=true then(4:Int)else 0)=k:=by rcases ho with rfl|rfl|rfl <;> exact hr
    split at hrr
    ·rename_i hall
     rw[allK_cons,allK_cons,allK_nil,Bool.and_eq_true,Bool.and_eq_true,decide_eq_true_eq,decide_eq_true_eq]at hall
     rw[hall.1]at ia
     rw[hall.2.1]at ib
     exact⟨inK_bit ia,inK_bit ib⟩
    ·exact absurd hrr.symm hk
   have hn:=hnode [a,b]
   have hv:val0L e [a,b]= [a.val0 e,b.val0 e]:=rfl
   rw[hv]at hn ⊢
   rw[redX_two]
   unfold red2
   unfold bit at h44
   have l4:(leafX 4 0).val0 e=1:=val_4 e rfl
   have l5:(leafX 5 0).val0 e=0:=val_5 e rfl
   by_cases o20:op=20
   ·obtain⟨ba,bb⟩:=h44 (.inl o20)
    rw[if_pos o20]
    subst o20
    have hap:apS 20 [a.val0 e,b.val0 e]=min (a.val0 e) (b.val0 e):=rfl
    rw[hap]at hn ⊢
    split
    ·rename_i h
     rw[l5]
     rcases h with h|h
     ·rw[val_5 e h];omega
     ·rw[val_5 e h];omega
    ·split
     ·rename_i h;rw[val_4 e h];omega
     ·split
      ·rename_i h;rw[val_4 e h];omega
      ·exact hn
   rw[if_neg o20]
   by_cases o21:op=21
   ·obtain⟨ba,bb⟩:=h44 (.inr (.inl o21))
    rw[if_pos o21]
    subst o21
    have hap:apS 21 [a.val0 e,b.val0 e]=max (a.val0 e) (b.val0 e):=rfl
    rw[hap]at hn ⊢
    split
    ·rename_i h
     rw[l4]
     rcases h with h|h
     ·rw[val_4 e h];omega
     ·rw[val_4 e h];omega
    ·split
     ·rename_i h;rw[val_5 e h];omega
     ·split
      ·rename_i h;rw[val_5 e h];omega
      ·exact hn
   rw[if_neg o21]
   by_cases o22:op=22
   ·obtain⟨ba,bb⟩:=h44 (.inr (.inr o22))
    rw[if_pos o22]
    subst o22
    have hap:apS 22 [a.val0 e,b.val0 e]=max (1-a.val0 e) (b.val0 e):=rfl
    rw[hap]at hn ⊢
    split
    ·rename_i h
     rw[l4]
     rcases h with h|h
     ·rw[val_5 e h];omega
     ·rw[val_4 e h];omega
    ·split
     ·rename_i h;rw[val_4 e h];omega
     ·split
      ·rename_i h
       rw[val_5 e h]
       split
       ·rename_i h19
        have:=val_not e ha h19
        omega
       ·rw[val_node e 19 0 [a] (by decide) []]
        show 1-a.val0 e=_
        omega
      ·exact hn
   rw[if_neg o22]
   by_cases o8:op=8
   ·rw[if_pos o8]
    subst o8
    have hap:apS 8 [a.val0 e,b.val0 e]=clampS (a.val0 e+b.val0 e):=rfl
    rw[hap]at hn ⊢
    split
    ·rename_i h;rw[val_zero e h,Int.add_zero,clamp_bd hab]
    ·split
     ·rename_i h;rw[val_zero e h,Int.zero_add,clamp_bd hbb]
     ·exact hn
   rw[if_neg o8]
   by_cases o9:op=9
   ·rw[if_pos o9]
    subst o9
    have hap:apS 9 [a.val0 e,b.val0 e]=clampS (a.val0 e-b.val0 e):=rfl
    rw[hap]at hn ⊢
    split
    ·rename_i h;rw[val_zero e h,Int.sub_zero,clamp_bd hab]
    ·exact hn
   rw[if_neg o9]
   by_cases o10:op=10
   ·rw[if_pos o10]
    subst o10
    have hap:apS 10 [a.val0 e,b.val0 e]=clampS (a.val0 e*b.val0 e):=rfl
    rw[hap]at hn ⊢
    split
    ·rename_i h;rw[val_one e h,Int.mul_one,clamp_bd hab]
    ·split
     ·rename_i h;rw[val_one e h,Int.one_mul,clamp_bd hbb]
     ·exact hn
   rw[if_neg o10]
   by_cases o11:op=11
   ·rw[if_pos o11]
    subst o11
    have hap:apS 11 [a.val0 e,b.val0 e]=divS (a.val0 e) (b.val0 e):=rfl
    rw[hap]at hn ⊢
    split
    ·rename_i h
     rw[val_one e h]
     unfold divS
     rw[if_neg (by decide),Int.fdiv_one,clamp_bd hab]
    ·exact hn
   rw[if_neg o11]
   exact hn
 | [a,b,c],[t,u,w],hys,hin,har,hr=>
   have hn:=hnode [a,b,c]
   show(if op=14 then(if a.op=4 then b else if a.op=5 then c else .mk op 0 [] [a,b,c])else .mk op 0 [] [a,b,c]).val0 e=_
   split
   ·rename_i o14
    subst o14
    have hap:apS 14 (val0L e [a,b,c])=if a.val0 e=0 then c.val0 e else b.val0 e:=rfl
    rw[hap]at hn ⊢
    split
    ·rename_i h;rw[val_4 e h];rfl
    ·split
     ·rename_i h;rw[val_5 e h];rfl
     ·exact hn
   ·exact hn
 |a::b::c::d::r,_,_,_,_,_=>exact hnode _
theorem lit_val(e:List Nat→Int){scope k:Int}{y:Ex}(h:FK scope k y)(hl:isLit y=true):y.val0 e=litV y:=by
 obtain⟨h1,h2,har,hnum,hname,hwl⟩:=h.node
 have h7:y.op=7→0<y.args.length:=fun c=>by rw[c]at har;simp[arOk]at har;omega
 have hl0:=hl
 rw[isLit_eq y h7,Bool.or_eq_true,Bool.and_eq_true,decide_eq_true_eq,decide_eq_true_eq,decide_eq_true_eq]at hl
 rw[litV_eq y h7]
 rcases hl with hl|⟨hl7,hz⟩
 ·by_cases e4:y.op=4
  ·rw[if_pos e4,val_4 e e4]
  rw[if_neg e4]
  by_cases e5:y.op=5
  ·rw[if_pos e5,val_5 e e5]
  rw[if_neg e5,if_neg (by omega),val_num e (by omega)]
 ·rw[if_neg (by omega),if_neg (by omega),if_pos hl7]
  have hlen:y.args.length=1:=by rw[hl7]at har;simpa[arOk]using har
  obtain⟨z,hzz⟩: ∃z,y.args= [z]:=by
   match hy:y.args,hlen with
   | [z],_=>exact⟨z,rfl⟩
  have hz0:arg0 y=z:=by unfold arg0;rw[hzz];rfl
  rw[hz0]at hz ⊢
  rw[Ex.val0_eq,if_neg (by omega),if_neg (by omega),if_neg (by omega),if_neg (by omega),hl7,hzz]
  show-z.val0 e= -z.num
  rw[val_num e (by omega)]
theorem lits_val(e:List Nat→Int){scope:Int}: ∀{ts:List Int} {ys:List Ex},FKs scope ts ys→ys.all isLit=true→ys.map litV=val0L e ys
 | [],[],_,_=>rfl
 |t::ts,y::ys,h,hl=>by
  rw[List.all_cons,Bool.and_eq_true]at hl
  rw[List.map_cons,val0L,lit_val e h.1 hl.1,lits_val e h.2 hl.2]
theorem fold_val{cl:List Nat→Int×Int}{vx:List Nat→Int}(hvx:vxOk cl vx){scope:Int}{e:List Nat→Int}(he:vxOk (clA cl scope) e)(hev: ∀s,attrK scope s=0→e s=vx s)(x:Ex): ∀k,x.wf=true→x.ty cl scope=(k,0)→(x.fold cl (cxv cl vx) scope).val0 e=x.val0 e:=by
 induction x using Ex.ind with
 |h x ih=>
  intro k hwf ht
  obtain⟨h1,h2,har,hnum,hname,hwl⟩:=wf_node hwf
  rw[Ex.fold_eq]
  by_cases h6:x.op=6
  ·rw[if_pos h6]
   by_cases hz:attrK scope x.name≠0
   ·rw[if_pos hz]
   ·rw[if_neg hz]
    rw[Ex.ty_eq,if_pos h6,if_neg hz]at ht
    have hin:=hvx _ _ ht
    unfold cxv
    rw[ht,Ex.val0_eq (x:=x),if_pos h6,hev _ (by simpa using hz)]
    obtain⟨q1,q2,q3⟩:=litX_ok (scope:=scope) hin
    rw[lit_val e q1 q2,q3]
  rw[if_neg h6]
  by_cases hem:x.args.isEmpty=true
  ·rw[if_pos hem]
  rw[if_neg hem]
  have hne:x.args.length≠0:=by
   intro h;exact hem (by simp[List.length_eq_zero_iff.1 h])
  have h7:=ar_pos h1 har hne
  obtain⟨ts,hts,hr,hk⟩:=ty_node ht h6
  have hlen:ts.length=x.args.length:=tyL_len hts
  have hys:FKs scope ts (foldL cl (cxv cl vx) scope x.args)∧val0L e (foldL cl (cxv cl vx) scope x.args)=val0L e x.args∧inKs ts (val0L e x.args):=by
   clear ht har hne hem hr hwf hnum hname hlen
   generalize x.args=xs at ih hts hwl
   induction xs generalizing ts with
   |nil=>rw[tyL]at hts;cases hts;exact⟨trivial,rfl,trivial⟩
   |cons z zs ihz=>
    obtain⟨t,us,rfl,e1,e2⟩:=tyL_cons hts
    rw[wfL,Bool.and_eq_true]at hwl
    obtain⟨g1,g2,g3⟩:=ihz us (fun y hy=>ih y (by simp[hy])) e2 hwl.2
    have f2:=ih z (by simp) t hwl.1 e1
    have f1:=fold_ok (cxv_ok hvx) scope z t hwl.1 e1
    have f3:inK t (z.val0 e):=(fold0 he 0 (fun s=>attrK_0 s) z t hwl.1 (by rw[←ty_clA];exact e1)).2
    rw[foldL,val0L,val0L,f2,g2]
    exact⟨⟨f1,g1⟩,rfl,f3,g3⟩
  obtain⟨i1,i2,i3⟩:=hys
  have hyl:(foldL cl (cxv cl vx) scope x.args).length=x.args.length:=by rw[foldL_map,List.length_map]
  have hxv:x.val0 e=apS x.op (val0L e x.args):=by rw[Ex.val0_eq,if_neg h6,if_neg (by omega),if_neg (by omega),if_neg (by omega)]
  rw[hxv,←i2]
  split
  ·rename_i hall
   rw[lits_val e i1 hall,ht]
   rw[←i2]at i3
   obtain⟨q1,q2,q3⟩:=litX_ok (scope:=scope) (ap_ok i3 h7 h2 (by rw[hlen];exact har) hr hk).2
   rw[lit_val e q1 q2,q3]
  ·rw[←i2]at i3
   exact redX_val e i1 i3 h7 h2 (by rw[hyl];exact har) hr hk
end Go.Proofs.YtfenhjpkomldcaaGreat
namespace Go.Proofs.YtfenhjpkomldcaaGreat
open Go Go.Ev
section
variable(cx:List Nat→Ex)(scope:Int)
mutual
def nf:Ex→Prop
 | .mk op num s args=>nfL args∧(Ex.mk op num s args).fold nc cx scope= .mk op num s args
def nfL:List Ex→Prop
 | []=>True
 |x::xs=>nf x∧nfL xs
end
theorem nf_eq(x:Ex):nf cx scope x↔(nfL cx scope x.args∧x.fold nc cx scope=x):=by obtain⟨_,_,_,_⟩:=x;rw[nf];rfl
theorem nfL_mem: ∀{xs:List Ex},nfL cx scope xs↔ ∀x∈xs,nf cx scope x
 | []=>by simp[nfL]
 |x::xs=>by rw[nfL,nfL_mem (xs:=xs)];simp
theorem nfL_fold: ∀{xs:List Ex},nfL cx scope xs→foldL nc cx scope xs=xs
 | [],_=>rfl
 |x::xs,h=>by
  rw[nfL]at h
  rw[foldL,((nf_eq cx scope x).1 h.1).2,nfL_fold h.2]
theorem nf_leaf(op num:Int)(s:List Nat)(h:op≠6):nf cx scope (.mk op num s []):=by
 rw[nf_eq]
 refine⟨by show nfL cx scope [];rw[nfL];trivial, ?_⟩
 rw[Ex.fold_eq]
 show(if op=6 then _ else if([]:List Ex).isEmpty=true then _ else _)=_
 rw[if_neg h];rfl
theorem nf_mk{op:Int}{ys:List Ex}(h7:7≤op)(hys:nfL cx scope ys)(hl:ys.all isLit=false)(hr:redX op ys= .mk op 0 [] ys):nf cx scope (.mk op 0 [] ys):=by
 rw[nf_eq]
 refine⟨hys, ?_⟩
 rw[Ex.fold_eq]
 show(if op=6 then _ else if ys.isEmpty=true then _ else if(foldL nc cx scope ys).all isLit=true then _ else redX op (foldL nc cx scope ys))=_
 rw[nfL_fold cx scope hys,if_neg (by omega),hl,hr]
 split <;> rfl
theorem nf_lit{k n:Int}(h:inK k n):nf cx scope (litX k n):=by
 have hFK:=(litX_ok (scope:=scope) h).1
 unfold litX at hFK ⊢
 by_cases h4:k=4
 ·rw[if_pos h4];split <;> exact nf_leaf cx scope _ _ _ (by decide)
 rw[if_neg h4]at hFK ⊢
 by_cases h3:k=3
 ·rw[if_pos h3];exact nf_leaf cx scope _ _ _ (by decide)
 rw[if_neg h3]at hFK ⊢
 by_cases hn:n<0
 ·rw[if_pos hn]at hFK ⊢
  have h2:(if k=2 then(2:Int)else 1)≠6:=by split <;> decide
  have hlf:=nf_leaf cx scope (if k=2 then 2 else 1) (-n) [] h2
  rw[nf_eq]
  have hal:nfL cx scope [leafX (if k=2 then 2 else 1) (-n)]:=by rw[nfL];exact⟨hlf,by rw[nfL];trivial⟩
  refine⟨hal, ?_⟩
  rw[Ex.fold_eq]
  show(if(7:Int)=6 then _ else if([leafX (if k=2 then 2 else 1) (-n)]:List Ex).isEmpty=true then _ else if(foldL nc cx scope [leafX (if k=2 then 2 else 1) (-n)]).all isLit=true then _ else _)=_
  rw[nfL_fold cx scope hal,if_neg (by decide),if_neg (by simp),hFK.2]
  have hli:([leafX (if k=2 then 2 else 1) (-n)]:List Ex).all isLit=true:=by split <;> rfl
  rw[if_pos hli]
  have hv:apS 7 (([leafX (if k=2 then 2 else 1) (-n)]:List Ex).map litV)=n:=by
   have:litV (leafX (if k=2 then 2 else 1) (-n))= -n:=by split <;> rfl
   rw[List.map_cons,this]
   show-(-n)=n
   omega
  show litX k (apS 7 ((foldL nc cx scope [leafX (if k=2 then 2 else 1) (-n)]).map litV))=_
  rw[nfL_fold cx scope hal,hv]
  unfold litX
  rw[if_neg h4,if_neg h3,if_pos hn]
 ·rw[if_neg hn]
  have h2:(if k=2 then(2:Int)else 1)≠6:=by split <;> decide
  exact nf_leaf cx scope _ _ _ h2
theorem nf_head{k:Int}{y:Ex}(h:nf cx scope y)(hf:FK scope k y)(h19:y.op=19):nf cx scope (y.args.headD (leafX 0 0)):=by
 obtain⟨h1,h2,har,_⟩:=hf.node
 have hl:y.args.length=1:=by rw[h19]at har;simpa[arOk]using har
 have hn:=((nf_eq cx scope y).1 h).1
 match hy:y.args,hl with
 | [z],_=>
   rw[hy,nfL]at hn
   exact hn.1
theorem redX_nf{op:Int}{ts:List Int}{ys:List Ex}(hys:FKs scope ts ys)(hn:nfL cx scope ys)(hl:ys.all isLit=false)(h7:7≤op):nf cx scope (redX op ys):=by
 have hnode:redX op ys= .mk op 0 [] ys→nf cx scope (.mk op 0 [] ys):=fun h=>nf_mk cx scope h7 hn hl h
 have hm:=(nfL_mem cx scope).1 hn
 match ys,ts,hys with
 | [],[],_=>simp at hl
 | [a],[t],hys=>
   have e:redX op [a]=if op=19∧a.op=19 then a.args.headD (leafX 0 0)else .mk op 0 [] [a]:=rfl
   by_cases h:op=19∧a.op=19
   ·rw[e,if_pos h];exact nf_head cx scope (hm a (by simp)) hys.1 h.2
   ·rw[if_neg h]at e;rw[e];exact hnode e
 | [a,b],[t,u],hys=>
   have ha:=hm a (by simp)
   have hb:=hm b (by simp)
   have fa:=hys.1
   have e:redX op [a,b]=red2 op a b:=rfl
   rw[e]at hnode ⊢
   unfold red2 at hnode ⊢
   have L4:nf cx scope (leafX 4 0):=nf_leaf cx scope 4 0 [] (by decide)
   have L5:nf cx scope (leafX 5 0):=nf_leaf cx scope 5 0 [] (by decide)
   have hb5:b.op=5→isLit b=true:=fun h=>by
    obtain⟨o,n,s,r⟩:=b
    change o=5 at h
    subst h
    rfl
   by_cases o20:op=20
   ·rw[if_pos o20]at hnode ⊢
    revert hnode;split <;> intro hnode
    ·exact L5
    ·revert hnode;split <;> intro hnode
     ·exact hb
     ·revert hnode;split <;> intro hnode
      ·exact ha
      ·exact hnode rfl
   rw[if_neg o20]at hnode ⊢
   by_cases o21:op=21
   ·rw[if_pos o21]at hnode ⊢
    revert hnode;split <;> intro hnode
    ·exact L4
    ·revert hnode;split <;> intro hnode
     ·exact hb
     ·revert hnode;split <;> intro hnode
      ·exact ha
      ·exact hnode rfl
   rw[if_neg o21]at hnode ⊢
   by_cases o22:op=22
   ·rw[if_pos o22]at hnode ⊢
    by_cases q1:a.op=5∨b.op=4
    ·rw[if_pos q1];exact L4
    rw[if_neg q1]at hnode ⊢
    by_cases q2:a.op=4
    ·rw[if_pos q2];exact hb
    rw[if_neg q2]at hnode ⊢
    by_cases q3:b.op=5
    ·rw[if_pos q3]
     by_cases q4:a.op=19
     ·rw[if_pos q4];exact nf_head cx scope ha fa q4
     ·rw[if_neg q4]
      refine nf_mk cx scope (by decide) (by rw[nfL];exact⟨ha,by rw[nfL];trivial⟩) ?_ ?_
      ·rw[List.all_cons,List.all_cons,hb5 q3]at hl
       simpa using hl
      ·show(if(19:Int)=19∧a.op=19 then _ else _)=_
       rw[if_neg (fun h=>q4 h.2)]
    ·rw[if_neg q3]at hnode ⊢; exact hnode rfl
   rw[if_neg o22]at hnode ⊢
   by_cases o8:op=8
   ·rw[if_pos o8]at hnode ⊢
    revert hnode;split <;> intro hnode
    ·exact ha
    ·revert hnode;split <;> intro hnode
     ·exact hb
     ·exact hnode rfl
   rw[if_neg o8]at hnode ⊢
   by_cases o9:op=9
   ·rw[if_pos o9]at hnode ⊢
    revert hnode;split <;> intro hnode
    ·exact ha
    ·exact hnode rfl
   rw[if_neg o9]at hnode ⊢
   by_cases o10:op=10
   ·rw[if_pos o10]at hnode ⊢
    revert hnode;split <;> intro hnode
    ·exact ha
    ·revert hnode;split <;> intro hnode
     ·exact hb
     ·exact hnode rfl
   rw[if_neg o10]at hnode ⊢
   by_cases o11:op=11
   ·rw[if_pos o11]at hnode ⊢
    revert hnode;split <;> intro hnode
    ·exact ha
    ·exact hnode rfl
   rw[if_neg o11]at hnode ⊢
   exact hnode rfl
 | [a,b,c],[t,u,w],hys=>
   have e:redX op [a,b,c]=if op=14 then(if a.op=4 then b else if a.op=5 then c else .mk op 0 [] [a,b,c])else .mk op 0 [] [a,b,c]:=rfl
   rw[e]at hnode ⊢
   revert hnode;split <;> intro hnode
   ·revert hnode;split <;> intro hnode
    ·exact hm b (by simp)
    ·revert hnode;split <;> intro hnode
     ·exact hm c (by simp)
     ·exact hnode rfl
   ·exact hnode rfl
 |a::b::c::d::r,_,_=>exact hnode rfl
theorem fold_nf{cl:List Nat→Int×Int}{vx:List Nat→Int}(hvx:vxOk cl vx)(x:Ex): ∀k,x.wf=true→x.ty cl scope=(k,0)→nf cx scope (x.fold cl (cxv cl vx) scope):=by
 induction x using Ex.ind with
 |h x ih=>
  intro k hwf ht
  obtain⟨h1,h2,har,hnum,hname,hwl⟩:=wf_node hwf
  have hself:x.args= []→(x.op=6→attrK scope x.name≠0)→nf cx scope x:=by
   intro hn h6
   rw[nf_eq,hn]
   refine⟨by rw[nfL];trivial, ?_⟩
   rw[Ex.fold_eq]
   by_cases h:x.op=6
   ·rw[if_pos h,if_pos (h6 h)]
   ·rw[if_neg h,hn];rfl
  rw[Ex.fold_eq]
  by_cases h6:x.op=6
  ·rw[if_pos h6]
   by_cases hz:attrK scope x.name≠0
   ·rw[if_pos hz]
    rw[h6]at har
    have hlen0:x.args.length=0:=by simpa[arOk]using har
    exact hself (List.length_eq_zero_iff.1 hlen0) fun _=>hz
   ·rw[if_neg hz]
    rw[Ex.ty_eq,if_pos h6,if_neg hz]at ht
    unfold cxv
    rw[ht]
    exact nf_lit cx scope (hvx _ _ ht)
  rw[if_neg h6]
  by_cases hem:x.args.isEmpty=true
  ·rw[if_pos hem]
   exact hself (by simpa using hem) fun h=>absurd h h6
  rw[if_neg hem]
  have hne:x.args.length≠0:=by
   intro h;exact hem (by simp[List.length_eq_zero_iff.1 h])
  have h7:=ar_pos h1 har hne
  obtain⟨ts,hts,hr,hk⟩:=ty_node ht h6
  have hlen:ts.length=x.args.length:=tyL_len hts
  have hys:FKs scope ts (foldL cl (cxv cl vx) scope x.args)∧nfL cx scope (foldL cl (cxv cl vx) scope x.args):=by
   clear ht har hne hem hr hwf hnum hname hlen hself
   generalize x.args=xs at ih hts hwl
   induction xs generalizing ts with
   |nil=>rw[tyL]at hts;cases hts;exact⟨trivial,by rw[foldL,nfL];trivial⟩
   |cons z zs ihz=>
    obtain⟨t,us,rfl,e1,e2⟩:=tyL_cons hts
    rw[wfL,Bool.and_eq_true]at hwl
    obtain⟨g1,g2⟩:=ihz us (fun y hy=>ih y (by simp[hy])) e2 hwl.2
    rw[foldL,nfL]
    exact⟨⟨fold_ok (cxv_ok hvx) scope z t hwl.1 e1,g1⟩,ih z (by simp) t hwl.1 e1,g2⟩
  obtain⟨i1,i2⟩:=hys
  have hyl:(foldL cl (cxv cl vx) scope x.args).length=x.args.length:=by rw[foldL_map,List.length_map]
  split
  ·rename_i hall
   obtain⟨j1,j2⟩:=lits i1 hall
   rw[ht]
   exact nf_lit cx scope (ap_ok j1 h7 h2 (by rw[hlen];exact har) hr hk).2
  ·rename_i hall
   exact redX_nf cx scope i1 i2 (by simpa using hall) h7
end
theorem fold_idem{cl:List Nat→Int×Int}{vx:List Nat→Int}(hvx:vxOk cl vx){scope:Int}(cx:List Nat→Ex){x:Ex}{k:Int}(hwf:x.wf=true)(ht:x.ty cl scope=(k,0)):(x.fold cl (cxv cl vx) scope).fold nc cx scope=x.fold cl (cxv cl vx) scope:=((nf_eq cx scope _).1 (fold_nf cx scope hvx x k hwf ht)).2
mutual
def Ex.occ(s:List Nat):Ex→Prop
 | .mk op _ n xs=>(op=6∧n=s)∨occL s xs
def occL(s:List Nat):List Ex→Prop
 | []=>False
 |x::xs=>x.occ s∨occL s xs
end
theorem Ex.occ_eq(s:List Nat)(x:Ex):x.occ s↔((x.op=6∧x.name=s)∨occL s x.args):=by obtain⟨_,_,_,_⟩:=x;rw[Ex.occ];rfl
theorem occL_mem(s:List Nat): ∀{xs:List Ex},occL s xs↔ ∃x∈xs,x.occ s
 | []=>by simp[occL]
 |x::xs=>by rw[occL,occL_mem s (xs:=xs)];simp
theorem leaf_occ{s:List Nat}{op num:Int}(h:op≠6): ¬(leafX op num).occ s:=by
 rw[Ex.occ_eq]
 rintro(h'|h')
 ·exact h h'.1
 ·change occL s []at h';rw[occL]at h';exact h'
theorem litX_occ{s:List Nat}(k n:Int): ¬(litX k n).occ s:=by
 unfold litX
 have h2:(if k=2 then(2:Int)else 1)≠6:=by split <;> decide
 split
 ·split <;> exact leaf_occ (by decide)
 ·split
  ·exact leaf_occ (by decide)
  ·split
   ·rw[Ex.occ_eq]
    rintro(h'|h')
    ·exact absurd h'.1 (by decide:(7:Int)≠6)
    ·change occL s [leafX (if k=2 then 2 else 1) (-n)]at h'
     rw[occL,occL]at h'
     rcases h' with h'|h'
     ·exact leaf_occ h2 h'
     ·exact h'
   ·exact leaf_occ h2
theorem head_occ{s:List Nat}{y:Ex}(h:(y.args.headD (leafX 0 0)).occ s):y.occ s:=by
 rw[Ex.occ_eq]
 right
 cases hy:y.args with
 |nil=>rw[hy]at h;exact absurd h (leaf_occ (by decide))
 |cons z zs=>rw[hy]at h;rw[occL];exact .inl h
theorem node_occ{s:List Nat}{op:Int}{ys:List Ex}(h7:7≤op)(h:(Ex.mk op 0 [] ys).occ s):occL s ys:=by
 rw[Ex.occ_eq]at h
 rcases h with h|h
 ·have:op=6:=h.1;omega
 ·exact h
def po(s:List Nat)(ys:List Ex)(r:Ex):Prop:=r.occ s→occL s ys
theorem po_ite{s:List Nat}{ys:List Ex}{c:Prop}[Decidable c]{a b:Ex}(h1:po s ys a)(h2:po s ys b):po s ys (if c then a else b):=by split <;> assumption
theorem po_arg{s:List Nat}{ys:List Ex}{a:Ex}(h:a∈ys):po s ys a:=fun ho=>(occL_mem s).2 ⟨a,h,ho⟩
theorem po_head{s:List Nat}{ys:List Ex}{a:Ex}(h:a∈ys):po s ys (a.args.headD (leafX 0 0)):=fun ho=>(occL_mem s).2 ⟨a,h,head_occ ho⟩
theorem po_not{s:List Nat}{ys:List Ex}{a:Ex}(h:a∈ys):po s ys (.mk 19 0 [] [a]):=fun ho=>by
 have:=node_occ (by decide) ho
 rw[occL,occL]at this
 rcases this with h'|h'
 ·exact(occL_mem s).2 ⟨a,h,h'⟩
 ·exact absurd h' id
theorem po_leaf{s:List Nat}{ys:List Ex}{n:Int}(h:n≠6):po s ys (leafX n 0):=fun ho=>absurd ho (leaf_occ h)
theorem redX_occ{s:List Nat}{op:Int}(h7:7≤op)(ys:List Ex):po s ys (redX op ys):=by
 have same: ∀ys,po s ys (.mk op 0 [] ys):=fun ys=>node_occ h7
 match ys with
 | []=>exact same _
 | [a]=>exact po_ite (po_head (by simp)) (same _)
 | [a,b]=>
   have ha:a∈ [a,b]:=by simp
   have hb:b∈ [a,b]:=by simp
   rw[redX_two]
   unfold red2
   have q:=same [a,b]
   have l5:=po_leaf (s:=s) (ys:= [a,b]) (n:=5) (by decide)
   have l4:=po_leaf (s:=s) (ys:= [a,b]) (n:=4) (by decide)
   exact po_ite (po_ite l5 (po_ite (po_arg hb) (po_ite (po_arg ha) q)))
    (po_ite (po_ite l4 (po_ite (po_arg hb) (po_ite (po_arg ha) q)))
    (po_ite (po_ite l4 (po_ite (po_arg hb) (po_ite (po_ite (po_head ha) (po_not ha)) q)))
    (po_ite (po_ite (po_arg ha) (po_ite (po_arg hb) q))
    (po_ite (po_ite (po_arg ha) q)
    (po_ite (po_ite (po_arg ha) (po_ite (po_arg hb) q))
    (po_ite (po_ite (po_arg ha) q) q))))))
 | [a,b,c]=>exact po_ite (po_ite (po_arg (by simp)) (po_ite (po_arg (by simp)) (same _))) (same _)
 |_::_::_::_::_=>exact same _
theorem fold_occ{cl:List Nat→Int×Int}{vx:List Nat→Int}{scope:Int}{s:List Nat}(x:Ex):x.wf=true→(x.fold cl (cxv cl vx) scope).occ s→x.occ s:=by
 induction x using Ex.ind with
 |h x ih=>
  intro hwf ho
  obtain⟨h1,h2,har,hnum,hname,hwl⟩:=wf_node hwf
  rw[Ex.fold_eq]at ho
  by_cases h6:x.op=6
  ·rw[if_pos h6]at ho
   by_cases hz:attrK scope x.name≠0
   ·rw[if_pos hz]at ho;exact ho
   ·rw[if_neg hz]at ho;exact absurd ho (litX_occ _ _)
  rw[if_neg h6]at ho
  by_cases hem:x.args.isEmpty=true
  ·rw[if_pos hem]at ho;exact ho
  rw[if_neg hem]at ho
  have hne:x.args.length≠0:=by
   intro h;exact hem (by simp[List.length_eq_zero_iff.1 h])
  have h7:=ar_pos h1 har hne
  split at ho
  ·exact absurd ho (litX_occ _ _)
  ·have:=redX_occ h7 _ ho
   rw[foldL_map,occL_mem]at this
   obtain⟨y,hy,hyo⟩:=this
   obtain⟨z,hz,rfl⟩:=List.mem_map.1 hy
   rw[Ex.occ_eq]
   exact .inr ((occL_mem s).2 ⟨z,hz,ih z hz (wfL_mem.1 hwl z hz) hyo⟩)
end Go.Proofs.YtfenhjpkomldcaaGreat
namespace Go.Proofs.YtfenhjpkomldcaaGreat
open Go Go.Ev
def l0F:Cs:= [([116,119,111],leafX 1 2),([115,104,105,102,116,95,116,105,109,101],.mk 10 0 [] [.mk 6 0 [116,119,111] [],leafX 2 45])]
theorem l0_two:CLa l0F [116,119,111]=(1,0):=by decide+kernel
theorem l0_shift:CLa l0F [115,104,105,102,116,95,116,105,109,101]=(2,0):=by decide+kernel
def Gd(scope kind:Int)(d:Nat)(y:Ex):Prop:=y.wf=true∧y.ty (CLa l0F) scope=(kind,0)∧y.depth≤d
def Gds(scope:Int)(d:Nat):List Int→List Ex→Prop
 | [],[]=>True
 |t::ts,y::ys=>Gd scope t d y∧Gds scope d ts ys
 |_,_=>False
theorem atW_nm(scope:Int): ∀s∈atW scope,attrNm s=true:=by
 unfold atW
 split
 ·decide+kernel
 ·split
  ·decide+kernel
  ·split
   ·decide+kernel
   ·intro s hs;cases hs
theorem gd_attr{scope kind:Int}{s:List Nat}(h:attrK scope s=kind)(hk:kind≠0):Gd scope kind 1 (.mk 6 0 s []):=by
 have hm:s∈atW scope:=(attrK_mem scope s).1 (by rw[h];exact hk)
 refine⟨?_, ?_, ?_⟩
 ·rw[Ex.wf_eq]
  show(nodeOk 6 0 s 0&&wfL [])=true
  rw[wfL,Bool.and_true]
  unfold nodeOk
  simp[atW_nm scope s hm,arOk,mostN]
 ·rw[Ex.ty_eq]
  show(if(6:Int)=6 then(if attrK scope s≠0 then(attrK scope s,(0:Int))else CLa l0F s)else _)=_
  rw[if_pos rfl,if_pos (by rw[h];exact hk),h]
 ·rw[Ex.depth_eq];show 1+depthL []≤1;simp[depthL]
theorem ty_nc{cl':List Nat→Int×Int}{scope k:Int}{x:Ex}(h:x.ty nc scope=(k,0)):x.ty cl' scope=(k,0):=
 (fold_congr (cl:=nc) (cl':=cl') (cx:=fun _=>leafX 0 0) (cx':=fun _=>leafX 0 0) scope (fun s t h=>by unfold nc at h;cases h) x k h).1
theorem gd_leaf{scope k op num:Int}(h:(op=1∧k=1∧0≤num∧num≤1099511627776)∨(op=2∧k=2∧0≤num∧num≤1099511627776)∨(op=3∧k=3∧0≤num∧num≤1439)∨(op=4∧k=4∧num=0)∨(op=5∧k=4∧num=0)):Gd scope k 1 (leafX op num):=by
 have hf:=FK.leaf (scope:=scope) h
 refine⟨hf.1,ty_nc hf.2, ?_⟩
 rw[Ex.depth_eq];show 1+depthL []≤1;simp[depthL]
theorem gd_const{scope kind:Int}{s:List Nat}(h0:attrK scope s=0)(hc:CLa l0F s=(kind,0))(hw:attrNm s=true):Gd scope kind 1 (.mk 6 0 s []):=by
 refine⟨?_, ?_, ?_⟩
 ·rw[Ex.wf_eq]
  show(nodeOk 6 0 s 0&&wfL [])=true
  rw[wfL,Bool.and_true]
  unfold nodeOk
  simp[hw,arOk,mostN]
 ·rw[Ex.ty_eq]
  show(if(6:Int)=6 then(if attrK scope s≠0 then(attrK scope s,(0:Int))else CLa l0F s)else _)=_
  rw[if_pos rfl,if_neg (by simp[h0]),hc]
 ·rw[Ex.depth_eq];show 1+depthL []≤1;simp[depthL]
theorem gd_two{scope:Int}(hs:scope=1∨scope=2∨scope=3):Gd scope 1 1 (.mk 6 0 [116,119,111] []):=gd_const (by rcases hs with rfl|rfl|rfl <;> decide+kernel) l0_two (by decide+kernel)
theorem gd_shift{scope:Int}(hs:scope=1∨scope=2∨scope=3):Gd scope 2 1 (.mk 6 0 [115,104,105,102,116,95,116,105,109,101] []):=gd_const (by rcases hs with rfl|rfl|rfl <;> decide+kernel) l0_shift (by decide+kernel)
theorem Gd.le{scope kind:Int}{d d':Nat}{y:Ex}(h:Gd scope kind d y)(hd:d≤d'):Gd scope kind d' y:=⟨h.1,h.2.1,by have:=h.2.2;omega⟩
theorem Gds.ty{scope:Int}{d:Nat}: ∀{ts:List Int} {ys:List Ex},Gds scope d ts ys→tyL (CLa l0F) scope ys= .ok ts∧wfL ys=true∧depthL ys≤d
 | [],[],_=>by refine⟨rfl,rfl, ?_⟩;simp[depthL]
 |t::ts,y::ys,h=>by
  obtain⟨h1,h2⟩:=h
  obtain⟨g1,g2,g3⟩:=Gds.ty h2
  refine⟨?_, ?_, ?_⟩
  ·rw[tyL,h1.2.1,g1];rfl
  ·rw[wfL,h1.1,g2];rfl
  ·rw[depthL];have:=h1.2.2;omega
theorem gd_mk{scope k op:Int}{d:Nat}{ys:List Ex}{ts:List Int}(h7:7≤op)(h22:op≤22)(har:arOk op ys.length=true)(hys:Gds scope d ts ys)(hr:resK op ts=k)(hk:k≠0):Gd scope k (d+1) (.mk op 0 [] ys):=by
 obtain⟨g1,g2,g3⟩:=hys.ty
 have h6:op≠6:=by omega
 refine⟨?_, ?_, ?_⟩
 ·rw[Ex.wf_eq,Bool.and_eq_true]
  refine⟨?_,g2⟩
  have hm:0≤mostN op:=by unfold mostN;split <;> (try split) <;> decide
  simp only[nodeOk,Bool.and_eq_true,decide_eq_true_eq]
  refine⟨by show 1≤op;omega,h22,har,⟨Int.le_refl _,hm⟩, ?_⟩
  show(if op=6 then attrNm []else decide (([]:List Nat)= []))=true
  rw[if_neg h6];rfl
 ·rw[Ex.ty_eq]
  show(if op=6 then _ else match tyL (CLa l0F) scope ys with| .error e=>(0,e)| .ok ts=>if resK op ts=0 then(0,9)else(resK op ts,0))=(k,0)
  rw[if_neg h6,g1]
  show(if resK op ts=0 then((0:Int),(9:Int))else(resK op ts,0))=(k,0)
  rw[hr,if_neg hk]
 ·rw[Ex.depth_eq];show 1+depthL ys≤d+1;omega
end Go.Proofs.YtfenhjpkomldcaaGreat
