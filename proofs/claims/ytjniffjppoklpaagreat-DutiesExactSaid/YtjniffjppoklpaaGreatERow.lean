/- DutiesExact returns true at every input, and leaves it as it was. Conditions: none. -/
import Derived.Test.YtjniffjppoklpaaGreatRows
import Derived.Test.YtjniffjppoklpaaGreatM20
import Derived.Test.YtjniffjppoklpaaGreatEFacts
import Derived.WalkKit
import Derived.ProofKit
import Derived.OpenShut
import Derived.ShutString
import Derived.ChangeOld
import Derived.Below
import Derived.HandedShaped
namespace Go.Proofs.YtjniffjppoklpaaGreat.dutiesExact
open Go.ChangeShapes Go.WideShapes Go.ChangeAt Go.RowKit
open Go.ChangeMaps (open_string shut_string)
set_option linter.unusedVariables false
theorem own:ownKnob Tryz.prog.godebug=none:=by kernel_rfl
theorem laidOut:laidOutB Tryz.prog=true:=by kernel_rfl
theorem walk(W:World)(n0:Nat)(c0:Array Value)(e0:Go.Ev.Tree Tryz.prog W n0 26 (Value.agg c0).cells.toList)(n1:Nat)(c1:Array Value)(e1:Go.Ev.Tree Tryz.prog W n1 34 (Value.agg c1).cells.toList)(n2:Nat)(a2:Option Addr)(pI cap2:Nat)(e2:Go.Ev.Tree Tryz.prog W n2 35 (Value.slice a2 pI cap2).cells.toList)(a3:Int):
  Calls Tryz.prog 3 #[.agg c0,.agg c1,.slice a2 pI cap2,.int .i64 a3] W fun e w'=>e= .returned (.bool true)∧Below W.heap.size W w':=by
 obtain⟨t0,u0,s0,y0⟩:=e0
 obtain⟨t1,u1,s1,y1⟩:=e1
 obtain⟨t2,u2,s2,y2⟩:=e2
 obtain⟨dT,s,rfl,hs⟩:=SQ y0 y1 y2 a3
 obtain⟨m,hm⟩:=Go.Ev.DCall_iff.1 hs
 refine(Go.Ev.pure_call aqZ (Checked.mixed Tryz.checked) (f:=3) (af:=Go.Proofs.YtjniffjppoklpaaGreat.c3) rfl rfl rfl hm W #[.agg c0,.agg c1,.slice a2 pI cap2,.int .i64 a3] ?_).mono ?_
 ·simp only[Go.Ev.PList]at u2
  obtain⟨v,vs,q,hv,rfl⟩:=u2
  have q': [Value.slice a2 pI cap2]= [v]:=q
  injection q' with q' _
  subst q'
  simp only[Go.Ev.PList,Go.Ev.PRel]
  exact⟨_,_,rfl,⟨_,rfl,u0,s0⟩,_,_,rfl,⟨_,rfl,u1,s1⟩,_,_,rfl,hv,_,_,rfl,rfl,rfl⟩
 ·rintro e w' ⟨cv,rfl,hb,hv⟩
  simp only[Go.Ev.PRel]at hv
  exact⟨by rw[hv],hb⟩
set_option maxRecDepth 100000 in
theorem lifted(os:Os)(started:os.Started)(H:Type)(enc:TypeId×Value→H):
  ReturnsInHanded {} Tryz.checked os 3 .any (Rows.dutiesExactSpec.pre6 enc Tryz.prog Tryz.f3 Rows.dutiesExactRow.domain false) (Rows.dutiesExactSpec.post enc Tryz.prog Tryz.f3 false true false false):=by
 refine returnsInHanded_of_change_shaped (C:=Tryz.checked) own started (by kernel_rfl) Tryz.func3
  (ChangeSpec.witness6 (enc:=enc) (C:=Tryz.checked) false ⟨#[], #[.agg #[.slice none 0 0,.slice none 0 0,.slice none 0 0],.agg #[.int .i64 0,.int .i64 0,.int .i64 0,.int .i64 0,.int .i64 0,.int .i64 0,.int .i64 0,.slice none 0 0,.slice none 0 0,.slice none 0 0,.slice none 0 0,.slice none 0 0,.slice none 0 0,.int .i64 0],.slice none 0 0,.int .i64 0],[]⟩ 8 (by kernel_rfl) (by kernel_rfl) (by kernel_rfl) (by kernel_rfl)) ?_
 intro W base args ds gs before hval0 hW hcnd hwt _ _
 have hval: ∀(j:Nat) t v,Tryz.f3.params[j]? =some t→args[j]? =some v→Value.okWide Tryz.prog W .any base t v:=hval0
 have hW':=hW
 obtain⟨p,q,hA0,hV,rfl,hfz,hnd⟩:=hW
 have hA:DataW.TrodAll enc Tryz.prog W 0 (fun _=>true) true Tryz.f3.params.toList args.toList ds p:=hA0
 rw[Tryz.params3]at hA hval
 obtain⟨v0,vs0,d0,ds0,p0,q0,hargs,rfl,rfl,h0,r0⟩:=trodAll_cons hA
 obtain⟨v1,vs1,d1,ds1,p1,q1,rfl,rfl,rfl,h1,r1⟩:=trodAll_cons r0
 obtain⟨v2,vs2,d2,ds2,p2,q2,rfl,rfl,rfl,h2,r2⟩:=trodAll_cons r1
 obtain⟨v3,vs3,d3,ds3,p3,q3,rfl,rfl,rfl,h3,r3⟩:=trodAll_cons r2
 obtain⟨rfl,rfl,rfl⟩:=trodAll_nil r3
 obtain rfl:args= #[v0,v1,v2,v3]:=by cases args;simp_all
 obtain⟨rfl,rfl⟩:=trodVars_none hV
 have k0:=h0
 have lt0: ∀x∈p0,x.block<W.heap.size:=by obtain⟨m,hm⟩:=k0;exact DataW.trod_lt m _ _ _ hm
 have z0: ∀x∈d0.weights Tryz.prog 26,x≤reachBytes:=fun x hx=>by
  have:=List.all_eq_true.1 hwt x (DataW.weights_mem_each (j:=0) (t:=26) (d:=d0) (by rw[Tryz.params3];rfl) rfl x hx)
  simpa using this
 obtain⟨n0,hn0⟩:=h0
 obtain⟨c0,rfl,_⟩:=okWide_struct Tryz.underlying26 (hval 0 26 v0 rfl rfl)
 have e0:=Go.Ev.trees_of (fun t ht=>List.all_eq_true.1 On t ht) n0 26 _ _ _ (by decide) hn0 z0
 have k1:=h1
 have lt1: ∀x∈p1,x.block<W.heap.size:=by obtain⟨m,hm⟩:=k1;exact DataW.trod_lt m _ _ _ hm
 have z1: ∀x∈d1.weights Tryz.prog 34,x≤reachBytes:=fun x hx=>by
  have:=List.all_eq_true.1 hwt x (DataW.weights_mem_each (j:=1) (t:=34) (d:=d1) (by rw[Tryz.params3];rfl) rfl x hx)
  simpa using this
 obtain⟨n1,hn1⟩:=h1
 obtain⟨c1,rfl,_⟩:=okWide_struct Tryz.underlying34 (hval 1 34 v1 rfl rfl)
 have e1:=Go.Ev.trees_of (fun t ht=>List.all_eq_true.1 On t ht) n1 34 _ _ _ (by decide) hn1 z1
 have k2:=h2
 have lt2: ∀x∈p2,x.block<W.heap.size:=by obtain⟨m,hm⟩:=k2;exact DataW.trod_lt m _ _ _ hm
 have z2: ∀x∈d2.weights Tryz.prog 35,x≤reachBytes:=fun x hx=>by
  have:=List.all_eq_true.1 hwt x (DataW.weights_mem_each (j:=2) (t:=35) (d:=d2) (by rw[Tryz.params3];rfl) rfl x hx)
  simpa using this
 obtain⟨n2,hn2⟩:=h2
 obtain⟨a2,pI,cap2,rfl⟩:=okWide_slice Tryz.underlying35 (hval 2 35 v2 rfl rfl)
 have e2:=Go.Ev.trees_of (fun t ht=>List.all_eq_true.1 On t ht) n2 35 _ _ _ (by decide) hn2 z2
 obtain⟨a3,rfl,rfl,rfl,w3⟩:=open_int Tryz.underlying3 (hval 3 3 v3 rfl rfl) h3
 clear hA0 hval0
 refine(walk W n0 c0 e0 n1 c1 e1 n2 a2 pI cap2 e2 a3).mono fun e W' ⟨he,bel⟩=> ?_
 subst he
 exact⟨_,rfl,_,_,_,[],_,[],hW',trodAll_mk1 (shut_bool Tryz.underlying4 _),(trodAll_cons_mk (Below.trod laidOut (by kernel_rfl) (of_decide_eq_true (by kernel_rfl)) k0 bel lt0) (trodAll_cons_mk (Below.trod laidOut (by kernel_rfl) (of_decide_eq_true (by kernel_rfl)) k1 bel lt1) (trodAll_cons_mk (Below.trod laidOut (by kernel_rfl) (of_decide_eq_true (by kernel_rfl)) k2 bel lt2) (trodAll_cons_mk (shut_int Tryz.underlying3 w3) trodAll_mk0)))),rfl,bel.frame _,fun h=>by cases h⟩
theorem over:Rows.dutiesExactRow.holds Tryz.pinned (OpenSpec.ofChange Rows.dutiesExactSpec):=
 OpenClaim.holds_of_wide 3 Tryz.f3 rfl rfl rfl rfl rfl rfl rfl ⟨rfl,rfl,rfl,rfl,rfl⟩ rfl rfl rfl rfl rfl named Tryz.func3 facts
  (of_decide_eq_true (by kernel_rfl)) (by unfold Func.isWrapper;first|(rw[if_pos (by decide+kernel)];kernel_rfl)|(rw[if_neg (by decide+kernel)];exact⟨rfl,rfl⟩))
  (fun os started H enc _=>lifted os started H enc)
theorem proved:Rows.DutiesExactSaid:=over
end Go.Proofs.YtjniffjppoklpaaGreat.dutiesExact
namespace Go.Proofs.YtjniffjppoklpaaGreat
theorem dutiesExact_holds:Rows.DutiesExactSaid:=dutiesExact.proved
end Go.Proofs.YtjniffjppoklpaaGreat
