/- DutiesDescribe returns true at every input of bulk at most 1048576, and leaves it as it was. Conditions: none. -/
import Derived.Test.YtblcbheipjeoeaaGreatRows
import Derived.Test.YtblcbheipjeoeaaGreatM19
import Derived.Test.YtblcbheipjeoeaaGreatDFacts
import Derived.WalkKit
import Derived.ProofKit
import Derived.OpenShut
import Derived.ShutString
import Derived.ChangeOld
import Derived.Below
import Derived.JoinedCond
import Derived.Deep.CondSized
namespace Go.Proofs.YtblcbheipjeoeaaGreat.dutiesDescribe
open Go.ChangeShapes Go.WideShapes Go.ChangeAt Go.RowKit
open Go.ChangeMaps (open_string shut_string)
set_option linter.unusedVariables false
theorem own:ownKnob Tryz.prog.godebug=none:=by kernel_rfl
theorem laidOut:laidOutB Tryz.prog=true:=by kernel_rfl
theorem bulkOk(H:Type):Go.Ev.BulkOk (Rows.uptoBulk (H:=H)) Rows.uptoBulkAll:=by
 refine⟨fun b=> ?_,fun l=> ?_, ?_,fun e s=> ?_,fun p=> ?_,fun d r=> ?_⟩
 ·simp only[Rows.uptoBulk];exact Nat.le_refl _
 ·cases l <;> simp only[Rows.uptoBulk] <;> omega
 ·simp only[Rows.uptoBulk];exact Nat.le_refl _
 ·simp only[Rows.uptoBulk];omega
 ·simp only[Rows.uptoBulk];omega
 ·simp only[Rows.uptoBulkAll];exact Nat.le_refl _
theorem walk(W:World)(n0:Nat)(c0:Array Value)(b0:Nat)(e0:Go.Ev.TreeB Tryz.prog W n0 26 (Value.agg c0).cells.toList b0)(n1:Nat)(c1:Array Value)(b1:Nat)(e1:Go.Ev.TreeB Tryz.prog W n1 34 (Value.agg c1).cells.toList b1)(n2:Nat)(a2:Option Addr)(mh cap2:Nat)(b2:Nat)(e2:Go.Ev.TreeB Tryz.prog W n2 41 (Value.slice a2 mh cap2).cells.toList b2)(n3:Nat)(a3:Option Addr)(yB cap3:Nat)(b3:Nat)(e3:Go.Ev.TreeB Tryz.prog W n3 59 (Value.slice a3 yB cap3).cells.toList b3)(hb:b3≤1048576):
  Calls Tryz.prog 5 #[.agg c0,.agg c1,.slice a2 mh cap2,.slice a3 yB cap3] W fun e w'=>e= .returned (.bool true)∧Below W.heap.size W w':=by
 obtain⟨t0,u0,s0,y0,_⟩:=e0
 obtain⟨t1,u1,s1,y1,_⟩:=e1
 obtain⟨t2,u2,s2,y2,_⟩:=e2
 obtain⟨t3,u3,s3,y3,z3⟩:=e3
 obtain⟨dT,lT,s,rfl,rfl,hs⟩:=UT y0 y1 y2 y3 (Nat.le_trans z3 hb)
 obtain⟨m,hm⟩:=Go.Ev.DCall_iff.1 hs
 refine(Go.Ev.pure_call aoh (Checked.mixed Tryz.checked) (f:=5) (F:=Go.Proofs.YtblcbheipjeoeaaGreat.c5) rfl rfl rfl hm W #[.agg c0,.agg c1,.slice a2 mh cap2,.slice a3 yB cap3] ?_).mono ?_
 ·simp only[Go.Ev.PList]at u2 u3
  obtain⟨v,vs,q,hv,rfl⟩:=u2
  have q': [Value.slice a2 mh cap2]= [v]:=q
  injection q' with q' _
  subst q'
  obtain⟨v,vs,q,hv3,rfl⟩:=u3
  have q': [Value.slice a3 yB cap3]= [v]:=q
  injection q' with q' _
  subst q'
  simp only[Go.Ev.PList,Go.Ev.PRel]
  exact⟨_,_,rfl,⟨_,rfl,u0,s0⟩,_,_,rfl,⟨_,rfl,u1,s1⟩,_,_,rfl,hv,_,_,rfl,hv3,rfl⟩
 ·rintro e w' ⟨cv,rfl,hb,hv⟩
  simp only[Go.Ev.PRel]at hv
  exact⟨by rw[hv],hb⟩
set_option maxRecDepth 100000 in
theorem contract(H:Type)(enc:TypeId×Value→H)(W:World)(base:Nat)(args:Array Value)(ds gs:List (DataW H))(before:List MemPlace)
  (hval0: ∀(j:Nat) t v,Tryz.f5.params[j]? =some t→args[j]? =some v→Value.okWide Tryz.prog W .any base t v)
  (hW:DataW.Whole enc Tryz.prog Tryz.f5.params.toList Rows.dutiesDescribeSpec.vars false W args.toList ds gs before) (hk:Rows.uptoSmall H (ds++gs)=true)
  (hwt:(DataW.weightsEach Tryz.prog (Tryz.f5.params.toList++Rows.dutiesDescribeSpec.plain.varTypes Tryz.prog) (ds++gs)).all (· ≤reachBytes)=true):
  Calls Tryz.prog 5 args W fun e W'=> ∃v,e= .returned v∧Rows.dutiesDescribeSpec.post enc Tryz.prog Tryz.f5 false true false false W args v W':=by
 have hval: ∀(j:Nat) t v,Tryz.f5.params[j]? =some t→args[j]? =some v→Value.okWide Tryz.prog W .any base t v:=hval0
 have hW':=hW
 obtain⟨p,q,hA0,hV,rfl,hfz,hnd⟩:=hW
 have hA:DataW.TrodAll enc Tryz.prog W 0 (fun _=>true) true Tryz.f5.params.toList args.toList ds p:=hA0
 rw[Tryz.params5]at hA hval
 obtain⟨v0,vs0,d0,ds0,p0,q0,hargs,rfl,rfl,h0,r0⟩:=trodAll_cons hA
 obtain⟨v1,vs1,d1,ds1,p1,q1,rfl,rfl,rfl,h1,r1⟩:=trodAll_cons r0
 obtain⟨v2,vs2,d2,ds2,p2,q2,rfl,rfl,rfl,h2,r2⟩:=trodAll_cons r1
 obtain⟨v3,vs3,d3,ds3,p3,q3,rfl,rfl,rfl,h3,r3⟩:=trodAll_cons r2
 obtain⟨rfl,rfl,rfl⟩:=trodAll_nil r3
 obtain rfl:args= #[v0,v1,v2,v3]:=by cases args;simp_all
 obtain⟨rfl,rfl⟩:=trodVars_none hV
 have hb:Rows.uptoBulkAll ([d0,d1,d2,d3]++ [])≤1048576:=of_decide_eq_true hk
 simp only[List.append_nil,Rows.uptoBulkAll]at hb
 have k0:=h0
 have lt0: ∀x∈p0,x.block<W.heap.size:=by obtain⟨m,hm⟩:=k0;exact DataW.trod_lt m _ _ _ hm
 have z0: ∀x∈d0.weights Tryz.prog 26,x≤reachBytes:=fun x hx=>by
  have:=List.all_eq_true.1 hwt x (DataW.weights_mem_each (j:=0) (t:=26) (d:=d0) (by rw[Tryz.params5];rfl) rfl x hx)
  simpa using this
 obtain⟨n0,hn0⟩:=h0
 obtain⟨c0,rfl,_⟩:=okWide_struct Tryz.underlying26 (hval 0 26 v0 rfl rfl)
 have e0:=Go.Ev.trees_ofB (bulkOk H) (fun t ht=>List.all_eq_true.1 HF t ht) n0 26 _ _ _ (by decide) hn0 z0
 have k1:=h1
 have lt1: ∀x∈p1,x.block<W.heap.size:=by obtain⟨m,hm⟩:=k1;exact DataW.trod_lt m _ _ _ hm
 have z1: ∀x∈d1.weights Tryz.prog 34,x≤reachBytes:=fun x hx=>by
  have:=List.all_eq_true.1 hwt x (DataW.weights_mem_each (j:=1) (t:=34) (d:=d1) (by rw[Tryz.params5];rfl) rfl x hx)
  simpa using this
 obtain⟨n1,hn1⟩:=h1
 obtain⟨c1,rfl,_⟩:=okWide_struct Tryz.underlying34 (hval 1 34 v1 rfl rfl)
 have e1:=Go.Ev.trees_ofB (bulkOk H) (fun t ht=>List.all_eq_true.1 HF t ht) n1 34 _ _ _ (by decide) hn1 z1
 have k2:=h2
 have lt2: ∀x∈p2,x.block<W.heap.size:=by obtain⟨m,hm⟩:=k2;exact DataW.trod_lt m _ _ _ hm
 have z2: ∀x∈d2.weights Tryz.prog 41,x≤reachBytes:=fun x hx=>by
  have:=List.all_eq_true.1 hwt x (DataW.weights_mem_each (j:=2) (t:=41) (d:=d2) (by rw[Tryz.params5];rfl) rfl x hx)
  simpa using this
 obtain⟨n2,hn2⟩:=h2
 obtain⟨a2,mh,cap2,rfl⟩:=okWide_slice Tryz.underlying41 (hval 2 41 v2 rfl rfl)
 have e2:=Go.Ev.trees_ofB (bulkOk H) (fun t ht=>List.all_eq_true.1 HF t ht) n2 41 _ _ _ (by decide) hn2 z2
 have k3:=h3
 have lt3: ∀x∈p3,x.block<W.heap.size:=by obtain⟨m,hm⟩:=k3;exact DataW.trod_lt m _ _ _ hm
 have z3: ∀x∈d3.weights Tryz.prog 59,x≤reachBytes:=fun x hx=>by
  have:=List.all_eq_true.1 hwt x (DataW.weights_mem_each (j:=3) (t:=59) (d:=d3) (by rw[Tryz.params5];rfl) rfl x hx)
  simpa using this
 obtain⟨n3,hn3⟩:=h3
 obtain⟨a3,yB,cap3,rfl⟩:=okWide_slice Tryz.underlying59 (hval 3 59 v3 rfl rfl)
 have e3:=Go.Ev.trees_ofB (bulkOk H) (fun t ht=>List.all_eq_true.1 HF t ht) n3 59 _ _ _ (by decide) hn3 z3
 clear hA0 hval0
 refine(walk W n0 c0 _ e0 n1 c1 _ e1 n2 a2 mh cap2 _ e2 n3 a3 yB cap3 _ e3 (by omega)).mono fun e W' ⟨he,bel⟩=> ?_
 subst he
 exact⟨_,rfl,_,_,_,[],_,[],hW',trodAll_mk1 (shut_bool Tryz.underlying4 _),(trodAll_cons_mk (Below.trod laidOut (by kernel_rfl) (of_decide_eq_true (by kernel_rfl)) k0 bel lt0) (trodAll_cons_mk (Below.trod laidOut (by kernel_rfl) (of_decide_eq_true (by kernel_rfl)) k1 bel lt1) (trodAll_cons_mk (Below.trod laidOut (by kernel_rfl) (of_decide_eq_true (by kernel_rfl)) k2 bel lt2) (trodAll_cons_mk (Below.trod laidOut (by kernel_rfl) (of_decide_eq_true (by kernel_rfl)) k3 bel lt3) trodAll_mk0)))),rfl,bel.frame _,fun h=>by cases h⟩
set_option maxRecDepth 100000 in
theorem lifted(os:Os)(started:os.Started)(H:Type)(enc:TypeId×Value→H)(F:Stop.Interp):
  ReturnsInHanded {} Tryz.checked os 5 .any ((Rows.OpenSpec.upto Rows.dutiesDescribeSpec).pre6 enc Tryz.prog Tryz.f5 Rows.dutiesDescribeUptoRow.domain false) (((Rows.OpenSpec.upto Rows.dutiesDescribeSpec).at F).post enc Tryz.prog Tryz.f5 false true false false):=by
 refine returnsInHanded_of_cond_sized (C:=Tryz.checked) (s:=Rows.OpenSpec.upto Rows.dutiesDescribeSpec) (k:=Rows.uptoSmall) rfl own started (by kernel_rfl) Tryz.func5
  (OpenSpec.witness (enc:=enc) (C:=Tryz.checked) (s:=Rows.OpenSpec.upto Rows.dutiesDescribeSpec) (k:=Rows.uptoSmall) rfl false ⟨#[], #[.agg #[.slice none 0 0,.slice none 0 0,.slice none 0 0],.agg #[.int .i64 0,.int .i64 0,.int .i64 0,.int .i64 0,.int .i64 0,.int .i64 0,.int .i64 0,.slice none 0 0,.slice none 0 0,.slice none 0 0,.slice none 0 0,.slice none 0 0,.slice none 0 0,.int .i64 0],.slice none 0 0,.slice none 0 0],[]⟩ 8 (by kernel_rfl) (by kernel_rfl) (by kernel_rfl)
    (x:=([.agg [.nil,.nil,.nil],.agg [.lit (.int .i64 0),.lit (.int .i64 0),.lit (.int .i64 0),.lit (.int .i64 0),.lit (.int .i64 0),.lit (.int .i64 0),.lit (.int .i64 0),.nil,.nil,.nil,.nil,.nil,.nil,.lit (.int .i64 0)],.nil,.nil],[],[])) (by kernel_rfl) rfl (by kernel_rfl)) ?_
 intro W base args ds gs before hval hW _ hk hwt _
 exact contract H enc W base args ds gs before hval hW hk hwt
theorem proved:Rows.DutiesDescribeUptoSaid:=
 OpenClaim.holds_of_cond 5 Tryz.f5 rfl rfl rfl rfl rfl rfl rfl ⟨rfl,rfl,rfl,rfl,rfl⟩ rfl rfl rfl rfl rfl named Tryz.func5 facts
  (of_decide_eq_true (by kernel_rfl)) (by unfold Func.isWrapper;first|(rw[if_pos (by decide+kernel)];kernel_rfl)|(rw[if_neg (by decide+kernel)];exact⟨rfl,rfl⟩))
  (fun os started H enc _ F=>lifted os started H enc F)
end Go.Proofs.YtblcbheipjeoeaaGreat.dutiesDescribe
namespace Go.Proofs.YtblcbheipjeoeaaGreat
theorem dutiesDescribeUpto_holds:Rows.DutiesDescribeUptoSaid:=dutiesDescribe.proved
end Go.Proofs.YtblcbheipjeoeaaGreat
