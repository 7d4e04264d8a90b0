/- FoldExact returns true at every input of bulk at most 1048576, and leaves it as it was. Conditions: none. -/
import Derived.Test.YtfenhjpkomldcaaGreatRows
import Derived.Test.YtfenhjpkomldcaaGreatM23
import Derived.Test.YtfenhjpkomldcaaGreatXFacts
import Derived.WalkKit
import Derived.ProofKit
import Derived.OpenShut
import Derived.ShutString
import Derived.ChangeOld
import Derived.Below
import Derived.JoinedCond
import Derived.Deep.CondSized
namespace Go.Proofs.YtfenhjpkomldcaaGreat.foldExact
open Go.ChangeShapes Go.WideShapes Go.ChangeAt Go.RowKit
open Go.ChangeMaps (open_string shut_string)
set_option linter.unusedVariables false
theorem own:ownKnob Tryz.prog.godebug=none:=by kernel_rfl
theorem laidOut:laidOutB Tryz.prog=true:=by kernel_rfl
theorem bulkOk(H:Type):Go.Ev.BulkOk (Rows.uptoBulk (H:=H)) Rows.uptoBulkAll:=by
 refine⟨fun b=> ?_,fun l=> ?_, ?_,fun e s=> ?_,fun p=> ?_,fun d r=> ?_⟩
 ·simp only[Rows.uptoBulk];exact Nat.le_refl _
 ·cases l <;> simp only[Rows.uptoBulk] <;> omega
 ·simp only[Rows.uptoBulk];exact Nat.le_refl _
 ·simp only[Rows.uptoBulk];omega
 ·simp only[Rows.uptoBulk];omega
 ·simp only[Rows.uptoBulkAll];exact Nat.le_refl _
theorem walk(W:World)(n m:Nat)(a0:Option Addr)(len0 cap0:Nat)(a1:Int)(c2:Array Value)(b0 b2:Nat)(h0:Go.Ev.TreeB Tryz.prog W n 30 (Value.slice a0 len0 cap0).cells.toList b0)(h2:Go.Ev.TreeB Tryz.prog W m 25 (Value.agg c2).cells.toList b2)(w0:b0≤1048576)(w2:b2≤1048576):
  Calls Tryz.prog 13 #[.slice a0 len0 cap0,.int .i64 a1,.agg c2] W fun e w'=>e= .returned (.bool true)∧Below W.heap.size W w':=by
 obtain⟨t0,p0,s0,i0,u0⟩:=h0
 obtain⟨t2,p2,s2,i2,u2⟩:=h2
 obtain⟨lT,s,rfl,hs⟩:=QL i0 (Nat.le_trans u0 w0) a1 i2 (Nat.le_trans u2 w2)
 obtain⟨k,hk⟩:=Go.Ev.DCall_iff.1 hs
 have p0':Go.Ev.PList W Go.Ev.M0 [lT] [.slice a0 len0 cap0]:=p0
 simp only[Go.Ev.PList]at p0'
 obtain⟨v,vs,e0,r0,rfl⟩:=p0'
 injection e0 with e0 _
 subst e0
 refine(Go.Ev.pure_call RI (Checked.mixed Tryz.checked) (f:=13) (af:=Q1) rfl rfl rfl hk W #[.slice a0 len0 cap0,.int .i64 a1,.agg c2] ?_).mono ?_
 ·simp only[Go.Ev.PList]
  exact⟨_,_,rfl,r0,_,_,rfl,by simp only[Go.Ev.PRel],_,_,rfl,by simp only[Go.Ev.PRel];exact⟨_,rfl,p2,s2⟩,rfl⟩
 ·rintro e w' ⟨cv,rfl,hb,hv⟩
  simp only[Go.Ev.PRel]at hv
  exact⟨by rw[hv],hb⟩
set_option maxRecDepth 100000 in
theorem contract(H:Type)(enc:TypeId×Value→H)(W:World)(base:Nat)(args:Array Value)(ds gs:List (DataW H))(before:List MemPlace)
  (hval: ∀(j:Nat) t v,Tryz.f13.params[j]? =some t→args[j]? =some v→Value.okWide Tryz.prog W .any base t v)
  (hW:DataW.Whole enc Tryz.prog Tryz.f13.params.toList Rows.foldExactSpec.vars false W args.toList ds gs before) (hk:Rows.uptoSmall H (ds++gs)=true)
  (hwt:(DataW.weightsEach Tryz.prog (Tryz.f13.params.toList++Rows.foldExactSpec.plain.varTypes Tryz.prog) (ds++gs)).all (· ≤reachBytes)=true):
  Calls Tryz.prog 13 args W fun e W'=> ∃v,e= .returned v∧Rows.foldExactSpec.post enc Tryz.prog Tryz.f13 false true false false W args v W':=by
 have hW':=hW
 obtain⟨p,q,hA0,hV,rfl,hfz,hnd⟩:=hW
 have hA:DataW.TrodAll enc Tryz.prog W 0 (fun _=>true) true Tryz.f13.params.toList args.toList ds p:=hA0
 rw[Tryz.params13]at hA hval
 obtain⟨v0,vs0,d0,ds0,p0,q0,hargs,rfl,rfl,h0,r0⟩:=trodAll_cons hA
 obtain⟨v1,vs1,d1,ds1,p1,q1,rfl,rfl,rfl,h1,r1⟩:=trodAll_cons r0
 obtain⟨v2,vs2,d2,ds2,p2,q2,rfl,rfl,rfl,h2,r2⟩:=trodAll_cons r1
 obtain⟨rfl,rfl,rfl⟩:=trodAll_nil r2
 obtain rfl:args= #[v0,v1,v2]:=by cases args;simp_all
 obtain⟨rfl,rfl⟩:=trodVars_none hV
 have hb:Rows.uptoBulkAll ([d0,d1,d2]++ [])≤1048576:=of_decide_eq_true hk
 simp only[List.append_nil,Rows.uptoBulkAll]at hb
 have k0:=h0
 have lt0: ∀x∈p0,x.block<W.heap.size:=by obtain⟨m,hm⟩:=k0;exact DataW.trod_lt m _ _ _ hm
 have z0: ∀x∈d0.weights Tryz.prog 30,x≤reachBytes:=fun x hx=>by
  have:=List.all_eq_true.1 hwt x (DataW.weights_mem_each (j:=0) (t:=30) (d:=d0) (by rw[Tryz.params13];rfl) rfl x hx)
  simpa using this
 obtain⟨n0,hn0⟩:=h0
 obtain⟨a0,len0,cap0,rfl⟩:=okWide_slice Tryz.underlying30 (hval 0 30 v0 rfl rfl)
 have e0:=Go.Ev.trees_ofB (bulkOk H) (fun t ht=>List.all_eq_true.1 HW t ht) n0 30 _ _ _ (by decide) hn0 z0
 obtain⟨a1,rfl,rfl,rfl,w1⟩:=open_int Tryz.underlying3 (hval 1 3 v1 rfl rfl) h1
 have k2:=h2
 have lt2: ∀x∈p2,x.block<W.heap.size:=by obtain⟨m,hm⟩:=k2;exact DataW.trod_lt m _ _ _ hm
 have z2: ∀x∈d2.weights Tryz.prog 25,x≤reachBytes:=fun x hx=>by
  have:=List.all_eq_true.1 hwt x (DataW.weights_mem_each (j:=2) (t:=25) (d:=d2) (by rw[Tryz.params13];rfl) rfl x hx)
  simpa using this
 obtain⟨n2,hn2⟩:=h2
 obtain⟨c2,rfl,_⟩:=okWide_struct Tryz.underlying25 (hval 2 25 v2 rfl rfl)
 have e2:=Go.Ev.trees_ofB (bulkOk H) (fun t ht=>List.all_eq_true.1 HW t ht) n2 25 _ _ _ (by decide) hn2 z2
 clear hA0
 refine(walk W n0 n2 a0 len0 cap0 a1 c2 _ _ e0 e2 (by omega) (by omega)).mono fun e W' ⟨he,bel⟩=> ?_
 subst he
 exact⟨_,rfl,_,_,_,[],_,[],hW',trodAll_mk1 (shut_bool Tryz.underlying4 _),(trodAll_cons_mk (Below.trod laidOut (by kernel_rfl) (of_decide_eq_true (by kernel_rfl)) k0 bel lt0) (trodAll_cons_mk (shut_int Tryz.underlying3 w1) (trodAll_cons_mk (Below.trod laidOut (by kernel_rfl) (of_decide_eq_true (by kernel_rfl)) k2 bel lt2) trodAll_mk0))),rfl,bel.frame _,fun h=>by cases h⟩
set_option maxRecDepth 100000 in
theorem lifted(os:Os)(started:os.Started)(H:Type)(enc:TypeId×Value→H)(F:Stop.Interp):
  ReturnsInHanded {} Tryz.checked os 13 .any ((Rows.OpenSpec.upto Rows.foldExactSpec).pre6 enc Tryz.prog Tryz.f13 Rows.foldExactUptoRow.domain false) (((Rows.OpenSpec.upto Rows.foldExactSpec).at F).post enc Tryz.prog Tryz.f13 false true false false):=by
 refine returnsInHanded_of_cond_sized (C:=Tryz.checked) (s:=Rows.OpenSpec.upto Rows.foldExactSpec) (k:=Rows.uptoSmall) rfl own started (by kernel_rfl) Tryz.func13
  (OpenSpec.witness (enc:=enc) (C:=Tryz.checked) (s:=Rows.OpenSpec.upto Rows.foldExactSpec) (k:=Rows.uptoSmall) rfl false ⟨#[], #[.slice none 0 0,.int .i64 0,.agg #[.int .i64 0,.int .i64 0,.string .empty,.slice none 0 0]],[]⟩ 8 (by kernel_rfl) (by kernel_rfl) (by kernel_rfl)
    (x:=([.nil,.lit (.int .i64 0),.agg [.lit (.int .i64 0),.lit (.int .i64 0),.lit (.string []),.nil]],[],[])) (by kernel_rfl) rfl (by kernel_rfl)) ?_
 intro W base args ds gs before hval hW _ hk hwt _
 exact contract H enc W base args ds gs before hval hW hk hwt
theorem proved:Rows.FoldExactUptoSaid:=
 OpenClaim.holds_of_cond 13 Tryz.f13 rfl rfl rfl rfl rfl rfl rfl ⟨rfl,rfl,rfl,rfl,rfl⟩ rfl rfl rfl rfl rfl named Tryz.func13 facts
  (of_decide_eq_true (by kernel_rfl)) (by unfold Func.isWrapper;first|(rw[if_pos (by decide+kernel)];kernel_rfl)|(rw[if_neg (by decide+kernel)];exact⟨rfl,rfl⟩))
  (fun os started H enc _ F=>lifted os started H enc F)
end Go.Proofs.YtfenhjpkomldcaaGreat.foldExact
namespace Go.Proofs.YtfenhjpkomldcaaGreat
theorem foldExactUpto_holds:Rows.FoldExactUptoSaid:=foldExact.proved
end Go.Proofs.YtfenhjpkomldcaaGreat
