/- FoldContracts returns true at every input, and leaves it as it was. Conditions: none. -/
import Derived.Test.YtfenhjpkomldcaaGreatRows
import Derived.Test.YtfenhjpkomldcaaGreatM22
import Derived.Test.YtfenhjpkomldcaaGreatCFacts
import Derived.WalkKit
import Derived.ProofKit
import Derived.OpenShut
import Derived.ShutString
import Derived.ChangeOld
import Derived.Below
import Derived.HandedShaped
namespace Go.Proofs.YtfenhjpkomldcaaGreat.foldContracts
open Go.ChangeShapes Go.WideShapes Go.ChangeAt Go.RowKit
open Go.ChangeMaps (open_string shut_string)
set_option linter.unusedVariables false
theorem own:ownKnob Tryz.prog.godebug=none:=by kernel_rfl
theorem laidOut:laidOutB Tryz.prog=true:=by kernel_rfl
theorem walk(W:World)(n:Nat)(cs:Array Value)(h:Go.Ev.Tree Tryz.prog W n 43 (Value.agg cs).cells.toList):Calls Tryz.prog 5 #[.agg cs] W fun e w'=>e= .returned (.bool true)∧Below W.heap.size W w':=by
 obtain⟨ts,h1,h2,h3⟩:=h
 obtain⟨c,a7,a8,a9,a10,bf,ba,rfl,hT,hA,hN⟩:=Vk h3
 obtain⟨s,hs⟩:=Vl c a7 a8 a9 a10 bf ba hT hA hN
 obtain⟨m,hm⟩:=Go.Ev.DCall_iff.1 hs
 refine(Go.Ev.pure_call Vm (Checked.mixed Tryz.checked) (f:=5) (af:=c5) rfl rfl rfl hm W #[.agg cs] ?_).mono ?_
 ·simp only[Go.Ev.PList,Go.Ev.PRel]
  exact⟨_,_,rfl,⟨_,rfl,h1,h2⟩,rfl⟩
 ·rintro e w' ⟨cv,rfl,hb,hv⟩
  simp only[Go.Ev.PRel]at hv
  exact⟨by rw[hv],hb⟩
set_option maxRecDepth 100000 in
theorem lifted(os:Os)(started:os.Started)(H:Type)(enc:TypeId×Value→H):
  ReturnsInHanded {} Tryz.checked os 5 .any (Rows.foldContractsSpec.pre6 enc Tryz.prog Tryz.f5 Rows.foldContractsRow.domain false) (Rows.foldContractsSpec.post enc Tryz.prog Tryz.f5 false true false false):=by
 refine returnsInHanded_of_change_shaped (C:=Tryz.checked) own started (by kernel_rfl) Tryz.func5
  (ChangeSpec.witness6 (enc:=enc) (C:=Tryz.checked) false ⟨#[], #[.agg #[.int .i64 0,.int .i64 0,.int .i64 0,.int .i64 0,.int .i64 0,.int .i64 0,.int .i64 0,.slice none 0 0,.slice none 0 0,.slice none 0 0,.slice none 0 0,.slice none 0 0,.slice none 0 0,.int .i64 0]],[]⟩ 8 (by kernel_rfl) (by kernel_rfl) (by kernel_rfl) (by kernel_rfl)) ?_
 intro W base args ds gs before PF hW agc hwt _ _
 have dD: ∀(j:Nat) t v,Tryz.f5.params[j]? =some t→args[j]? =some v→Value.okWide Tryz.prog W .any base t v:=PF
 have hW':=hW
 obtain⟨p,q,rq,hV,rfl,pU,nO⟩:=hW
 have hA:DataW.TrodAll enc Tryz.prog W 0 (fun _=>true) true Tryz.f5.params.toList args.toList ds p:=rq
 rw[Tryz.params5]at hA dD
 obtain⟨v0,Vn,d0,ds0,p0,q0,ew,rfl,rfl,h0,r0⟩:=trodAll_cons hA
 obtain⟨rfl,rfl,rfl⟩:=trodAll_nil r0
 obtain rfl:args= #[v0]:=by cases args;simp_all
 obtain⟨rfl,rfl⟩:=trodVars_none hV
 have k0:=h0
 have lt0: ∀x∈p0,x.block<W.heap.size:=by obtain⟨m,hm⟩:=k0;exact DataW.trod_lt m _ _ _ hm
 have z0: ∀x∈d0.weights Tryz.prog 43,x≤reachBytes:=fun x hx=>by
  have:=List.all_eq_true.1 hwt x (DataW.weights_mem_each (j:=0) (t:=43) (d:=d0) (by rw[Tryz.params5];rfl) rfl x hx)
  simpa using this
 obtain⟨n0,Vo⟩:=h0
 obtain⟨c0,rfl,_⟩:=okWide_struct Tryz.underlying43 (dD 0 43 v0 rfl rfl)
 have e0:=Go.Ev.trees_of (fun t ht=>List.all_eq_true.1 RV t ht) n0 43 _ _ _ (by decide) Vo z0
 clear rq PF
 refine(walk W n0 c0 e0).mono fun e W' ⟨he,bel⟩=> ?_
 subst he
 exact⟨_,rfl,_,_,_,[],_,[],hW',trodAll_mk1 (shut_bool Tryz.underlying4 _),(trodAll_cons_mk (Below.trod laidOut (by kernel_rfl) (of_decide_eq_true (by kernel_rfl)) k0 bel lt0) trodAll_mk0),rfl,bel.frame _,fun h=>by cases h⟩
theorem aal:Rows.foldContractsRow.holds Tryz.pinned (OpenSpec.ofChange Rows.foldContractsSpec):=
 OpenClaim.holds_of_wide 5 Tryz.f5 rfl rfl rfl rfl rfl rfl rfl ⟨rfl,rfl,rfl,rfl,rfl⟩ rfl rfl rfl rfl rfl named Tryz.func5 facts
  (of_decide_eq_true (by kernel_rfl)) (by unfold Func.isWrapper;first|(rw[if_pos (by decide+kernel)];kernel_rfl)|(rw[if_neg (by decide+kernel)];exact⟨rfl,rfl⟩))
  (fun os started H enc _=>lifted os started H enc)
theorem proved:Rows.FoldContractsSaid:=aal
end Go.Proofs.YtfenhjpkomldcaaGreat.foldContracts
namespace Go.Proofs.YtfenhjpkomldcaaGreat
theorem foldContracts_holds:Rows.FoldContractsSaid:=foldContracts.proved
end Go.Proofs.YtfenhjpkomldcaaGreat
