/- The closed facts of the row of FoldContracts, one by one. Conditions: none. -/
import Derived.Test.YtfenhjpkomldcaaGreatRows
import Derived.JoinedOf
import Derived.KernelRfl
set_option maxRecDepth 100000
namespace Go.Proofs.YtfenhjpkomldcaaGreat.foldContracts
set_option maxHeartbeats 0 in
theorem facts:joinedFacts Tryz.prog 5 Tryz.f5 Rows.foldContractsSpec Rows.foldContractsRow=true:=by
 unfold joinedFacts
 simp only[Bool.and_eq_true]
 and_intros
 all_goals as_aux_lemma=>kernel_rfl
theorem named:Tryz.prog.funcNamed Rows.foldContractsRow.func=some 5:=by kernel_rfl
end Go.Proofs.YtfenhjpkomldcaaGreat.foldContracts
