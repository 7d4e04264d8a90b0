/- The closed facts of the row of FoldMeaning, one by one. Conditions: none. -/
import Derived.Test.YtfenhjpkomldcaaGreatRows
import Derived.JoinedOf
import Derived.KernelRfl
set_option maxRecDepth 100000
namespace Go.Proofs.YtfenhjpkomldcaaGreat.foldMeaning
set_option maxHeartbeats 0 in
theorem facts:joinedFacts Tryz.prog 14 Tryz.f14 Rows.foldMeaningSpec Rows.foldMeaningRow=true:=by
 unfold joinedFacts
 simp only[Bool.and_eq_true]
 and_intros
 all_goals as_aux_lemma=>kernel_rfl
theorem named:Tryz.prog.funcNamed Rows.foldMeaningRow.func=some 14:=by kernel_rfl
end Go.Proofs.YtfenhjpkomldcaaGreat.foldMeaning
