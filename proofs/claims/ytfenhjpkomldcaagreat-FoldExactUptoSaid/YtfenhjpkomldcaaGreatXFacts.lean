/- The closed facts of the row of FoldExact's second form, one by one. Conditions: none. -/
import Derived.Test.YtfenhjpkomldcaaGreatRows
import Derived.JoinedOf
import Derived.KernelRfl
set_option maxRecDepth 100000
namespace Go.Proofs.YtfenhjpkomldcaaGreat.foldExact
set_option maxHeartbeats 0 in
theorem facts : joinedFacts Tryz.prog 13 Tryz.f13 (Rows.OpenSpec.upto Rows.foldExactSpec).bare Rows.foldExactUptoRow = true := by
  unfold joinedFacts
  simp only [Bool.and_eq_true]
  and_intros
  all_goals as_aux_lemma => kernel_rfl
theorem named : Tryz.prog.funcNamed Rows.foldExactUptoRow.func = some 13 := by kernel_rfl
end Go.Proofs.YtfenhjpkomldcaaGreat.foldExact
