/- The closed facts of the row of TotalsMost, one by one. Conditions: none. -/
import Derived.Test.YtfenhjpkomldcaaGreatRows
import Derived.JoinedOf
import Derived.KernelRfl
set_option maxRecDepth 100000
namespace Go.Proofs.YtfenhjpkomldcaaGreat.totalsMost
set_option maxHeartbeats 0 in
theorem facts : joinedFacts Tryz.prog 8 Tryz.f8 Rows.totalsMostSpec Rows.totalsMostRow = true := by
  unfold joinedFacts
  simp only [Bool.and_eq_true]
  and_intros
  all_goals as_aux_lemma => kernel_rfl
theorem named : Tryz.prog.funcNamed Rows.totalsMostRow.func = some 8 := by kernel_rfl
end Go.Proofs.YtfenhjpkomldcaaGreat.totalsMost
