/- The closed facts of the row of TotalsDaysOff, one by one. Conditions: none. -/
import Derived.Test.YtfenhjpkomldcaaGreatRows
import Derived.JoinedOf
import Derived.KernelRfl
set_option maxRecDepth 100000
namespace Go.Proofs.YtfenhjpkomldcaaGreat.totalsDaysOff
set_option maxHeartbeats 0 in
theorem facts : joinedFacts Tryz.prog 10 Tryz.f10 Rows.totalsDaysOffSpec Rows.totalsDaysOffRow = true := by
  unfold joinedFacts
  simp only [Bool.and_eq_true]
  and_intros
  all_goals as_aux_lemma => kernel_rfl
theorem named : Tryz.prog.funcNamed Rows.totalsDaysOffRow.func = some 10 := by kernel_rfl
end Go.Proofs.YtfenhjpkomldcaaGreat.totalsDaysOff
