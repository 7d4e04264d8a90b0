/- The closed facts of the row of TotalsGrow, one by one. Conditions: none. -/
import Derived.Test.YtfenhjpkomldcaaGreatRows
import Derived.JoinedOf
import Derived.KernelRfl
set_option maxRecDepth 100000
namespace Go.Proofs.YtfenhjpkomldcaaGreat.totalsGrow
set_option maxHeartbeats 0 in
theorem facts : joinedFacts Tryz.prog 11 Tryz.f11 Rows.totalsGrowSpec Rows.totalsGrowRow = true := by
  unfold joinedFacts
  simp only [Bool.and_eq_true]
  and_intros
  all_goals as_aux_lemma => kernel_rfl
theorem named : Tryz.prog.funcNamed Rows.totalsGrowRow.func = some 11 := by kernel_rfl
end Go.Proofs.YtfenhjpkomldcaaGreat.totalsGrow
