/- The closed facts of the row of AutomatonOrder, one by one. Conditions: none. -/
import Derived.Test.YtnkgnjecmfkcfaaGreatRows
import Derived.JoinedOf
import Derived.KernelRfl
set_option maxRecDepth 100000
namespace Go.Proofs.YtnkgnjecmfkcfaaGreat.automatonOrder
set_option maxHeartbeats 0 in
theorem facts:joinedFacts Tryz.prog 4 Tryz.f4 Rows.automatonOrderSpec Rows.automatonOrderRow=true:=by
 unfold joinedFacts
 simp only[Bool.and_eq_true]
 and_intros
 all_goals as_aux_lemma=>kernel_rfl
theorem named:Tryz.prog.funcNamed Rows.automatonOrderRow.func=some 4:=by kernel_rfl
end Go.Proofs.YtnkgnjecmfkcfaaGreat.automatonOrder
