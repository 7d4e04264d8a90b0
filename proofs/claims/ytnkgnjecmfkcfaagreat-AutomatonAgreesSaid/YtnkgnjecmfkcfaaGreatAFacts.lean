/- The closed facts of the row of AutomatonAgrees, one by one. Conditions: none. -/
import Derived.Test.YtnkgnjecmfkcfaaGreatRows
import Derived.JoinedOf
import Derived.KernelRfl
set_option maxRecDepth 100000
namespace Go.Proofs.YtnkgnjecmfkcfaaGreat.automatonAgrees
set_option maxHeartbeats 0 in
theorem facts:joinedFacts Tryz.prog 3 Tryz.f3 Rows.automatonAgreesSpec Rows.automatonAgreesRow=true:=by
 unfold joinedFacts
 simp only[Bool.and_eq_true]
 and_intros
 all_goals as_aux_lemma=>kernel_rfl
theorem named:Tryz.prog.funcNamed Rows.automatonAgreesRow.func=some 3:=by kernel_rfl
end Go.Proofs.YtnkgnjecmfkcfaaGreat.automatonAgrees
