/- The closed facts of the row of DutiesComplete, one by one. Conditions: none. -/
import Derived.Test.YtcpceiclnbmgiaaGreatRows
import Derived.JoinedOf
import Derived.KernelRfl
set_option maxRecDepth 100000
namespace Go.Proofs.YtcpceiclnbmgiaaGreat.dutiesComplete
set_option maxHeartbeats 0 in
theorem facts:joinedFacts Tryz.prog 5 Tryz.f5 Rows.dutiesCompleteSpec Rows.dutiesCompleteRow=true:=by
 unfold joinedFacts
 simp only[Bool.and_eq_true]
 and_intros
 all_goals as_aux_lemma=>kernel_rfl
theorem named:Tryz.prog.funcNamed Rows.dutiesCompleteRow.func=some 5:=by kernel_rfl
end Go.Proofs.YtcpceiclnbmgiaaGreat.dutiesComplete
