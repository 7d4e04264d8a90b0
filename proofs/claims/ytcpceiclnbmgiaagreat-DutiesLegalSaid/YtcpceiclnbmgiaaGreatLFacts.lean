/- The closed facts of the row of DutiesLegal, one by one. Conditions: none. -/
import Derived.Test.YtcpceiclnbmgiaaGreatRows
import Derived.JoinedOf
import Derived.KernelRfl
set_option maxRecDepth 100000
namespace Go.Proofs.YtcpceiclnbmgiaaGreat.dutiesLegal
set_option maxHeartbeats 0 in
theorem facts:joinedFacts Tryz.prog 6 Tryz.f6 Rows.dutiesLegalSpec Rows.dutiesLegalRow=true:=by
 unfold joinedFacts
 simp only[Bool.and_eq_true]
 and_intros
 all_goals as_aux_lemma=>kernel_rfl
theorem named:Tryz.prog.funcNamed Rows.dutiesLegalRow.func=some 6:=by kernel_rfl
end Go.Proofs.YtcpceiclnbmgiaaGreat.dutiesLegal
