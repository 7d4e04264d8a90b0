/- The closed facts of the row of DutiesCases, one by one. Conditions: none. -/
import Derived.Test.YtcpceiclnbmgiaaGreatRows
import Derived.JoinedOf
import Derived.KernelRfl
set_option maxRecDepth 100000
namespace Go.Proofs.YtcpceiclnbmgiaaGreat.dutiesCases
set_option maxHeartbeats 0 in
theorem facts:joinedFacts Tryz.prog 4 Tryz.f4 Rows.dutiesCasesSpec Rows.dutiesCasesRow=true:=by
 unfold joinedFacts
 simp only[Bool.and_eq_true]
 and_intros
 all_goals as_aux_lemma=>kernel_rfl
theorem named:Tryz.prog.funcNamed Rows.dutiesCasesRow.func=some 4:=by kernel_rfl
end Go.Proofs.YtcpceiclnbmgiaaGreat.dutiesCases
