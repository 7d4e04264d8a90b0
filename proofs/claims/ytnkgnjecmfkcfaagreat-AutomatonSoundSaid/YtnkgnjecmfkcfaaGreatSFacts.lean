/- The closed facts of the row of AutomatonSound, one by one. Conditions: none. -/
import Derived.Test.YtnkgnjecmfkcfaaGreatRows
import Derived.JoinedOf
set_option maxRecDepth 100000
namespace Go.Proofs.YtnkgnjecmfkcfaaGreat.automatonSound
set_option maxHeartbeats 0 in
theorem facts:joinedFacts Tryz.prog 6 Tryz.f6 Rows.automatonSoundSpec Rows.automatonSoundRow=true:=by
 unfold joinedFacts
 simp only[Bool.and_eq_true]
 and_intros
 all_goals as_aux_lemma=>kernel_rfl
theorem named:Tryz.prog.funcNamed Rows.automatonSoundRow.func=some 6:=by kernel_rfl
end Go.Proofs.YtnkgnjecmfkcfaaGreat.automatonSound
