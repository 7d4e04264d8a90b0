/- The closed facts of the row of DutiesDescribe's second form, one by one. Conditions: none. -/
import Derived.Test.YtblcbheipjeoeaaGreatRows
import Derived.JoinedOf
import Derived.KernelRfl
set_option maxRecDepth 100000
namespace Go.Proofs.YtblcbheipjeoeaaGreat.dutiesDescribe
set_option maxHeartbeats 0 in
theorem facts:joinedFacts Tryz.prog 5 Tryz.f5 (Rows.OpenSpec.upto Rows.dutiesDescribeSpec).bare Rows.dutiesDescribeUptoRow=true:=by
 unfold joinedFacts
 simp only[Bool.and_eq_true]
 and_intros
 all_goals as_aux_lemma=>kernel_rfl
theorem named:Tryz.prog.funcNamed Rows.dutiesDescribeUptoRow.func=some 5:=by kernel_rfl
end Go.Proofs.YtblcbheipjeoeaaGreat.dutiesDescribe
