/- Walks of functions of the program and of the reference, and their plain laws, part 29. Conditions: the theorems' own. -/
import Derived.Test.YtnkgnjecmfkcfaaGreatGS
import Derived.Test.YtnkgnjecmfkcfaaGreatM28
import Derived.KernelRfl
set_option maxRecDepth 1000000
set_option linter.unusedVariables false
set_option maxHeartbeats 16000000
namespace Go.Proofs.YtnkgnjecmfkcfaaGreat
open Go Go.Ev
theorem axK: ∃r D F H I J K,ae pE 72 [.nilsl] [⟨1,.map [] [] false⟩]=some (.ptr .S 3 1 0,[⟨1,.map [] [] false⟩,r,D,F,H,I,J,K]):=by
 have h:(match r8 pE 1000 72 [.nilsl] [⟨1,.map [] [] false⟩]with|some (.ptr .S 3 1 0,[⟨1,.map [] [] false⟩,_,_,_,_,_,_,_])=>true|_=>false)=true:=by kernel_rfl
 split at h
 ·rename_i hc;exact⟨_,_,_,_,_,_,_,DCall_iff.2 ⟨1000,hc⟩⟩
 ·cases h
theorem aDM(r:T)(D F H I J K N:ah): ∀p∈prC.take 10,∃s,ae pE 230 [.ptr .S 8 1 0,.i .i64 p.1,.agg (fw p.2)] (JL r D F H I J K N)=some (.agg (mR (kb 0 p.2)),s):=dKS _ _ _ _ _ (by kernel_rfl)
theorem aDN(r:T)(D F H I J K N:ah): ∀p∈(prC.drop 10).take 10,∃s,ae pE 230 [.ptr .S 8 1 0,.i .i64 p.1,.agg (fw p.2)] (JL r D F H I J K N)=some (.agg (mR (kb 0 p.2)),s):=dKS _ _ _ _ _ (by kernel_rfl)
theorem aDO(r:T)(D F H I J K N:ah): ∀p∈prC.drop 20,∃s,ae pE 230 [.ptr .S 8 1 0,.i .i64 p.1,.agg (fw p.2)] (JL r D F H I J K N)=some (.agg (mR (kb 0 p.2)),s):=dKS _ _ _ _ _ (by kernel_rfl)
theorem aDP(r D F H I J K:ah): ∀p∈(nw.drop 27).take 1,∃s,ae pE 230 [.ptr .S 8 1 0,.i .i64 p.1,.agg (fw p.2)] (JL (vB false 0) r D F H I J K)=some (.agg (mR (kb 0 p.2)),s):=dKS _ _ _ _ _ (by kernel_rfl)
theorem aDQ(r D F H I J K:ah): ∀p∈(nw.drop 27).take 1,∃s,ae pE 230 [.ptr .S 8 1 0,.i .i64 p.1,.agg (fw p.2)] (JL (vB false 1) r D F H I J K)=some (.agg (mR (kb 1 p.2)),s):=dKS _ _ _ _ _ (by kernel_rfl)
theorem aDR(r D F H I J K:ah): ∀p∈(nw.drop 27).take 1,∃s,ae pE 230 [.ptr .S 8 1 0,.i .i64 p.1,.agg (fw p.2)] (JL (vB false 2) r D F H I J K)=some (.agg (mR (kb 2 p.2)),s):=dKS _ _ _ _ _ (by kernel_rfl)
end Go.Proofs.YtnkgnjecmfkcfaaGreat
