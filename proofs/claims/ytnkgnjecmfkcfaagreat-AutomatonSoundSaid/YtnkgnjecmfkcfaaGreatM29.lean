/- Walks, plain laws (29). Conditions: the theorems' own. -/
import Derived.Test.YtnkgnjecmfkcfaaGreatM28
set_option maxRecDepth 1000000
set_option linter.all false
set_option maxHeartbeats 16000000
namespace Go.Proofs.YtnkgnjecmfkcfaaGreat
open Go Go.Ev
def aCR: ∃r D F H I J K,ae pE 72 [.nilsl] [⟨1,.map [] [] false⟩]=some (.ptr .S 3 1 0,[⟨1,.map [] [] false⟩,r,D,F,H,I,J,K]):=by
 have h:(match ow pE 1000 72 [.nilsl] [⟨1,.map [] [] false⟩]with|some (.ptr .S 3 1 0,[⟨1,.map [] [] false⟩,_,_,_,_,_,_,_])=>true|_=>false)=true:=by kernel_rfl
 split at h
 ·rename_i hc;exact⟨_,_,_,_,_,_,_,DCall_iff.2 ⟨1000,hc⟩⟩
 ·cases h
def aJk(r:T)(D F H I J K N:ah): ∀p∈prC.take 10,∃s,ae pE 230 [.ptr .S 8 1 0,qi p.1,.agg (fN p.2)] (LW r D F H I J K N)=some (.agg (mE (jJ 0 p.2)),s):=dKS _ _ _ _ _ (by kernel_rfl)
def aJl(r:T)(D F H I J K N:ah): ∀p∈(prC.drop 10).take 10,∃s,ae pE 230 [.ptr .S 8 1 0,qi p.1,.agg (fN p.2)] (LW r D F H I J K N)=some (.agg (mE (jJ 0 p.2)),s):=dKS _ _ _ _ _ (by kernel_rfl)
def aJm(r:T)(D F H I J K N:ah): ∀p∈prC.drop 20,∃s,ae pE 230 [.ptr .S 8 1 0,qi p.1,.agg (fN p.2)] (LW r D F H I J K N)=some (.agg (mE (jJ 0 p.2)),s):=dKS _ _ _ _ _ (by kernel_rfl)
def aJn(r D F H I J K:ah): ∀p∈(oB.drop 27).take 1,∃s,ae pE 230 [.ptr .S 8 1 0,qi p.1,.agg (fN p.2)] (LW (vB false 0) r D F H I J K)=some (.agg (mE (jJ 0 p.2)),s):=dKS _ _ _ _ _ (by kernel_rfl)
def aJo(r D F H I J K:ah): ∀p∈(oB.drop 27).take 1,∃s,ae pE 230 [.ptr .S 8 1 0,qi p.1,.agg (fN p.2)] (LW (vB false 1) r D F H I J K)=some (.agg (mE (jJ 1 p.2)),s):=dKS _ _ _ _ _ (by kernel_rfl)
def aJp(r D F H I J K:ah): ∀p∈(oB.drop 27).take 1,∃s,ae pE 230 [.ptr .S 8 1 0,qi p.1,.agg (fN p.2)] (LW (vB false 2) r D F H I J K)=some (.agg (mE (jJ 2 p.2)),s):=dKS _ _ _ _ _ (by kernel_rfl)
end Go.Proofs.YtnkgnjecmfkcfaaGreat
