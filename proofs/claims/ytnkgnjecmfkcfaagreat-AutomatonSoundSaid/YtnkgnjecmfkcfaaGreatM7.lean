/- Walks, plain laws (7). Conditions: the theorems' own. -/
import Derived.Test.YtnkgnjecmfkcfaaGreatM5
set_option maxRecDepth 1000000
set_option linter.all false
set_option maxHeartbeats 16000000
namespace Go.Proofs.YtnkgnjecmfkcfaaGreat
open Go Go.Ev
def aKm(e:Bool): ∀p∈(oB.drop 0).take 8,ae pE 102 [vB e 1,qi p.1,.agg (fN p.2)] []=some (.tup [qi (cj (kJ 1) p.1 p.2).1,qi (cj (kJ 1) p.1 p.2).2],[]):=NG _ _ _ _
def aKn(e:Bool): ∀p∈(oB.drop 8).take 8,ae pE 102 [vB e 1,qi p.1,.agg (fN p.2)] []=some (.tup [qi (cj (kJ 1) p.1 p.2).1,qi (cj (kJ 1) p.1 p.2).2],[]):=NG _ _ _ _
def aKo(e:Bool): ∀p∈(oB.drop 16).take 8,ae pE 102 [vB e 1,qi p.1,.agg (fN p.2)] []=some (.tup [qi (cj (kJ 1) p.1 p.2).1,qi (cj (kJ 1) p.1 p.2).2],[]):=NG _ _ _ _
def aKp(e:Bool): ∀p∈oB.drop 24,ae pE 102 [vB e 1,qi p.1,.agg (fN p.2)] []=some (.tup [qi (cj (kJ 1) p.1 p.2).1,qi (cj (kJ 1) p.1 p.2).2],[]):=NG _ _ _ _
def aKq(e:Bool): ∀p∈(oB.drop 0).take 8,ae pE 102 [vB e 2,qi p.1,.agg (fN p.2)] []=some (.tup [qi (cj (kJ 2) p.1 p.2).1,qi (cj (kJ 2) p.1 p.2).2],[]):=NG _ _ _ _
def aKr(e:Bool): ∀p∈(oB.drop 8).take 8,ae pE 102 [vB e 2,qi p.1,.agg (fN p.2)] []=some (.tup [qi (cj (kJ 2) p.1 p.2).1,qi (cj (kJ 2) p.1 p.2).2],[]):=NG _ _ _ _
def aKs(e:Bool): ∀p∈(oB.drop 16).take 8,ae pE 102 [vB e 2,qi p.1,.agg (fN p.2)] []=some (.tup [qi (cj (kJ 2) p.1 p.2).1,qi (cj (kJ 2) p.1 p.2).2],[]):=NG _ _ _ _
def aKt(e:Bool): ∀p∈oB.drop 24,ae pE 102 [vB e 2,qi p.1,.agg (fN p.2)] []=some (.tup [qi (cj (kJ 2) p.1 p.2).1,qi (cj (kJ 2) p.1 p.2).2],[]):=NG _ _ _ _
end Go.Proofs.YtnkgnjecmfkcfaaGreat
