/- Walks, plain laws (6). Conditions: the theorems' own. -/
import Derived.Test.YtnkgnjecmfkcfaaGreatM5
set_option maxRecDepth 1000000
set_option linter.all false
set_option maxHeartbeats 16000000
namespace Go.Proofs.YtnkgnjecmfkcfaaGreat
open Go Go.Ev
def aKi(e:Bool): ∀p∈(oB.drop 0).take 8,ae pE 102 [vB e 0,qi p.1,.agg (fN p.2)] []=some (.tup [qi (cj (kJ 0) p.1 p.2).1,qi (cj (kJ 0) p.1 p.2).2],[]):=NG _ _ _ _
def aKj(e:Bool): ∀p∈(oB.drop 8).take 8,ae pE 102 [vB e 0,qi p.1,.agg (fN p.2)] []=some (.tup [qi (cj (kJ 0) p.1 p.2).1,qi (cj (kJ 0) p.1 p.2).2],[]):=NG _ _ _ _
def aKk(e:Bool): ∀p∈(oB.drop 16).take 8,ae pE 102 [vB e 0,qi p.1,.agg (fN p.2)] []=some (.tup [qi (cj (kJ 0) p.1 p.2).1,qi (cj (kJ 0) p.1 p.2).2],[]):=NG _ _ _ _
def aKl(e:Bool): ∀p∈oB.drop 24,ae pE 102 [vB e 0,qi p.1,.agg (fN p.2)] []=some (.tup [qi (cj (kJ 0) p.1 p.2).1,qi (cj (kJ 0) p.1 p.2).2],[]):=NG _ _ _ _
def tyc(e:Bool): ∀j∈ [0,1,2],ae pE 102 [.sl [] 0 e,qi 0,.agg (fN (nP j))] []=some (.tup [qi (cj [] 0 (nP j)).1,qi (cj [] 0 (nP j)).2],[]):=NG _ _ _ _
def tyv(e:Bool): ∀j∈ [0,1,2],ae pE 56 [vB e j] []=some (bj 1 (ints (tE (kJ j) 1)),[]):=NG _ _ _ _
end Go.Proofs.YtnkgnjecmfkcfaaGreat
