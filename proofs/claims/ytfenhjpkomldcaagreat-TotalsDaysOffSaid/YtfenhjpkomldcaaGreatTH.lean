/- The breaches of limits: the loops of OverLimits. Conditions: none beyond the theorems' own. -/
import Derived.Test.YtfenhjpkomldcaaGreatTG
import Derived.Test.YtfenhjpkomldcaaGreatExD

set_option maxRecDepth 100000
set_option linter.unusedSimpArgs false
set_option linter.unusedVariables false
namespace Go.Proofs.YtfenhjpkomldcaaGreat
open Go Go.Ev
theorem splice_ints : ∀ (ds : List Int) (k : Nat) (x : Int), k < ds.length → splice (ints ds) k [.i .i64 x] = ints (ds.set k x)
  | [], k, x, h => by simp at h
  | d :: ds, 0, x, h => by simp [ints, splice]
  | d :: ds, k + 1, x, h => by
    have := splice_ints ds k x (by simpa using h)
    simp only [ints, List.map_cons, splice, List.set_cons_succ] at this ⊢
    rw [this]
def dsAt (z : Zn) (ss : List Sti) (k : Nat) : List Int := (ss.take k).map (fun s => z.day s.a) ++ List.replicate (ss.length - k) 0
end Go.Proofs.YtfenhjpkomldcaaGreat
