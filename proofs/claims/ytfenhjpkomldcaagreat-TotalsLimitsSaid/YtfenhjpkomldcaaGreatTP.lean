/- contains; the stints of a list of numbers are valid. Conditions: none beyond the theorems' own. -/
import Derived.Test.YtfenhjpkomldcaaGreatTO
set_option maxRecDepth 100000
set_option linter.unusedSimpArgs false
set_option linter.unusedVariables false
namespace Go.Proofs.YtfenhjpkomldcaaGreat
open Go Go.Ev
structure Br where
  off : Bool
  i : Int
  d : Int
  deriving DecidableEq
def bC (b : Br) : List T := [.b b.off, .i .i64 b.i, .i .i64 b.d]
theorem bC_len (bs : List Br) : (bs.flatMap bC).length = bs.length * 3 := flat_len (f := bC) (fun _ => rfl) bs
theorem eqT_b (a b : Br) : eqT (.flat [.bool, .int, .int]) (.agg (bC a)) (.agg (bC b)) = some (decide (a = b)) := by
  obtain ⟨x, i, d⟩ := a
  obtain ⟨y, j, e⟩ := b
  simp only [eqT, bC, eqCells, eqCell, if_true, Bool.beq_eq_decide_eq, Br.mk.injEq]
  by_cases h1 : x = y
  · by_cases h2 : i = j
    · by_cases h3 : d = e <;> simp only [h1, h2, h3, decide_true, decide_false, and_self, and_false]
    · simp only [h1, h2, decide_true, decide_false, false_and, and_false]
  · simp only [h1, decide_false, false_and]
def inL (x : Br) (l : List Br) : Bool := l.any fun y => decide (y = x)
end Go.Proofs.YtfenhjpkomldcaaGreat
