/- The breaches of limits: stints, and the days in order. Conditions: none beyond the theorems' own. -/
import Derived.Test.YtfenhjpkomldcaaGreatTH
set_option maxRecDepth 100000
set_option linter.unusedSimpArgs false
set_option linter.unusedVariables false
namespace Go.Proofs.YtfenhjpkomldcaaGreat
open Go Go.Ev
/-- The days of stints with their values for a limit. -/
def dvs (z : Zn) (ss : List Sti) (i : Nat) : List (Int × Int) := ss.map fun s => (z.day s.a, s.xs.getD i 0)
/-- Stints that OverLimits can take. -/
structure Fit (ss : List Sti) (nl : Nat) : Prop where
  len : ss.length ≤ 200
  ok : ∀ s ∈ ss, s.ok
  n : ∀ s ∈ ss, s.xs.length = nl
  span : ∀ s ∈ ss, 0 ≤ s.a ∧ s.a < s.b ∧ s.b ≤ 52596000
  val : ∀ s ∈ ss, ∀ x ∈ s.xs, -1099511627776 ≤ x ∧ x ≤ 1099511627776
theorem day_lt {z : Zn} (hz : z.ok) {t : Int} (h1 : 0 ≤ t) (h2 : t < 52596000) : -1 ≤ z.day t ∧ z.day t ≤ 36526 := by
  have := Zn.at_lt hz t
  unfold Zn.day
  omega
end Go.Proofs.YtfenhjpkomldcaaGreat
