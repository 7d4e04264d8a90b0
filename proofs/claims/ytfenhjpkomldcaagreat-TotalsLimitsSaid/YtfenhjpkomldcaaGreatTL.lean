/- The days that stints take. Conditions: none beyond the theorems' own. -/
import Derived.Test.YtfenhjpkomldcaaGreatTK
set_option maxRecDepth 100000
set_option linter.unusedSimpArgs false
set_option linter.unusedVariables false
namespace Go.Proofs.YtfenhjpkomldcaaGreat
open Go Go.Ev
def bools (bs : List Bool) : List T := bs.map T.b
def setR : Nat → Nat → List Bool → List Bool
  | 0, _, bs => bs
  | m + 1, j, bs => setR m (j + 1) (bs.set j true)
def busyB (z : Zn) (ss : List Sti) (d : Int) : Bool := ss.any fun s => decide (z.day s.a ≤ d ∧ d ≤ z.day (s.b - 1))
def busyOf (z : Zn) (ss : List Sti) (from_ : Int) (n : Nat) : List Bool := (List.range n).map fun (x : Nat) => busyB z ss (from_ + x)
end Go.Proofs.YtfenhjpkomldcaaGreat
