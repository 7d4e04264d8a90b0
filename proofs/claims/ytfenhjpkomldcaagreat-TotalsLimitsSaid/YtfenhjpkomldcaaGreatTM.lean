/- Days off. Conditions: none beyond the theorems' own. -/
import Derived.Test.YtfenhjpkomldcaaGreatTL
set_option maxRecDepth 100000
set_option linter.unusedSimpArgs false
set_option linter.unusedVariables false
namespace Go.Proofs.YtfenhjpkomldcaaGreat
open Go Go.Ev
def freeTo (bs : List Bool) : Nat → Int
  | 0 => 0
  | k + 1 => freeTo bs k + if bs.getD k true = false then 1 else 0
def offL (bs : List Bool) (D : Nat) (cnt from_ : Int) : Nat → Nat → List Int
  | _, 0 => []
  | k, m + 1 => (if D ≤ k + 1 ∧ freeTo bs (k + 1) - freeTo bs (k + 1 - D) < cnt then [from_ + k - D + 1] else []) ++ offL bs D cnt from_ (k + 1) m
def ofC (i d : Int) : List T := [.b true, .i .i64 i, .i .i64 d]
end Go.Proofs.YtfenhjpkomldcaaGreat
