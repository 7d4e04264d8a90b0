/- Maps from numbers to numbers; days of stints. Conditions: none beyond the theorems' own. -/
import Derived.Test.YtfenhjpkomldcaaGreatTF
set_option maxRecDepth 100000
set_option linter.unusedSimpArgs false
set_option linter.unusedVariables false
namespace Go.Proofs.YtfenhjpkomldcaaGreat
open Go Go.Ev
def getM : List (Int × Int) → Int → Int
  | [], _ => 0
  | (k, v) :: ps, d => if k = d then v else getM ps d
def putM : List (Int × Int) → Int → Int → List (Int × Int)
  | [], d, v => [(d, v)]
  | (k, w) :: ps, d, v => if k = d then (d, v) :: ps else (k, w) :: putM ps d v
def kT (ps : List (Int × Int)) : List T := ps.map fun p => T.i .i64 p.1
def vT (ps : List (Int × Int)) : List T := ps.map fun p => T.i .i64 p.2
/-- One number added on m days from day d on. -/
def rangeAdd (x : Int) : Nat → Int → List (Int × Int) → List (Int × Int)
  | 0, _, ps => ps
  | m + 1, d, ps => rangeAdd x m (d + 1) (putM ps d (getM ps d + x))
def bndM (ps : List (Int × Int)) (n : Nat) : Prop := ∀ e, -(n : Int) * 2199023255552 ≤ getM ps e ∧ getM ps e ≤ (n : Int) * 2199023255552
/-- The days of stints with their values, added up over windows of D days. -/
def psOf (D : Int) (l : List (Int × Int)) : List (Int × Int) := l.foldl (fun ps p => rangeAdd p.2 D.toNat (p.1 - D + 1) ps) []
def winSum (D : Int) (l : List (Int × Int)) (d : Int) : Int := l.foldl (fun s p => s + if d ≤ p.1 ∧ p.1 < d + D then p.2 else 0) 0
end Go.Proofs.YtfenhjpkomldcaaGreat
