/- OverLimits. Conditions: none beyond the theorems' own. -/
import Derived.Test.YtfenhjpkomldcaaGreatTJ
set_option maxRecDepth 100000
set_option linter.unusedSimpArgs false
set_option linter.unusedVariables false
namespace Go.Proofs.YtfenhjpkomldcaaGreat
open Go Go.Ev
/-- A slice of numbers, as slices.Sorted gives it. -/
def keysT (ks : List Int) : T := match ks with | [] => .nilsl | _ => .sl (ints ks) ks.length false
/-- A limit. -/
structure Lm where
  nm : T
  ms : T
  most : Int
  d : Int
def lmC (l : Lm) : List T := [l.nm, l.ms, .i .i64 l.most, .i .i64 l.d]
/-- The breaches of limits. -/
def brAll (z : Zn) (ss : List Sti) : Nat → List Lm → List (Int × Int)
  | _, [] => []
  | i, l :: ls => ((keysOf l.d (dvs z ss i)).filter fun d => l.most < getM (psOf l.d (dvs z ss i)) d).map (fun d => ((i : Int), d)) ++ brAll z ss (i + 1) ls
def brT (p : Int × Int) : List T := brC p.1 p.2
theorem OutS.congr {lh lh' : Tri Ent} {v : T} {k sz n : Nat} {cs : List T} (h : OutS lh v k sz n cs) (e : getO lh' k = getO lh k) : OutS lh' v k sz n cs := by
  rcases h with h | ⟨g, wm, h1, h2, h3⟩
  · exact Or.inl h
  · exact Or.inr ⟨g, wm, h1, by rw [e]; exact h2, h3⟩
end Go.Proofs.YtfenhjpkomldcaaGreat
