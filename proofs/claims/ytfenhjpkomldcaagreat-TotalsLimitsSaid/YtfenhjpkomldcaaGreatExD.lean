/- What two functions of Go's library answer, as functions of trees. Conditions: none. -/
import Derived.Test.YtfenhjpkomldcaaGreatEvF
import Derived.ProofKit
set_option linter.unusedSimpArgs false
set_option linter.unusedVariables false
namespace Go.Proofs
open Go Go.Ev Go.RowKit
def asInts : List T → Option (List Int)
  | [] => some []
  | .i .i64 n :: ts => (asInts ts).map (n :: ·)
  | _ => none
def insI (n : Int) : List Int → List Int
  | [] => [n]
  | m :: ms => if n ≤ m then n :: m :: ms else m :: insI n ms
def sortI : List Int → List Int
  | [] => []
  | n :: ns => insI n (sortI ns)
def wf64 (n : Int) : Bool := (Lit.int .i64 n).wf
def sortedKeys (g : Nat) : List T → Option T
  | [.fn f [] [.vp [.vm ks _]]] => if f = g then match asInts ks with
      | some l => if l.length ≤ 1000000 && l.all wf64 then some (match l with | [] => .nilsl | _ => .sl ((sortI l).map (.i .i64 ·)) l.length false) else none
      | none => none
    else none
  | _ => none

theorem insI_perm (n : Int) : ∀ l, (insI n l).Perm (n :: l)
  | [] => by simp [insI]
  | m :: ms => by
    unfold insI
    split
    · exact List.Perm.refl _
    · exact ((insI_perm n ms).cons m).trans (List.Perm.swap n m ms)
theorem sortI_perm : ∀ l, (sortI l).Perm l
  | [] => by simp [sortI]
  | n :: ns => (insI_perm n _).trans ((sortI_perm ns).cons n)
theorem insI_sorted (n : Int) : ∀ l : List Int, l.Pairwise (· ≤ ·) → (insI n l).Pairwise (· ≤ ·)
  | [], h => by simp [insI]
  | m :: ms, h => by
    unfold insI
    have hm := (List.pairwise_cons.1 h).1
    split
    · rename_i hn
      exact List.pairwise_cons.2 ⟨fun x hx => by rcases List.mem_cons.1 hx with rfl | hx; exact hn; exact Int.le_trans hn (hm x hx), h⟩
    · rename_i hn
      refine List.pairwise_cons.2 ⟨fun x hx => ?_, insI_sorted n ms (List.pairwise_cons.1 h).2⟩
      rcases List.mem_cons.1 ((insI_perm n ms).mem_iff.1 hx) with rfl | hx
      · omega
      · exact hm x hx
theorem sortI_sorted : ∀ l, (sortI l).Pairwise (· ≤ ·)
  | [] => by simp [sortI]
  | n :: ns => insI_sorted n _ (sortI_sorted ns)
def idxN : List Nat → Nat → Int
  | [], _ => -1
  | b :: l, c => if b = c then 0 else if idxN l c = -1 then -1 else idxN l c + 1
def idxE : List T → Option T
  | [.s l, .s [c]] => some (.i .i64 (idxN l c))
  | _ => none
end Go.Proofs
