/- Maps from numbers to numbers; days of stints. Conditions: none beyond the theorems' own. -/
import Derived.Test.YtfenhjpkomldcaaGreatTF
set_option maxRecDepth 100000
set_option linter.unusedSimpArgs false
set_option linter.unusedVariables false
namespace Go.Proofs.YtfenhjpkomldcaaGreat
open Go Go.Ev
def getM : List (Int × Int) → Int → Int
  | [], _ => 0
  | (k, v) :: ps, d => if k = d then v else getM ps d
def putM : List (Int × Int) → Int → Int → List (Int × Int)
  | [], d, v => [(d, v)]
  | (k, w) :: ps, d, v => if k = d then (d, v) :: ps else (k, w) :: putM ps d v
theorem getM_put (d v e : Int) : ∀ ps, getM (putM ps d v) e = if d = e then v else getM ps e
  | [] => by simp [putM, getM]
  | (k, w) :: ps => by
    unfold putM
    by_cases h : k = d
    · subst h
      by_cases he : k = e <;> simp [getM, he]
    · simp only [if_neg h, getM, getM_put d v e ps]
      by_cases he : k = e
      · subst he; simp [h]; intro h2; exact absurd h2.symm h
      · simp [he]
def kT (ps : List (Int × Int)) : List T := ps.map fun p => T.i .i64 p.1
def vT (ps : List (Int × Int)) : List T := ps.map fun p => T.i .i64 p.2
theorem lk_ev (d : Int) : ∀ ps : List (Int × Int), lkF (vT ps) (.i .i64 0) false (findI (.one .int) (.i .i64 d) (kT ps)) = some (.i .i64 (getM ps d))
  | [] => rfl
  | (k, v) :: ps => by
    have ih := lk_ev d ps
    show lkF (.i .i64 v :: vT ps) _ false (findI _ _ (.i .i64 k :: kT ps)) = _
    rw [find_cons, eqT_i, findS_b]
    unfold getM
    by_cases h : d = k
    · subst h; simp [lkF]
    · have h' : ¬ k = d := fun e => h e.symm
      simp only [h, h', decide_false, Bool.false_eq_true, if_false]
      cases hf : findI (.one .int) (.i .i64 d) (kT ps) with
      | none => rw [hf] at ih; cases ih
      | some o =>
        rw [hf] at ih
        cases o with
        | none => simpa [lkF] using ih
        | some j => simpa [lkF] using ih
theorem put_ev (d v : Int) : ∀ ps : List (Int × Int), putF (kT ps) (vT ps) (.i .i64 d) (.i .i64 v) (findI (.one .int) (.i .i64 d) (kT ps)) = some (kT (putM ps d v), vT (putM ps d v))
  | [] => rfl
  | (k, w) :: ps => by
    have ih := put_ev d v ps
    show putF (.i .i64 k :: kT ps) (.i .i64 w :: vT ps) _ _ (findI _ _ (.i .i64 k :: kT ps)) = _
    rw [find_cons, eqT_i, findS_b]
    unfold putM
    by_cases h : d = k
    · subst h; simp [putF, kT, vT]
    · have h' : ¬ k = d := fun e => h e.symm
      simp only [h, h', decide_false, Bool.false_eq_true, if_false]
      cases hf : findI (.one .int) (.i .i64 d) (kT ps) with
      | none => rw [hf] at ih; cases ih
      | some o =>
        rw [hf] at ih
        cases o with
        | none => simp [putF] at ih; simp [putF, kT, vT]; exact ⟨by simpa [kT] using ih.1, by simpa [vT] using ih.2⟩
        | some j => simp [putF] at ih; simp [putF, kT, vT]; exact ⟨by simpa [kT] using ih.1, by simpa [vT] using ih.2⟩
def rangeAdd (x : Int) : Nat → Int → List (Int × Int) → List (Int × Int)
  | 0, _, ps => ps
  | m + 1, d, ps => rangeAdd x m (d + 1) (putM ps d (getM ps d + x))
def bndM (ps : List (Int × Int)) (n : Nat) : Prop := ∀ e, -(n : Int) * 2199023255552 ≤ getM ps e ∧ getM ps e ≤ (n : Int) * 2199023255552
theorem bndM_put {ps : List (Int × Int)} {n : Nat} {x d : Int} (h : bndM ps n) (hx : -2199023255552 ≤ x ∧ x ≤ 2199023255552) : bndM (putM ps d (getM ps d + x)) (n + 1) := by
  intro e
  rw [getM_put]
  have h1 := h d
  have h2 := h e
  by_cases he : d = e
  · rw [if_pos he]; omega
  · rw [if_neg he]; omega
theorem range_get (x : Int) : ∀ (m : Nat) (d : Int) (ps : List (Int × Int)) (e : Int), getM (rangeAdd x m d ps) e = getM ps e + if d ≤ e ∧ e < d + m then x else 0
  | 0, d, ps, e => by rw [if_neg (by omega)]; simp [rangeAdd]
  | m + 1, d, ps, e => by
    rw [rangeAdd, range_get x m (d + 1), getM_put]
    by_cases h : d = e
    · subst h
      rw [if_pos rfl, if_neg (by omega), if_pos (by omega)]; omega
    · rw [if_neg h]
      by_cases h2 : d + 1 ≤ e ∧ e < d + 1 + m
      · rw [if_pos h2, if_pos (by omega)]
      · rw [if_neg h2, if_neg (by omega)]
theorem put_keys (d v e : Int) : ∀ ps : List (Int × Int), e ∈ (putM ps d v).map (·.1) ↔ e = d ∨ e ∈ ps.map (·.1)
  | [] => by simp [putM]
  | (k, w) :: ps => by
    unfold putM
    by_cases h : k = d
    · subst h; simp
    · rw [if_neg h]
      simp only [List.map_cons, List.mem_cons, put_keys d v e ps]
      constructor
      · rintro (h | h | h) <;> simp [h]
      · rintro (h | h | h) <;> simp [h]
theorem range_keys (x : Int) : ∀ (m : Nat) (d : Int) (ps : List (Int × Int)) (e : Int), e ∈ (rangeAdd x m d ps).map (·.1) ↔ (d ≤ e ∧ e < d + m) ∨ e ∈ ps.map (·.1)
  | 0, d, ps, e => by simp [rangeAdd]; omega
  | m + 1, d, ps, e => by
    rw [rangeAdd, range_keys x m (d + 1), put_keys]
    constructor
    · rintro (h | h | h)
      · left; omega
      · left; omega
      · right; exact h
    · rintro (h | h)
      · by_cases he : e = d
        · right; left; exact he
        · left; omega
      · right; right; exact h
def psOf (D : Int) (l : List (Int × Int)) : List (Int × Int) := l.foldl (fun ps p => rangeAdd p.2 D.toNat (p.1 - D + 1) ps) []
def winSum (D : Int) (l : List (Int × Int)) (d : Int) : Int := l.foldl (fun s p => s + if d ≤ p.1 ∧ p.1 < d + D then p.2 else 0) 0
theorem psOf_get (D : Int) (hD : 0 ≤ D) (l : List (Int × Int)) (d : Int) : getM (psOf D l) d = winSum D l d := by
  unfold psOf winSum
  have : ∀ (l ps : List (Int × Int)) (s : Int), getM ps d = s → getM (l.foldl (fun ps p => rangeAdd p.2 D.toNat (p.1 - D + 1) ps) ps) d = l.foldl (fun s p => s + if d ≤ p.1 ∧ p.1 < d + D then p.2 else 0) s := by
    intro l
    induction l with
    | nil => intro ps s h; exact h
    | cons p l ih =>
      intro ps s h
      simp only [List.foldl_cons]
      refine ih _ _ ?_
      rw [range_get, h]
      congr 1
      by_cases hc : d ≤ p.1 ∧ p.1 < d + D
      · rw [if_pos hc, if_pos (by omega)]
      · rw [if_neg hc, if_neg (by omega)]
  exact this l [] 0 rfl
theorem psOf_keys (D : Int) (hD : 0 ≤ D) (l : List (Int × Int)) (d : Int) : d ∈ (psOf D l).map (·.1) ↔ ∃ p ∈ l, d ≤ p.1 ∧ p.1 < d + D := by
  unfold psOf
  have : ∀ (l ps : List (Int × Int)), d ∈ (l.foldl (fun ps p => rangeAdd p.2 D.toNat (p.1 - D + 1) ps) ps).map (·.1) ↔ (∃ p ∈ l, d ≤ p.1 ∧ p.1 < d + D) ∨ d ∈ ps.map (·.1) := by
    intro l
    induction l with
    | nil => intro ps; simp
    | cons p l ih =>
      intro ps
      rw [List.foldl_cons, ih, range_keys]
      constructor
      · rintro (⟨q, hq, h⟩ | h | h)
        · left; exact ⟨q, List.mem_cons_of_mem _ hq, h⟩
        · left; exact ⟨p, List.mem_cons_self, by omega⟩
        · right; exact h
      · rintro (⟨q, hq, h⟩ | h)
        · rcases List.mem_cons.1 hq with rfl | hq
          · right; left; omega
          · left; exact ⟨q, hq, h⟩
        · right; right; exact h
  rw [this]
  simp
end Go.Proofs.YtfenhjpkomldcaaGreat
