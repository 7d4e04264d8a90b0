/- A further stint never removes a breach: the plain law. Conditions: none beyond the theorems' own. -/
import Derived.Test.YtfenhjpkomldcaaGreatTP
set_option maxRecDepth 100000
set_option linter.unusedSimpArgs false
set_option linter.unusedVariables false
namespace Go.Proofs.YtfenhjpkomldcaaGreat
open Go Go.Ev
structure Good (ss : List Sti) : Prop where
  all : ∀ s ∈ ss, 0 ≤ s.a ∧ s.a < s.b ∧ s.b ≤ 52596000 ∧ s.xs.length = 2 ∧ (∀ x ∈ s.xs, 0 ≤ x ∧ x ≤ 511) ∧ s.ok
  pw : ss.Pairwise fun s s' => s.b ≤ s'.a
  len : ss.length ≤ 6
theorem val_good : ∀ (ss : List Sti) (p : Option Int), (∀ s ∈ ss, 0 ≤ s.a ∧ s.a < s.b ∧ s.b ≤ 52596000 ∧ s.xs.length = 2 ∧ (∀ x ∈ s.xs, 0 ≤ x ∧ x ≤ 511)) → (ss.Pairwise fun s s' => s.b ≤ s'.a) → (∀ q, p = some q → ∀ s ∈ ss, q ≤ s.a) → valFrom 2 p ss = 0
  | [], p, _, _, _ => rfl
  | s :: ss, p, ha, hp, hq => by
    obtain ⟨h1, h2, h3, h4, h5⟩ := ha s List.mem_cons_self
    have hall : s.xs.all okN = true := by
      rw [List.all_eq_true]
      intro x hx
      have := h5 x hx
      simp [okN]; omega
    have hst : valStep 2 p s = 0 := by
      unfold valStep
      rw [if_neg (by omega), if_neg (by omega), hall]
      simp only [Bool.true_eq_false, if_false]
      cases p with
      | none => rfl
      | some q =>
        have := hq q rfl s List.mem_cons_self
        simp only []
        rw [if_neg (by omega)]
    unfold valFrom
    rw [if_pos hst]
    obtain ⟨hp1, hp2⟩ := List.pairwise_cons.1 hp
    exact val_good ss _ (fun t ht => ha t (List.mem_cons_of_mem _ ht)) hp2 (fun q e t ht => by cases e; exact hp1 t ht)
theorem Good.val {ss : List Sti} (h : Good ss) : valSpec 2 ss = 0 := by
  unfold valSpec
  rw [if_neg (by have := h.len; omega)]
  exact val_good ss none (fun s hs => ⟨(h.all s hs).1, (h.all s hs).2.1, (h.all s hs).2.2.1, (h.all s hs).2.2.2.1, (h.all s hs).2.2.2.2.1⟩) h.pw (fun q e => by cases e)
theorem gen_good (xs : List Int) (n : Nat) : ∀ (i : Nat) (t : Int), 12960360 ≤ t → t ≤ 13060360 - n * 5000 → (∀ s ∈ stGen xs n i t, t ≤ s.a ∧ s.a < s.b ∧ s.b ≤ 13060360 ∧ s.xs.length = 2 ∧ (∀ x ∈ s.xs, 0 ≤ x ∧ x ≤ 511) ∧ s.ok) ∧ (stGen xs n i t).Pairwise fun s s' => s.b ≤ s'.a := by
  induction n with
  | zero => intro i t h1 h2; exact ⟨fun s hs => by simp [stGen] at hs, by simp [stGen]⟩
  | succ n ih =>
    intro i t h1 h2
    generalize hk : atV xs (1 + i) = k
    have hg := gap_lt k
    have e : stGen xs (n + 1) i t = stOf t k :: stGen xs n (i + 1) (t + gap k + 60 + k / 8 % 512) := by rw [stGen, hk]; rfl
    have b1 : 12960360 ≤ t + gap k + 60 + k / 8 % 512 := by omega
    have b2 : t + gap k + 60 + k / 8 % 512 ≤ 13060360 - (n : Int) * 5000 := by omega
    have b3 : t + gap k + 60 + k / 8 % 512 ≤ 13060360 := by omega
    obtain ⟨ih1, ih2⟩ := ih (i + 1) (t + gap k + 60 + k / 8 % 512) b1 b2
    rw [e]
    refine ⟨fun s hs => ?_, List.pairwise_cons.2 ⟨fun s hs => (ih1 s hs).1, ih2⟩⟩
    rcases List.mem_cons.1 hs with rfl | hs
    · refine ⟨?_, ?_, b3, rfl, ?_, Or.inr ⟨false, rfl⟩, by simp [stOf]⟩
      · show t ≤ t + gap k; omega
      · show t + gap k < t + gap k + 60 + k / 8 % 512; omega
      · intro x hx
        simp only [stOf, List.mem_cons, List.not_mem_nil, or_false] at hx
        rcases hx with rfl | rfl <;> omega
    · have := ih1 s hs
      exact ⟨by omega, this.2⟩
theorem all_good (xs : List Int) : Good (stAll xs) := by
  have hl : (stAll xs).length ≤ 6 := by unfold stAll; rw [stGen_len]; omega
  have hn : (atV xs 0 % 7).toNat ≤ 6 := by omega
  obtain ⟨h1, h2⟩ := gen_good xs (atV xs 0 % 7).toNat 0 12960360 (by omega) (by omega)
  exact ⟨fun s hs => by have := h1 s hs; exact ⟨by omega, this.2.1, by omega, this.2.2.2⟩, h2, hl⟩
theorem win_cons (D : Int) (p : Int × Int) (l : List (Int × Int)) (d : Int) : winSum D (p :: l) d = (if d ≤ p.1 ∧ p.1 < d + D then p.2 else 0) + winSum D l d := by
  unfold winSum
  have : ∀ (l : List (Int × Int)) (s : Int), l.foldl (fun s p => s + if d ≤ p.1 ∧ p.1 < d + D then p.2 else 0) s = s + l.foldl (fun s p => s + if d ≤ p.1 ∧ p.1 < d + D then p.2 else 0) 0 := by
    intro l
    induction l with
    | nil => intro s; simp
    | cons q l ih => intro s; rw [List.foldl_cons, ih, List.foldl_cons, ih (0 + _)]; omega
  rw [List.foldl_cons, this]
  omega
theorem br_len (z : Zn) (ss : List Sti) (h : ss.length ≤ 200) : ∀ (lims : List Lm) (i : Nat), (∀ l ∈ lims, l.d ≤ 31) → (brAll z ss i lims).length ≤ lims.length * 6200
  | [], i, _ => by simp [brAll]
  | l :: ls, i, hd => by
    have ih := br_len z ss h ls (i + 1) (fun x hx => hd x (List.mem_cons_of_mem _ hx))
    have h1 := psOf_len l.d (hd l List.mem_cons_self) (dvs z ss i)
    have h2 : (dvs z ss i).length = ss.length := by simp [dvs]
    have h3 : (keysOf l.d (dvs z ss i)).length = (psOf l.d (dvs z ss i)).length := by unfold keysOf; rw [sortI_len, List.length_map]
    have h4 := List.length_filter_le (fun d => decide (l.most < getM (psOf l.d (dvs z ss i)) d)) (keysOf l.d (dvs z ss i))
    unfold brAll
    rw [List.length_append, List.length_map, List.length_cons]
    omega
end Go.Proofs.YtfenhjpkomldcaaGreat
