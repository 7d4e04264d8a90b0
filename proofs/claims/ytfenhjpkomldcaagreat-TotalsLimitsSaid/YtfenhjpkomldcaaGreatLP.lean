/- The reference's breaches of limits are the program's. Plain lists; conditions: the theorems' own. -/
import Derived.Test.YtfenhjpkomldcaaGreatRW
set_option linter.unusedSimpArgs false
set_option linter.unusedVariables false
namespace Go.Proofs.YtfenhjpkomldcaaGreat
open Go Go.Ev
theorem sorted_ext : ∀ (a b : List Int), a.Pairwise (· < ·) → b.Pairwise (· < ·) → (∀ x, x ∈ a ↔ x ∈ b) → a = b
  | [], [], _, _, _ => rfl
  | [], y :: ys, _, _, h => by have := (h y).2 List.mem_cons_self; simp at this
  | x :: xs, [], _, _, h => by have := (h x).1 List.mem_cons_self; simp at this
  | x :: xs, y :: ys, ha, hb, h => by
    rw [List.pairwise_cons] at ha hb
    have hxy : x = y := by
      rcases List.mem_cons.1 ((h x).1 List.mem_cons_self) with e | e
      · exact e
      · rcases List.mem_cons.1 ((h y).2 List.mem_cons_self) with e' | e'
        · exact e'.symm
        · have h1 := hb.1 x e
          have h2 := ha.1 y e'
          omega
    subst hxy
    congr 1
    refine sorted_ext xs ys ha.2 hb.2 fun w => ⟨fun hw => ?_, fun hw => ?_⟩
    · rcases List.mem_cons.1 ((h w).1 (List.mem_cons_of_mem _ hw)) with e | e
      · have := ha.1 w hw; omega
      · exact e
    · rcases List.mem_cons.1 ((h w).2 (List.mem_cons_of_mem _ hw)) with e | e
      · have := hb.1 w hw; omega
      · exact e
theorem ins_mem (n : Int) : ∀ (l : List Int) (x : Int), x ∈ insI n l ↔ x = n ∨ x ∈ l
  | [], x => by simp [insI]
  | m :: ms, x => by
    unfold insI
    split
    · simp
    · simp only [List.mem_cons, ins_mem n ms x]
      constructor
      · rintro (h | h | h)
        · exact .inr (.inl h)
        · exact .inl h
        · exact .inr (.inr h)
      · rintro (h | h | h)
        · exact .inr (.inl h)
        · exact .inl h
        · exact .inr (.inr h)
theorem ins_lt (n : Int) : ∀ (l : List Int), l.Pairwise (· < ·) → n ∉ l → (insI n l).Pairwise (· < ·)
  | [], _, _ => by simp [insI]
  | m :: ms, h, hn => by
    rw [List.pairwise_cons] at h
    have hne : n ≠ m := fun e => hn (by rw [e]; exact List.mem_cons_self)
    unfold insI
    split
    · rw [List.pairwise_cons, List.pairwise_cons]
      refine ⟨fun x hx => ?_, h⟩
      rcases List.mem_cons.1 hx with e | e
      · omega
      · have := h.1 x e; omega
    · rw [List.pairwise_cons]
      refine ⟨fun x hx => ?_, ins_lt n ms h.2 (fun e => hn (List.mem_cons_of_mem _ e))⟩
      rcases (ins_mem n ms x).1 hx with e | e
      · omega
      · exact h.1 x e
theorem sort_mem : ∀ (l : List Int) (x : Int), x ∈ sortI l ↔ x ∈ l
  | [], x => by simp [sortI]
  | n :: ns, x => by show x ∈ insI n (sortI ns) ↔ _; rw [ins_mem, sort_mem ns x, List.mem_cons]
theorem sort_lt : ∀ (l : List Int), l.Nodup → (sortI l).Pairwise (· < ·)
  | [], _ => by simp [sortI]
  | n :: ns, h => by
    rw [List.nodup_cons] at h
    exact ins_lt n (sortI ns) (sort_lt ns h.2) (fun e => h.1 ((sort_mem ns n).1 e))
theorem putk_mem (d v : Int) : ∀ (ps : List (Int × Int)) (x : Int), x ∈ (putM ps d v).map (·.1) ↔ x = d ∨ x ∈ ps.map (·.1)
  | [], x => by simp [putM]
  | (k, w) :: ps, x => by
    unfold putM
    by_cases h : k = d
    · rw [if_pos h]; subst h; simp
    · rw [if_neg h]
      simp only [List.map_cons, List.mem_cons, putk_mem d v ps x]
      constructor
      · rintro (h | h | h)
        · exact .inr (.inl h)
        · exact .inl h
        · exact .inr (.inr h)
      · rintro (h | h | h)
        · exact .inr (.inl h)
        · exact .inl h
        · exact .inr (.inr h)
theorem put_nodup (d v : Int) : ∀ (ps : List (Int × Int)), (ps.map (·.1)).Nodup → ((putM ps d v).map (·.1)).Nodup
  | [], _ => by simp [putM]
  | (k, w) :: ps, h => by
    simp only [List.map_cons, List.nodup_cons] at h
    unfold putM
    by_cases e : k = d
    · rw [if_pos e]; subst e
      simp only [List.map_cons, List.nodup_cons]; exact h
    · rw [if_neg e]
      simp only [List.map_cons, List.nodup_cons]
      refine ⟨fun hm => ?_, put_nodup d v ps h.2⟩
      rcases (putk_mem d v ps k).1 hm with x | x
      · exact e x
      · exact h.1 x
theorem range_nodup (x : Int) : ∀ (m : Nat) (d : Int) (ps : List (Int × Int)), (ps.map (·.1)).Nodup → ((rangeAdd x m d ps).map (·.1)).Nodup
  | 0, d, ps, h => h
  | m + 1, d, ps, h => range_nodup x m (d + 1) _ (put_nodup d _ ps h)
theorem psOf_nodup (D : Int) (l : List (Int × Int)) : ((psOf D l).map (·.1)).Nodup := by
  unfold psOf
  have : ∀ (l ps : List (Int × Int)), (ps.map (·.1)).Nodup → ((l.foldl (fun ps p => rangeAdd p.2 D.toNat (p.1 - D + 1) ps) ps).map (·.1)).Nodup := by
    intro l
    induction l with
    | nil => intro ps h; exact h
    | cons p l ih => intro ps h; exact ih _ (range_nodup _ _ _ ps h)
  exact this l [] (by simp)
def rng : Nat → Int → List Int
  | 0, _ => []
  | m + 1, d => d :: rng m (d + 1)
theorem rng_mem : ∀ (m : Nat) (d x : Int), x ∈ rng m d ↔ d ≤ x ∧ x < d + m
  | 0, d, x => by simp [rng]
  | m + 1, d, x => by
    simp only [rng, List.mem_cons, rng_mem m (d + 1) x]
    omega
theorem rng_lt : ∀ (m : Nat) (d : Int), (rng m d).Pairwise (· < ·)
  | 0, d => by simp [rng]
  | m + 1, d => by
    simp only [rng, List.pairwise_cons]
    exact ⟨fun x hx => by have := (rng_mem m (d + 1) x).1 hx; omega, rng_lt m (d + 1)⟩
theorem refB_rng (D most : Int) (i : Nat) (l : List (Int × Int)) : ∀ (m : Nat) (d : Int), refB D most i l m d = (((rng m d).filter fun e => anyW D l e).filter fun e => decide (most < winSum D l e)).map (fun e => ((i : Int), e))
  | 0, d => rfl
  | m + 1, d => by
    have ih := refB_rng D most i l m (d + 1)
    by_cases h : anyW D l d = true ∧ most < winSum D l d
    · rw [refB_yes h, ih, rng, List.filter_cons_of_pos h.1, List.filter_cons_of_pos (by simpa using h.2), List.map_cons]
    · rw [refB_no h, ih, rng]
      by_cases ha : anyW D l d = true
      · rw [List.filter_cons_of_pos ha, List.filter_cons_of_neg (by simpa using fun hw => h ⟨ha, hw⟩)]
      · rw [List.filter_cons_of_neg ha]
theorem any_iff (D : Int) (l : List (Int × Int)) (d : Int) : anyW D l d = true ↔ ∃ p ∈ l, d ≤ p.1 ∧ p.1 < d + D := by
  unfold anyW
  rw [List.any_eq_true]
  simp
theorem keys_rng (D : Int) (hD : 0 ≤ D) (l : List (Int × Int)) (m : Nat) (lo : Int) (h : ∀ p ∈ l, lo + D - 1 ≤ p.1 ∧ p.1 < lo + m) : keysOf D l = (rng m lo).filter fun e => anyW D l e := by
  refine sorted_ext _ _ (sort_lt _ (psOf_nodup D l)) ((rng_lt m lo).filter _) fun x => ?_
  unfold keysOf
  rw [sort_mem, psOf_keys D hD, List.mem_filter, any_iff, rng_mem]
  constructor
  · rintro ⟨p, hp, h1, h2⟩
    have := h p hp
    exact ⟨by omega, p, hp, h1, h2⟩
  · rintro ⟨_, h⟩
    exact h
theorem low_mem : ∀ (ds : List Int) (x : Int), lowL ds x ≤ x ∧ ∀ d ∈ ds, lowL ds x ≤ d
  | [], x => by simp [lowL]
  | d :: ds, x => by
    have := low_mem ds (if d < x then d else x)
    have e : lowL (d :: ds) x = lowL ds (if d < x then d else x) := rfl
    rw [e]
    refine ⟨?_, fun y hy => ?_⟩
    · have := this.1; split at this <;> rename_i hc <;> simp only [hc, if_true, if_false] <;> omega
    · rcases List.mem_cons.1 hy with rfl | hy
      · have := this.1; split at this <;> rename_i hc <;> simp only [hc, if_true, if_false] <;> omega
      · exact this.2 y hy
theorem high_mem : ∀ (ds : List Int) (x : Int), x ≤ highL ds x ∧ ∀ d ∈ ds, d ≤ highL ds x
  | [], x => by simp [highL]
  | d :: ds, x => by
    have := high_mem ds (if d > x then d else x)
    have e : highL (d :: ds) x = highL ds (if d > x then d else x) := rfl
    rw [e]
    refine ⟨?_, fun y hy => ?_⟩
    · have := this.1; split at this <;> rename_i hc <;> simp only [hc, if_true, if_false] <;> omega
    · rcases List.mem_cons.1 hy with rfl | hy
      · have := this.1; split at this <;> rename_i hc <;> simp only [hc, if_true, if_false] <;> omega
      · exact this.2 y hy
theorem ref_br (z : Zn) (ss : List Sti) : ∀ (lims : List Lm) (i : Nat), (∀ x ∈ lims, 1 ≤ x.d) → refAll z ss i lims = brAll z ss i lims
  | [], i, _ => rfl
  | x :: xs, i, h => by
    have hx := h x List.mem_cons_self
    unfold refAll brAll
    rw [ref_br z ss xs (i + 1) (fun y hy => h y (List.mem_cons_of_mem _ hy)), refB_rng]
    congr 1
    rw [← keys_rng x.d (by omega) (dvs z ss i) _ _ ?_]
    · have : (fun e => decide (x.most < winSum x.d (dvs z ss i) e)) = fun e => decide (x.most < getM (psOf x.d (dvs z ss i)) e) := by
        funext e; rw [psOf_get _ (by omega)]
      rw [this]
    · intro p hp
      unfold dvs at hp
      obtain ⟨s, hs, rfl⟩ := List.mem_map.1 hp
      have hm : z.day s.a ∈ ss.map fun s => z.day s.a := List.mem_map.2 ⟨s, hs, rfl⟩
      have h1 := (low_mem (ss.map fun s => z.day s.a) (((ss.map fun s => z.day s.a)[0]?).getD 0)).2 _ hm
      have h2 := (high_mem (ss.map fun s => z.day s.a) (((ss.map fun s => z.day s.a)[0]?).getD 0)).2 _ hm
      have e1 : lowL (ss.map fun s => z.day s.a) (((ss.map fun s => z.day s.a)[0]?).getD 0) = lowD z ss := rfl
      have e2 : highL (ss.map fun s => z.day s.a) (((ss.map fun s => z.day s.a)[0]?).getD 0) = highD z ss := rfl
      rw [e1] at h1
      rw [e2] at h2
      dsimp only
      omega
theorem br_nil (z : Zn) : ∀ (lims : List Lm) (i : Nat), brAll z [] i lims = []
  | [], i => rfl
  | x :: xs, i => by
    unfold brAll
    rw [br_nil z xs (i + 1)]
    have : keysOf x.d (dvs z [] i) = [] := rfl
    rw [this]; rfl
theorem lim_ref (z : Zn) (ss : List Sti) (lims : List Lm) (h : ∀ x ∈ lims, 1 ≤ x.d) : refX z ss lims = brAll z ss 0 lims := by
  unfold refX
  split
  · rename_i h0
    rw [List.length_eq_zero_iff.1 h0, br_nil]
  · exact ref_br z ss lims 0 h
end Go.Proofs.YtfenhjpkomldcaaGreat
