/- Stints that are moved by whole days in a zone without shifts have their breaches moved by as many days. Plain lists; conditions: the theorems' own. -/
import Derived.Test.YtfenhjpkomldcaaGreatTQ
set_option linter.unusedSimpArgs false
set_option linter.unusedVariables false
namespace Go.Proofs.YtfenhjpkomldcaaGreat
open Go Go.Ev
def Sti.mv (d : Int) (s : Sti) : Sti := ⟨s.a + 1440 * d, s.b + 1440 * d, s.v, s.xs⟩
theorem day_mv {z : Zn} (hz : z.sh = none) (t d : Int) : z.day (t + 1440 * d) = z.day t + d := by
  unfold Zn.day Zn.at
  rw [hz]
  simp only
  omega
def shM (d : Int) (ps : List (Int × Int)) : List (Int × Int) := ps.map fun p => (p.1 + d, p.2)
theorem getM_sh (d e : Int) : ∀ ps, getM (shM d ps) (e + d) = getM ps e
  | [] => rfl
  | (k, v) :: ps => by
    have ih := getM_sh d e ps
    show (if k + d = e + d then v else getM (shM d ps) (e + d)) = if k = e then v else getM ps e
    by_cases h : k = e
    · rw [if_pos h, if_pos (by omega)]
    · rw [if_neg h, if_neg (by omega), ih]
theorem putM_sh (d e v : Int) : ∀ ps, putM (shM d ps) (e + d) v = shM d (putM ps e v)
  | [] => rfl
  | (k, w) :: ps => by
    have ih := putM_sh d e v ps
    show (if k + d = e + d then (e + d, v) :: shM d ps else (k + d, w) :: putM (shM d ps) (e + d) v) = shM d (if k = e then (e, v) :: ps else (k, w) :: putM ps e v)
    by_cases h : k = e
    · rw [if_pos h, if_pos (by omega)]; rfl
    · rw [if_neg h, if_neg (by omega), ih]; rfl
theorem range_sh (x d : Int) : ∀ (m : Nat) (e : Int) (ps : List (Int × Int)), rangeAdd x m (e + d) (shM d ps) = shM d (rangeAdd x m e ps)
  | 0, e, ps => rfl
  | m + 1, e, ps => by
    rw [rangeAdd, rangeAdd, getM_sh, putM_sh, ← range_sh x d m (e + 1), show e + d + 1 = e + 1 + d by omega]
theorem psOf_sh (D d : Int) (l : List (Int × Int)) : psOf D (shM d l) = shM d (psOf D l) := by
  unfold psOf
  have : ∀ (l ps : List (Int × Int)), (shM d l).foldl (fun ps p => rangeAdd p.2 D.toNat (p.1 - D + 1) ps) (shM d ps) = shM d (l.foldl (fun ps p => rangeAdd p.2 D.toNat (p.1 - D + 1) ps) ps) := by
    intro l
    induction l with
    | nil => intro ps; rfl
    | cons p l ih =>
      intro ps
      show (shM d l).foldl _ (rangeAdd p.2 D.toNat (p.1 + d - D + 1) (shM d ps)) = _
      rw [show p.1 + d - D + 1 = p.1 - D + 1 + d by omega, range_sh]
      exact ih _
  exact this l []
theorem insI_sh (d n : Int) : ∀ l, insI (n + d) (l.map (· + d)) = (insI n l).map (· + d)
  | [] => rfl
  | m :: ms => by
    have ih := insI_sh d n ms
    show (if n + d ≤ m + d then (n + d) :: (m + d) :: ms.map (· + d) else (m + d) :: insI (n + d) (ms.map (· + d))) = (if n ≤ m then n :: m :: ms else m :: insI n ms).map (· + d)
    by_cases h : n ≤ m
    · rw [if_pos h, if_pos (by omega)]; rfl
    · rw [if_neg h, if_neg (by omega), ih]; rfl
theorem sortI_sh (d : Int) : ∀ l, sortI (l.map (· + d)) = (sortI l).map (· + d)
  | [] => rfl
  | n :: ns => by
    show insI (n + d) (sortI (ns.map (· + d))) = (insI n (sortI ns)).map (· + d)
    rw [sortI_sh d ns, insI_sh]
theorem keys_sh (D d : Int) (l : List (Int × Int)) : keysOf D (shM d l) = (keysOf D l).map (· + d) := by
  unfold keysOf
  rw [psOf_sh, ← sortI_sh]
  congr 1
  unfold shM
  rw [List.map_map, List.map_map]
  rfl
theorem dvs_mv {z : Zn} (hz : z.sh = none) (ss : List Sti) (d : Int) (i : Nat) : dvs z (ss.map (Sti.mv d)) i = shM d (dvs z ss i) := by
  unfold dvs shM
  rw [List.map_map, List.map_map]
  refine List.map_congr_left fun s _ => ?_
  show (z.day (s.a + 1440 * d), s.xs.getD i 0) = (z.day s.a + d, s.xs.getD i 0)
  rw [day_mv hz]
theorem br_mv {z : Zn} (hz : z.sh = none) (ss : List Sti) (d : Int) : ∀ (lims : List Lm) (i : Nat), brAll z (ss.map (Sti.mv d)) i lims = (brAll z ss i lims).map fun p => (p.1, p.2 + d)
  | [], i => rfl
  | l :: ls, i => by
    unfold brAll
    rw [List.map_append, br_mv hz ss d ls (i + 1), dvs_mv hz, keys_sh, psOf_sh]
    congr 1
    rw [List.filter_map, List.map_map, List.map_map]
    have : ((fun e => decide (l.most < getM (shM d (psOf l.d (dvs z ss i))) e)) ∘ fun x => x + d) = fun e => decide (l.most < getM (psOf l.d (dvs z ss i)) e) := by
      funext e
      show decide (l.most < getM (shM d (psOf l.d (dvs z ss i))) (e + d)) = _
      rw [getM_sh]
    rw [this]
    rfl
theorem busy_mv {z : Zn} (hz : z.sh = none) (ss : List Sti) (d from_ : Int) (n : Nat) : busyOf z (ss.map (Sti.mv d)) (from_ + d) n = busyOf z ss from_ n := by
  unfold busyOf
  refine List.map_congr_left fun x _ => ?_
  unfold busyB
  rw [List.any_map]
  congr 1
  funext s
  show decide (z.day (s.a + 1440 * d) ≤ from_ + d + x ∧ from_ + d + x ≤ z.day (s.b + 1440 * d - 1)) = _
  rw [show s.b + 1440 * d - 1 = s.b - 1 + 1440 * d by omega, day_mv hz, day_mv hz]
  exact decide_eq_decide.2 ⟨fun h => by omega, fun h => by omega⟩
theorem off_mv (bs : List Bool) (D : Nat) (cnt from_ d : Int) : ∀ (m k : Nat), offL bs D cnt (from_ + d) k m = (offL bs D cnt from_ k m).map (· + d)
  | 0, k => rfl
  | m + 1, k => by
    unfold offL
    rw [List.map_append, off_mv bs D cnt from_ d m (k + 1)]
    congr 1
    split
    · show [from_ + d + k - D + 1] = [from_ + k - D + 1 + d]
      rw [show from_ + d + k - D + 1 = from_ + k - D + 1 + d by omega]
    · rfl
/-- The stints of a list of numbers, moved. -/
theorem mv_good (xs : List Int) (d : Int) (h0 : 0 ≤ d) (h1 : d ≤ 64) : Good ((stAll xs).map (Sti.mv d)) := by
  have h7 : (atV xs 0 % 7).toNat ≤ 6 := by omega
  have hg := gen_good xs (atV xs 0 % 7).toNat 0 12960360 (by omega) (by omega)
  have ha := all_good xs
  unfold stAll at ha ⊢
  refine ⟨fun s hs => ?_, ?_, by simpa using ha.len⟩
  · obtain ⟨s0, hs0, rfl⟩ := List.mem_map.1 hs
    obtain ⟨a1, a2, a3, a4, a5, a6⟩ := hg.1 s0 hs0
    exact ⟨by show 0 ≤ s0.a + 1440 * d; omega, by show s0.a + 1440 * d < s0.b + 1440 * d; omega, by show s0.b + 1440 * d ≤ 52596000; omega, a4, a5, a6⟩
  · rw [List.pairwise_map]
    exact hg.2.imp (fun {s s'} h => by show s.b + 1440 * d ≤ s'.a + 1440 * d; omega)
/-- The breaches as records. -/
def toL (p : Int × Int) : Br := ⟨false, p.1, p.2⟩
def toO (d : Int) : Br := ⟨true, 0, d⟩
theorem toL_cells (l : List (Int × Int)) : l.flatMap brT = (l.map toL).flatMap bC := by rw [List.flatMap_map]; rfl
theorem toO_cells (l : List Int) : l.flatMap (ofC 0) = (l.map toO).flatMap bC := by rw [List.flatMap_map]; rfl
def Br.mv (d : Int) (b : Br) : Br := ⟨b.off, b.i, b.d + d⟩
theorem toL_mv (d : Int) (l : List (Int × Int)) : (l.map fun p => (p.1, p.2 + d)).map toL = (l.map toL).map (Br.mv d) := by rw [List.map_map, List.map_map]; rfl
theorem toO_mv (d : Int) (l : List Int) : (l.map (· + d)).map toO = (l.map toO).map (Br.mv d) := by rw [List.map_map, List.map_map]; rfl
/-- Every day lies near. -/
def Near (bs : List Br) : Prop := ∀ b ∈ bs, -1000000 ≤ b.d ∧ b.d ≤ 1000000
theorem near_L {z : Zn} (hz : z.ok) {ss : List Sti} (hg : Good ss) (lims : List Lm) (hd : ∀ l ∈ lims, 1 ≤ l.d ∧ l.d ≤ 31) : ∀ i, Near ((brAll z ss i lims).map toL) := by
  induction lims with
  | nil => intro i b hb; simp [brAll] at hb
  | cons l ls ih =>
    intro i b hb
    unfold brAll at hb
    rw [List.map_append, List.mem_append] at hb
    rcases hb with hb | hb
    · obtain ⟨p, hp, rfl⟩ := List.mem_map.1 hb
      obtain ⟨e, he, rfl⟩ := List.mem_map.1 hp
      have hk := (List.mem_filter.1 he).1
      unfold keysOf at hk
      have hd1 := hd l List.mem_cons_self
      rw [(sortI_perm _).mem_iff, psOf_keys _ (by omega)] at hk
      obtain ⟨q, hq, h1, h2⟩ := hk
      unfold dvs at hq
      obtain ⟨s, hs, rfl⟩ := List.mem_map.1 hq
      obtain ⟨a1, a2, a3, _⟩ := hg.all s hs
      have := day_lt hz a1 (by omega : s.a < 52596000)
      show -1000000 ≤ e ∧ e ≤ 1000000
      dsimp only at h1 h2
      omega
    · exact ih (fun l hl => hd l (List.mem_cons_of_mem _ hl)) (i + 1) b hb
theorem near_O (bs : List Bool) (D : Nat) (hD : D ≤ 31) (cnt from_ : Int) (hf : -1000 ≤ from_ ∧ from_ ≤ 100000) : ∀ (m k : Nat), k + m ≤ 1000 → Near ((offL bs D cnt from_ k m).map toO)
  | 0, k, _ => by intro b hb; simp [offL] at hb
  | m + 1, k, h => by
    intro b hb
    unfold offL at hb
    rw [List.map_append, List.mem_append] at hb
    rcases hb with hb | hb
    · split at hb
      · simp at hb; subst hb
        show -1000000 ≤ from_ + k - D + 1 ∧ from_ + k - D + 1 ≤ 1000000
        omega
      · simp at hb
    · exact near_O bs D hD cnt from_ hf m (k + 1) (by omega) b hb
end Go.Proofs.YtfenhjpkomldcaaGreat
