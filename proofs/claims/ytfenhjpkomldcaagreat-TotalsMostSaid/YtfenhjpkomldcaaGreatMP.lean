/- TotalsMost: sums, and the plain law. Conditions: the theorems' own. -/
import Derived.Test.YtfenhjpkomldcaaGreatTQ
set_option maxRecDepth 100000
set_option linter.unusedSimpArgs false
set_option linter.unusedVariables false
namespace Go.Proofs.YtfenhjpkomldcaaGreat
open Go Go.Ev
/-- The sum of the first values. -/
def sumV : List Sti → Int
  | [] => 0
  | s :: ss => s.xs.getD 0 0 + sumV ss
theorem sumV_take (ss : List Sti) (k : Nat) (h : k < ss.length) : sumV (ss.take (k + 1)) = sumV (ss.take k) + ss[k].xs.getD 0 0 := by
  induction ss generalizing k with
  | nil => simp at h
  | cons s ss ih =>
    cases k with
    | zero => simp [sumV]
    | succ k =>
      have := ih k (by simpa using h)
      simp only [List.take_succ_cons, sumV, List.getElem_cons_succ] at this ⊢
      omega
theorem good_x {ss : List Sti} (hg : Good ss) {s : Sti} (h : s ∈ ss) (i : Nat) : 0 ≤ s.xs.getD i 0 ∧ s.xs.getD i 0 ≤ 511 := by
  obtain ⟨_, _, _, h4, h5, _⟩ := hg.all s h
  rw [List.getD_eq_getElem?_getD]
  by_cases hi : i < s.xs.length
  · rw [List.getElem?_eq_getElem hi, Option.getD_some]
    exact h5 _ (List.getElem_mem hi)
  · rw [List.getElem?_eq_none (by omega), Option.getD_none]; omega
theorem sumV_le : ∀ (ss : List Sti), (∀ s ∈ ss, 0 ≤ s.xs.getD 0 0 ∧ s.xs.getD 0 0 ≤ 511) → 0 ≤ sumV ss ∧ sumV ss ≤ 511 * ss.length
  | [], _ => by simp [sumV]
  | s :: ss, h => by
    have h1 := sumV_le ss (fun t ht => h t (List.mem_cons_of_mem _ ht))
    have h2 := h s List.mem_cons_self
    simp only [sumV, List.length_cons]
    omega
theorem win_le (z : Zn) (D d : Int) : ∀ (ss : List Sti), (∀ s ∈ ss, 0 ≤ s.xs.getD 0 0) → winSum D (dvs z ss 0) d ≤ sumV ss
  | [], _ => by simp [dvs, winSum, sumV]
  | s :: ss, h => by
    have h1 := win_le z D d ss (fun t ht => h t (List.mem_cons_of_mem _ ht))
    have h2 := h s List.mem_cons_self
    have e : dvs z (s :: ss) 0 = (z.day s.a, s.xs.getD 0 0) :: dvs z ss 0 := rfl
    rw [e, win_cons]
    unfold sumV
    dsimp only
    split <;> omega
theorem win_ge (z : Zn) (D : Int) (hD : 1 ≤ D) (s : Sti) (ss : List Sti) (h : ∀ t ∈ ss, 0 ≤ t.xs.getD 0 0) : s.xs.getD 0 0 ≤ winSum D (dvs z (s :: ss) 0) (z.day s.a) := by
  have e : dvs z (s :: ss) 0 = (z.day s.a, s.xs.getD 0 0) :: dvs z ss 0 := rfl
  rw [e, win_cons]
  have h0 : ∀ (ss : List Sti) (d : Int), (∀ t ∈ ss, 0 ≤ t.xs.getD 0 0) → 0 ≤ winSum D (dvs z ss 0) d := by
    intro ss d
    induction ss with
    | nil => intro _; simp [dvs, winSum]
    | cons t ss ih =>
      intro h
      have e : dvs z (t :: ss) 0 = (z.day t.a, t.xs.getD 0 0) :: dvs z ss 0 := rfl
      rw [e, win_cons]
      have h1 := ih (fun t ht => h t (List.mem_cons_of_mem _ ht))
      have h2 := h t List.mem_cons_self
      dsimp only
      split <;> omega
  have := h0 ss (z.day s.a) h
  dsimp only
  rw [if_pos (by omega)]
  omega
/-- A limit that is the sum of all is never broken. -/
theorem no_zero (z : Zn) (ss : List Sti) (hg : Good ss) (nm ms : T) (d0 : Int) (h0 : 0 ≤ d0) (l1 : Lm) : ∀ p ∈ brAll z ss 0 [⟨nm, ms, sumV ss, d0⟩, l1], p.1 ≠ 0 := by
  intro p hp
  unfold brAll at hp
  rcases List.mem_append.1 hp with hp | hp
  · exfalso
    simp only [List.mem_map, List.mem_filter, decide_eq_true_eq] at hp
    obtain ⟨d, ⟨_, h2⟩, _⟩ := hp
    rw [psOf_get _ h0] at h2
    have := win_le z d0 d ss (fun s hs => (good_x hg hs 0).1)
    omega
  · unfold brAll at hp
    rcases List.mem_append.1 hp with hp | hp
    · simp only [List.mem_map] at hp
      obtain ⟨d, _, rfl⟩ := hp
      show ((0 + 1 : Nat) : Int) ≠ 0
      omega
    · simp [brAll] at hp
/-- A limit below a single value is broken. -/
theorem some_zero (z : Zn) (s : Sti) (ss : List Sti) (hg : Good (s :: ss)) (nm ms : T) (d0 : Int) (h0 : 1 ≤ d0) (l1 : Lm) : ∃ d ps, brAll z (s :: ss) 0 [⟨nm, ms, s.xs.getD 0 0 - 1, d0⟩, l1] = (0, d) :: ps := by
  have hm : z.day s.a ∈ (keysOf d0 (dvs z (s :: ss) 0)).filter fun d => decide (s.xs.getD 0 0 - 1 < getM (psOf d0 (dvs z (s :: ss) 0)) d) := by
    rw [List.mem_filter]
    refine ⟨?_, ?_⟩
    · unfold keysOf
      rw [(sortI_perm _).mem_iff, psOf_keys _ (by omega)]
      exact ⟨(z.day s.a, s.xs.getD 0 0), by unfold dvs; exact List.mem_cons_self, by dsimp only; omega, by dsimp only; omega⟩
    · rw [psOf_get _ (by omega)]
      have := win_ge z d0 h0 s ss (fun t ht => (good_x hg (List.mem_cons_of_mem _ ht) 0).1)
      simp only [decide_eq_true_eq]
      omega
  unfold brAll
  dsimp only
  cases hf : (keysOf d0 (dvs z (s :: ss) 0)).filter fun d => decide (s.xs.getD 0 0 - 1 < getM (psOf d0 (dvs z (s :: ss) 0)) d) with
  | nil => rw [hf] at hm; simp at hm
  | cons d ds => exact ⟨d, ds.map (fun d => (((0 : Nat) : Int), d)) ++ brAll z (s :: ss) (0 + 1) [l1], rfl⟩
theorem SU (l : T) (ss : List Sti) (hl : IsSl l ss.length (ss.flatMap stC)) (hg : Good ss) (lh : Tri Ent) (sh : List Ent) : ∀ (m k : Nat) (fr : Fr), ss.length - k = m → k ≤ ss.length →
    getF fr 0 = l → getF fr 1 = .i .i64 0 → getF fr 5 = .i .i64 (sumV (ss.take k)) → getF fr 6 = .i .i64 (k : Int) →
    ∃ fr', DC pE 24 (.loop c37_L1) ⟨fr, lh, sh⟩ = some (.ext 0, ⟨fr', lh, sh⟩) ∧ getF fr' 5 = .i .i64 (sumV ss)
  | 0, k, fr, hm, hk, h0, h1, h5, h6 => by
    have : k = ss.length := by omega
    subst this
    rw [List.take_length] at h5
    rw [DC_loop]
    generalize hK : DC pE 24 (.loop c37_L1) = K
    simp only [DC_seq, DC_skip, DC_exit, DC_region, p_cond, isB_b, isT_b, andThen_nrm, andThen_ext, kv_some, e_nil, o_mv, p_bin, p_lenV, rd_t, get_same, get_ne, bin_lss, Option.map_some, Bool.false_eq_true, if_false, reduceCtorEq, ne_eq, not_false_eq_true, Nat.reduceLT, Nat.reduceEqDiff, decide_false, c37_L1, h0, h6, hl.lenI, Int.lt_irrefl]
    exact ⟨_, rfl, by simp only [get_ne, ne_eq, not_false_eq_true, Nat.reduceEqDiff, h5]⟩
  | m + 1, k, fr, hm, hk, h0, h1, h5, h6 => by
    have hlt : k < ss.length := by omega
    have hlt' : (k : Int) < ss.length := by omega
    have hia : ∀ kk, iaV l (.i kk (k : Int)) 3 = some (.vp (.i .i64 ss[k].a :: .i .i64 ss[k].b :: ss[k].v :: (ss.drop (k + 1)).flatMap stC)) := fun kk => by
      rw [hl.ia (sz := 3) (stC_len ss) hlt, flat_drop (f := stC) (fun _ => rfl) ss k hlt]; rfl
    obtain ⟨_, _, _, a4, _, a6⟩ := hg.all ss[k] (List.getElem_mem hlt)
    have h0l : 0 < ss[k].xs.length := by omega
    have hx : ss[k].xs[0] = ss[k].xs.getD 0 0 := by rw [List.getD_eq_getElem?_getD, List.getElem?_eq_getElem h0l]; rfl
    have hiv : ∀ kk, iaV ss[k].v (.i kk 0) 1 = some (.vp (T.i .i64 (ss[k].xs.getD 0 0) :: (ints ss[k].xs).drop 1)) := fun kk => by
      have := a6.1.ia (kk := kk) (sz := 1) (k := 0) (by rw [ints_len]; omega) h0l
      rw [Nat.zero_mul, ints_drop ss[k].xs 0 h0l, hx] at this
      exact this
    have h6' := hg.len
    have hw : wr .i64 ((k : Int) + 1) = ((k + 1 : Nat) : Int) := by rw [wr64 (by omega)]; omega
    have hs := sumV_le (ss.take k) (fun s hs => good_x hg (List.mem_of_mem_take hs) 0)
    have hv := good_x hg (List.getElem_mem hlt) 0
    have htl : (ss.take k).length ≤ 6 := by rw [List.length_take]; omega
    have hw2 : wr .i64 (sumV (ss.take k) + ss[k].xs.getD 0 0) = sumV (ss.take (k + 1)) := by rw [wr64 (by omega), sumV_take ss k hlt]
    rw [DC_loop]
    generalize hK : DC pE 24 (.loop c37_L1) = K
    simp only [DC_seq, DC_skip, DC_exit, DC_region, DC_block, p_cond, isB_b, isT_b, andThen_nrm, outOf_nrm, kv_some, e_nil, o_mv, p_bin, p_fa, faV_vp, p_ia, p_lenV, p_ld, ldV_vp, rd_t, rd_c, get_same, get_ne, part_f, decide_true, bin_add, bin_lss, Option.map_some, List.length_cons, List.drop_zero, List.getElem?_cons_zero, List.drop_succ_cons, if_true, reduceCtorEq, ne_eq, not_false_eq_true, Nat.reduceLT, Nat.reduceLeDiff, Nat.reduceEqDiff, decide_true, c37_L1, h0, h1, h5, h6, hl.lenI, hlt', hia, hiv, hw, hw2]
    rw [← hK]
    refine SU l ss hl hg lh sh m (k + 1) _ (by omega) (by omega) ?_ ?_ ?_ ?_ <;> simp only [get_same, get_ne, reduceCtorEq, ne_eq, not_false_eq_true, Nat.reduceEqDiff, h0, h1]
theorem sum_ev (l : T) (ss : List Sti) (hl : IsSl l ss.length (ss.flatMap stC)) (hg : Good ss) : DCall pE 37 [l, .i .i64 0] [] = some (.i .i64 (sumV ss), []) := by
  rw [p_fun fn37 (by simp [c37])]
  have hS := fun fr lh sh h0 h1 (h5 : getF fr 5 = .i .i64 0) (h6 : getF fr 6 = .i .i64 0) => loop_fix (SU l ss hl hg lh sh ss.length 0 fr (by omega) (by omega) h0 h1 h5 h6)
  simp (maxDischargeDepth := 6) only [DC_seq, DC_ret, DC_region, DC_block, andThen_nrm, outOf_ext, endR_ret, e_nil, o_mv, rd_t, rd_c, get_same, get_ne, resV, ansV_gen, froz_i, frOf, frFrom, fzV_froz, ups_nil, Option.bind_some, Option.map_some, if_true, reduceCtorEq, ne_eq, not_false_eq_true, Nat.zero_add, Nat.reduceLT, Nat.reduceEqDiff, c37, (hS _ _ _ _ _ _ _).1, (hS _ _ _ _ _ _ _).2]
end Go.Proofs.YtfenhjpkomldcaaGreat
