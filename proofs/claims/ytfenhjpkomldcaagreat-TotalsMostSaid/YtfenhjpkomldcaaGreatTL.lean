/- The days that stints take. Conditions: none beyond the theorems' own. -/
import Derived.Test.YtfenhjpkomldcaaGreatTK
set_option maxRecDepth 100000
set_option linter.unusedSimpArgs false
set_option linter.unusedVariables false
namespace Go.Proofs.YtfenhjpkomldcaaGreat
open Go Go.Ev
def bools (bs : List Bool) : List T := bs.map T.b
theorem bools_len (bs : List Bool) : (bools bs).length = bs.length := by simp [bools]
theorem splice_bools : ∀ (bs : List Bool) (k : Nat) (x : Bool), k < bs.length → splice (bools bs) k [.b x] = bools (bs.set k x)
  | [], k, x, h => by simp at h
  | d :: ds, 0, x, h => by simp [bools, splice]
  | d :: ds, k + 1, x, h => by
    have := splice_bools ds k x (by simpa using h)
    simp only [bools, List.map_cons, splice, List.set_cons_succ] at this ⊢
    rw [this]
def setR : Nat → Nat → List Bool → List Bool
  | 0, _, bs => bs
  | m + 1, j, bs => setR m (j + 1) (bs.set j true)
theorem setR_len : ∀ (m j : Nat) (bs : List Bool), (setR m j bs).length = bs.length
  | 0, _, _ => rfl
  | m + 1, j, bs => by rw [setR, setR_len]; simp
theorem setR_get : ∀ (m j : Nat) (bs : List Bool) (x : Nat), j + m ≤ bs.length → (setR m j bs)[x]? = if j ≤ x ∧ x < j + m then some true else bs[x]?
  | 0, j, bs, x, h => by rw [if_neg (by omega)]; rfl
  | m + 1, j, bs, x, h => by
    rw [setR, setR_get m (j + 1) _ x (by simp; omega), List.getElem?_set]
    by_cases h1 : j + 1 ≤ x ∧ x < j + 1 + m
    · rw [if_pos h1, if_pos (by omega)]
    · rw [if_neg h1]
      by_cases h2 : j = x
      · subst h2; rw [if_pos rfl, if_pos (by omega), if_pos (by omega)]
      · rw [if_neg h2, if_neg (by omega)]
theorem M3 (bl : List Bool → List Bool) (from_ to_ last : Int) (n : Nat) (hn : to_ - from_ = n) (hf : -10 ≤ from_ ∧ from_ ≤ 100000) (hn2 : n ≤ 1000) (hlast : -100000 ≤ last ∧ last ≤ 100000) (sh : List Ent) (g : Nat) : ∀ (m : Nat) (d : Int) (bs : List Bool) (fr : Fr) (lh : Tri Ent), bs.length = n → from_ ≤ d → (m = (min last (to_ - 1) + 1 - d).toNat) →
    getF fr 3 = .i .i64 from_ → getF fr 4 = .i .i64 to_ → getF fr 11 = .isl .L 31 g 0 n 1 → getF fr 15 = .i .i64 last → getF fr 17 = .i .i64 d → getO lh 31 = ⟨g, .cells (bools bs) 0 false⟩ →
    ∃ fr' lh', DC pE 124 (.loop c77_L3) ⟨fr, lh, sh⟩ = some (.ext 2, ⟨fr', lh', sh⟩) ∧ (getO lh' 31 = ⟨g, .cells (bools (setR m (d - from_).toNat bs)) 0 false⟩ ∧ ∀ j, j ≠ 31 → getO lh' j = getO lh j)
  | 0, d, bs, fr, lh, hb, hd, hm, h3, h4, h11, h15, h17, hO => by
    have w1 : wr .i64 (to_ - 1) = to_ - 1 := wr64 (by omega)
    have hlt : ¬ d ≤ (if to_ - 1 < last then to_ - 1 else last) := by split <;> omega
    rw [DC_loop]
    generalize hK : DC pE 124 (.loop c77_L3) = K
    simp only [DC_seq, DC_skip, DC_exit, DC_region, p_cond, isB_b, isT_b, andThen_nrm, andThen_ext, kv_some, e_nil, o_mv, p_bin, p_mm, mmV, minmax, rd_t, rd_c, get_same, get_ne, bin_sub, bin_leq, Option.map_some, List.map_cons, List.map_nil, Bool.false_eq_true, if_true, if_false, ne_eq, not_false_eq_true, Nat.reduceLT, Nat.reduceEqDiff, decide_false, c77_L3, h4, h15, h17, w1, gt_iff_lt, hlt]
    exact ⟨_, _, rfl, hO, fun j _ => rfl⟩
  | m + 1, d, bs, fr, lh, hb, hd, hm, h3, h4, h11, h15, h17, hO => by
    have w1 : wr .i64 (to_ - 1) = to_ - 1 := wr64 (by omega)
    have hle : d ≤ (if to_ - 1 < last then to_ - 1 else last) := by split <;> omega
    have w2 : wr .i64 (d - from_) = (((d - from_).toNat : Nat) : Int) := by rw [wr64 (by omega)]; omega
    have w3 : wr .i64 (d + 1) = d + 1 := wr64 (by omega)
    have hj : (d - from_).toNat < n := by omega
    have hj1 : (d - from_).toNat + 1 ≤ n := hj
    have hbl : (bools bs).length = n := by rw [bools_len, hb]
    have hsp := splice_bools bs (d - from_).toNat true (by omega)
    have hj2 : (d - from_).toNat + 1 = (d + 1 - from_).toNat := by omega
    rw [DC_loop]
    generalize hK : DC pE 124 (.loop c77_L3) = K
    simp only [DC_seq, DC_skip, DC_exit, DC_region, DC_block, p_cond, isB_b, isT_b, andThen_nrm, outOf_nrm, kv_some, ks_some, e_nil, o_mv, p_bin, p_ia, iaV_isl, p_mm, mmV, minmax, p_st, stV_L, stB_row, rd_t, rd_c, get_same, get_ne, froz_b, cells_b, noTup_b, decide_true, bin_add, bin_sub, bin_leq, Option.map_some, List.map_cons, List.map_nil, List.length_cons, List.length_nil, Bool.false_eq_true, if_true, if_false, ne_eq, not_false_eq_true, and_self, Nat.zero_add, Nat.mul_one, Nat.reduceLT, Nat.reduceEqDiff, decide_true, Nat.zero_le, Int.toNat_natCast, Int.natCast_nonneg, c77_L3, h3, h4, h11, h15, h17, w1, gt_iff_lt, hle, w2, w3, hj, hj1, hO, hbl, hsp]
    rw [← hK]
    refine ex2_mono (M3 bl from_ to_ last n hn hf hn2 hlast sh g m (d + 1) (bs.set (d - from_).toNat true) _ _ (by simpa using hb) (by omega) (by omega) ?_ ?_ ?_ ?_ ?_ ?_) (fun fr' lh' h => ?_)
    all_goals first | (simp only [get_same, get_ne, getO_same, ne_eq, not_false_eq_true, Nat.reduceEqDiff, h3, h4, h11, h15]; done) | skip
    refine ⟨by rw [setR, hj2]; exact h.1, fun j hj => by rw [h.2 j hj]; simp only [getO_ne, ne_eq, not_false_eq_true, hj]⟩
/-- Is a day taken? -/
def busyB (z : Zn) (ss : List Sti) (d : Int) : Bool := ss.any fun s => decide (z.day s.a ≤ d ∧ d ≤ z.day (s.b - 1))
def busyOf (z : Zn) (ss : List Sti) (from_ : Int) (n : Nat) : List Bool := (List.range n).map fun (x : Nat) => busyB z ss (from_ + x)
theorem busyOf_len (z : Zn) (ss : List Sti) (from_ : Int) (n : Nat) : (busyOf z ss from_ n).length = n := by simp [busyOf]
theorem busy_step (z : Zn) (ss : List Sti) (s : Sti) (from_ : Int) (n : Nat) :
    setR (min (z.day (s.b - 1)) (from_ + n - 1) + 1 - max (z.day s.a) from_).toNat (max (z.day s.a) from_ - from_).toNat (busyOf z ss from_ n) = busyOf z (ss ++ [s]) from_ n := by
  have e2 : ∀ d, busyB z (ss ++ [s]) d = (busyB z ss d || decide (z.day s.a ≤ d ∧ d ≤ z.day (s.b - 1))) := fun d => by simp [busyB]
  by_cases hm : (min (z.day (s.b - 1)) (from_ + n - 1) + 1 - max (z.day s.a) from_).toNat = 0
  · rw [hm]
    show busyOf z ss from_ n = _
    unfold busyOf
    refine List.map_congr_left fun x hx => ?_
    have hx' := List.mem_range.1 hx
    rw [e2]
    have hc : ¬ (z.day s.a ≤ from_ + x ∧ from_ + x ≤ z.day (s.b - 1)) := by omega
    simp [hc]
  · refine List.ext_getElem? fun x => ?_
    rw [setR_get _ _ _ _ (by rw [busyOf_len]; omega)]
    by_cases hx : x < n
    · have e1 : ∀ ss', (busyOf z ss' from_ n)[x]? = some (busyB z ss' (from_ + x)) := fun ss' => by simp [busyOf, hx]
      rw [e1, e1, e2]
      by_cases hc : z.day s.a ≤ from_ + x ∧ from_ + x ≤ z.day (s.b - 1)
      · rw [if_pos (by omega)]; simp [hc]
      · rw [if_neg (by omega)]; simp [hc]
    · have e1 : ∀ ss', (busyOf z ss' from_ n)[x]? = none := fun ss' => by simp [busyOf]; omega
      rw [e1, e1, if_neg (by omega)]
theorem M4 (z : Zn) (hz : z.ok) (l : T) (ss : List Sti) (nl : Nat) (hl : IsSl l ss.length (ss.flatMap stC)) (hf : Fit ss nl) (from_ to_ : Int) (n : Nat) (hn : to_ - from_ = n) (hfr : -10 ≤ from_ ∧ from_ ≤ 100000) (hn2 : n ≤ 1000) (sh : List Ent) (g : Nat) : ∀ (m k : Nat) (fr : Fr) (lh : Tri Ent), ss.length - k = m → k ≤ ss.length →
    getF fr 3 = .i .i64 from_ → getF fr 4 = .i .i64 to_ → getF fr 5 = .ptr .L 5 1 0 → getF fr 11 = .isl .L 31 g 0 n 1 → getF fr 32 = l → getF fr 33 = .i .i64 ss.length → getF fr 34 = .i .i64 k →
    getO lh 5 = ⟨1, .cells [.s [108, 111, 99, 97, 108], .i .i64 z.off, shT z.sh] 0 true⟩ → getO lh 31 = ⟨g, .cells (bools (busyOf z (ss.take k) from_ n)) 0 false⟩ →
    ∃ fr' lh', DC pE 124 (.loop c77_L4) ⟨fr, lh, sh⟩ = some (.ext 0, ⟨fr', lh', sh⟩) ∧ (getO lh' 31 = ⟨g, .cells (bools (busyOf z ss from_ n)) 0 false⟩ ∧ ∀ j, j ≠ 31 → j ≠ 13 → getO lh' j = getO lh j)
  | 0, k, fr, lh, hm, hk, h3, h4, h5, h11, h32, h33, h34, hO5, hO31 => by
    have : k = ss.length := by omega
    subst this
    rw [List.take_length] at hO31
    rw [DC_loop]
    generalize hK : DC pE 124 (.loop c77_L4) = K
    simp only [DC_seq, DC_skip, DC_exit, DC_region, p_cond, isB_b, isT_b, andThen_nrm, andThen_ext, kv_some, e_nil, p_bin, rd_t, get_same, bin_lss, Option.map_some, Bool.false_eq_true, if_false, ne_eq, Nat.reduceLT, decide_false, c77_L4, h33, h34, Int.lt_irrefl]
    exact ⟨_, _, rfl, hO31, fun j _ _ => rfl⟩
  | m + 1, k, fr, lh, hm, hk, h3, h4, h5, h11, h32, h33, h34, hO5, hO31 => by
    have hlt : k < ss.length := by omega
    have hlt' : (k : Int) < ss.length := by omega
    have hmem := List.getElem_mem hlt
    have hia : ∀ kk, iaV l (.i kk (k : Int)) 3 = some (.vp (.i .i64 ss[k].a :: .i .i64 ss[k].b :: ss[k].v :: (ss.drop (k + 1)).flatMap stC)) := fun kk => by
      rw [hl.ia (sz := 3) (stC_len ss) hlt, flat_drop (f := stC) (fun _ => rfl) ss k hlt]; rfl
    have h200 := hf.len
    have hw : wr .i64 ((k : Int) + 1) = ((k + 1 : Nat) : Int) := by rw [wr64 (by omega)]; omega
    obtain ⟨ha, hab, hb⟩ := hf.span _ hmem
    have hd1 := day_lt hz ha (show ss[k].a < 52596000 by omega)
    have hd2 := day_lt hz (show 0 ≤ ss[k].b - 1 by omega) (show ss[k].b - 1 < 52596000 by omega)
    have hdays := zdays_ev hz ha hab hb
    unfold Zn.t at hdays
    have hmax : (if z.day ss[k].a < from_ then from_ else z.day ss[k].a) = max (z.day ss[k].a) from_ := by split <;> omega
    have hto : from_ + n - 1 = to_ - 1 := by omega
    have hst := busy_step z (ss.take k) ss[k] from_ n
    rw [hto, ← List.take_succ_eq_append_getElem hlt] at hst
    have hN0 := fun fr1 lh1 => M3 id from_ to_ (z.day (ss[k].b - 1)) n hn hfr hn2 (by omega) sh g (min (z.day (ss[k].b - 1)) (to_ - 1) + 1 - max (z.day ss[k].a) from_).toNat (max (z.day ss[k].a) from_) (busyOf z (ss.take k) from_ n) fr1 lh1 (busyOf_len _ _ _ _) (by omega) rfl
    rw [hst] at hN0
    have hN := fun fr1 lh1 h3 h4 h11 h15 h17 hO => loop_fix2 (hN0 fr1 lh1 h3 h4 h11 h15 h17 hO)
    rw [DC_loop]
    generalize hK : DC pE 124 (.loop c77_L4) = K
    simp (maxDischargeDepth := 6) only [frL_presM, Nat.reduceShiftRight, Nat.reduceMod, DC_seq, DC_skip, DC_exit, DC_region, DC_block, p_cond, isB_b, isT_b, andThen_nrm, outOf_nrm, outOf_ext, kv_some, ks_some, kc_some, e_nil, o_mv, o_alloc, p_bin, p_fa, faV_ptr, p_ia, p_ext, extV_tup, p_mm, mmV, minmax, p_ld, ldV_vp, ldV_L, ldE_cells, p_st, stV_L, stB_box, p_call, setD, rd_t, rd_c, get_same, get_ne, getO_same, getO_ne, froz_agg, froz1_i, froz1_s, cells_agg, noTup_agg, splice, part_t, Nat.reduceAdd, List.all_nil, decide_true, bin_add, bin_lss, Option.bind_some, Option.map_some, List.map_cons, List.map_nil, List.all_cons, List.all_nil, List.length_cons, List.length_nil, List.drop_zero, List.getElem?_cons_zero, List.getElem?_cons_succ, List.take_succ_cons, List.take_zero, Bool.and_self, if_true, ne_eq, not_false_eq_true, and_self, Nat.zero_add, Nat.add_zero, Nat.reduceAdd, Nat.reduceLT, Nat.reduceLeDiff, Nat.reduceEqDiff, decide_true, Nat.le_refl, c77_L4, h3, h4, h5, h11, h32, h33, h34, hlt', hia, hO5, hO31, hdays, dc128, shT_f1, hw, gt_iff_lt, hmax, (hN _ _ _ _ _ _ _ _).1, c77_L3_w]
    rw [← hK]
    refine ex2_mono (M4 z hz l ss nl hl hf from_ to_ n hn hfr hn2 sh g m (k + 1) _ _ (by omega) (by omega) ?_ ?_ ?_ ?_ ?_ ?_ ?_ ?_ ?_) (fun fr' lh' h => ?_)
    all_goals first | (simp (maxDischargeDepth := 6) only [frL_presM, Nat.reduceShiftRight, Nat.reduceMod, get_same, get_ne, getO_ne, ne_eq, not_false_eq_true, Nat.reduceEqDiff, h3, h4, h5, h11, h32, h33, hO5, hO31, (hN _ _ _ _ _ _ _ _).2.1, (hN _ _ _ _ _ _ _ _).2.2, c77_L3_w]; done) | skip
    refine ⟨h.1, fun j h1 h2 => ?_⟩
    rw [h.2 j h1 h2]
    simp (maxDischargeDepth := 6) only [get_same, get_ne, getO_ne, ne_eq, not_false_eq_true, Nat.reduceEqDiff, h3, h4, h11, (hN _ _ _ _ _ _ _ _).2.2, h1, h2, hO31]
end Go.Proofs.YtfenhjpkomldcaaGreat
