/- Days off. Conditions: none beyond the theorems' own. -/
import Derived.Test.YtfenhjpkomldcaaGreatTL
set_option maxRecDepth 100000
set_option linter.unusedSimpArgs false
set_option linter.unusedVariables false
namespace Go.Proofs.YtfenhjpkomldcaaGreat
open Go Go.Ev
/-- How many of the first k days are free. -/
def freeTo (bs : List Bool) : Nat → Int
  | 0 => 0
  | k + 1 => freeTo bs k + if bs.getD k true = false then 1 else 0
theorem freeTo_le (bs : List Bool) : ∀ k, 0 ≤ freeTo bs k ∧ freeTo bs k ≤ k
  | 0 => by simp [freeTo]
  | k + 1 => by have := freeTo_le bs k; unfold freeTo; split <;> omega
/-- The days at which free days are missing, from the k-th day on. -/
def offL (bs : List Bool) (D : Nat) (cnt from_ : Int) : Nat → Nat → List Int
  | _, 0 => []
  | k, m + 1 => (if D ≤ k + 1 ∧ freeTo bs (k + 1) - freeTo bs (k + 1 - D) < cnt then [from_ + k - D + 1] else []) ++ offL bs D cnt from_ (k + 1) m
def ofC (i d : Int) : List T := [.b true, .i .i64 i, .i .i64 d]
set_option maxHeartbeats 4000000 in
theorem M1 (bs : List Bool) (n : Nat) (hb : bs.length = n) (hn : n ≤ 1000) (D : Nat) (hD : 1 ≤ D ∧ D ≤ 31) (cnt from_ i : Int) (hfr : -10 ≤ from_ ∧ from_ ≤ 100000) (nm : T) (sh : List Ent) (g g20 : Nat) : ∀ (m k c : Nat) (cs : List T) (fr : Fr) (lh : Tri Ent), n - k = m → k ≤ n → c ≤ k →
    getF fr 3 = .i .i64 from_ → getF fr 11 = .isl .L 31 g 0 n 1 → getF fr 19 = .i .i64 i → getF fr 20 = .ptr .L 20 g20 0 → getF fr 21 = .i .i64 (freeTo bs k - freeTo bs (k - D)) → getF fr 71 = .isl .L 31 g 0 n 1 → getF fr 72 = .i .i64 n → getF fr 73 = .i .i64 k →
    getO lh 31 = ⟨g, .cells (bools bs) 0 false⟩ → getO lh 20 = ⟨g20, .cells [nm, .i .i64 cnt, .i .i64 (D : Int)] 0 true⟩ → OutS lh (getF fr 18) 120 3 c cs →
    ∃ fr' lh', DC pE 124 (.loop c77_L1) ⟨fr, lh, sh⟩ = some (.ext 6, ⟨fr', lh', sh⟩) ∧ OutS lh' (getF fr' 18) 120 3 (c + (offL bs D cnt from_ k m).length) (cs ++ (offL bs D cnt from_ k m).flatMap (ofC i))
  | 0, k, c, cs, fr, lh, hm, hk, hc, h3, h11, h19, h20, h21, h71, h72, h73, hO31, hO20, hs => by
    have : k = n := by omega
    subst this
    rw [DC_loop]
    generalize hK : DC pE 124 (.loop c77_L1) = K
    simp only [DC_seq, DC_skip, DC_exit, DC_region, p_cond, isB_b, isT_b, andThen_nrm, andThen_ext, kv_some, e_nil, p_bin, rd_t, get_same, bin_lss, Option.map_some, Bool.false_eq_true, if_false, Nat.reduceLT, decide_false, c77_L1, h72, h73, Int.lt_irrefl]
    exact ⟨_, _, rfl, by simpa [offL, get_ne] using hs⟩
  | m + 1, k, c, cs, fr, lh, hm, hk, hc, h3, h11, h19, h20, h21, h71, h72, h73, hO31, hO20, hs => by
    have hlt : k < n := by omega
    have hlt' : (k : Int) < n := by omega
    have hget : (bools bs)[k]? = some (.b (bs.getD k true)) := by simp [bools, List.getD_eq_getElem?_getD, hb, hlt]
    have hw : wr .i64 ((k : Int) + 1) = ((k + 1 : Nat) : Int) := by rw [wr64 (by omega)]; omega
    have hf1 := freeTo_le bs k
    have hf2 := freeTo_le bs (k - D)
    have e1 : freeTo bs (k + 1) = freeTo bs k + if bs.getD k true = false then 1 else 0 := rfl
    have w1 : wr .i64 (freeTo bs k - freeTo bs (k - D) + 1) = freeTo bs k - freeTo bs (k - D) + 1 := wr64 (by omega)
    have w5 : wr .i64 ((D : Int) - 1) = (D : Int) - 1 := wr64 (by omega)
    have w6 : wr .i64 (from_ + (k : Int)) = from_ + k := wr64 (by omega)
    have w7 : wr .i64 (from_ + (k : Int) - D) = from_ + k - D := wr64 (by omega)
    have w8 : wr .i64 (from_ + (k : Int) - D + 1) = from_ + k - D + 1 := wr64 (by omega)
    have hbig : (c + 1) * 24 ≤ 1099511627776 := by omega
    have hol : offL bs D cnt from_ k (m + 1) = (if D ≤ k + 1 ∧ freeTo bs (k + 1) - freeTo bs (k + 1 - D) < cnt then [from_ + k - D + 1] else []) ++ offL bs D cnt from_ (k + 1) m := rfl
    generalize hL : offL bs D cnt from_ (k + 1) m = L at hol
    generalize hf0 : freeTo bs k - freeTo bs (k - D) = f0 at *
    have w2 : wr .i64 (f0 - 1) = f0 - 1 := wr64 (by omega)
    have w3 : wr .i64 (f0 + 1 - 1) = f0 + 1 - 1 := wr64 (by omega)
    rw [DC_loop, hol]
    generalize hK : DC pE 124 (.loop c77_L1) = K
    by_cases hkD : D ≤ k
    · have hkD' : (D : Int) ≤ (k : Int) := by omega
      have hkD2 : (D : Int) - 1 ≤ (k : Int) := by omega
      have hDk : D ≤ k + 1 := by omega
      have w4 : wr .i64 ((k : Int) - (D : Int)) = ((k - D : Nat) : Int) := by rw [wr64 (by omega)]; omega
      have hlt2 : k - D < n := by omega
      have hget2 : (bools bs)[k - D]? = some (.b (bs.getD (k - D) true)) := by simp [bools, List.getD_eq_getElem?_getD, hb, hlt2]
      have e2 : freeTo bs (k + 1 - D) = freeTo bs (k - D) + if bs.getD (k - D) true = false then 1 else 0 := by rw [show k + 1 - D = k - D + 1 by omega]; rfl
      cases hb1 : bs.getD k true <;> cases hb2 : bs.getD (k - D) true
      · have hF : f0 + 1 - 1 = freeTo bs (k + 1) - freeTo bs (k + 1 - D) := by rw [e1, e2, hb1, hb2, ← hf0]; simp; try omega
        by_cases hbr : freeTo bs (k + 1) - freeTo bs (k + 1 - D) < cnt
        · have hbr' : f0 + 1 - 1 < cnt := by rw [hF]; exact hbr
          rcases hs with ⟨h0, h18, hc0⟩ | ⟨gg, wm, h18, hO, hc0, hpos⟩
          · subst hc0
            simp only [DC_seq, DC_skip, DC_exit, DC_region, DC_block, p_cond, isB_b, isT_b, andThen_nrm, outOf_nrm, map_ite, kv_some, ka_some, kc_some, e_nil, o_mv, p_pick, pickV_b, p_bin, p_un, p_build, buildV, p_fa, faV_ptr, p_ia, iaV_isl, p_ld, ldV_L, ldE_cells, p_app, appW, slC_sl, appV_nil, notS_nilsl, p_bsl, bslV, g_passT, setD, rd_t, rd_c, get_same, get_ne, bslW, froz_agg, froz1_b, froz1_i, fzV_froz, fzL_nil, fzL_cons, ups_nil, cells_agg, cells_b, cells_i, noTup_agg, noTup_b, noTup_i, splice, part_f, fills, repl, Nat.reduceAdd, List.all_nil, decide_true, bin_add, bin_sub, bin_lss, bin_geq, un_not, Option.bind_some, Option.map_some, Option.map_none, List.map_cons, List.map_nil, List.all_cons, List.all_nil, List.length_cons, List.length_nil, List.append_nil, List.nil_append, List.cons_append, List.getElem?_cons_zero, List.getElem?_cons_succ, List.zip_cons_cons, List.zip_nil_left, Bool.and_self, Bool.not_false, if_true, ne_eq, not_false_eq_true, and_self, Nat.zero_add, Nat.mul_one, Nat.one_mul, Nat.zero_mul, Nat.reduceAdd, Nat.reduceLT, Nat.reduceLeDiff, Nat.reduceEqDiff, decide_true, Nat.le_refl, Int.toNat_natCast, Int.natCast_nonneg, c77_L1, h3, h11, h19, h20, h21, h71, h72, h73, hlt, hlt', hget, hO31, hO20, hw, w1, w3, w5, w6, w7, w8, roomy, hkD', hkD2, w4, hlt2, hget2, hb1, hb2, h18, hbr', hbr, hDk]
            rw [← hK, ← hL]
            refine ex2_mono (M1 bs n hb hn D hD cnt from_ i hfr nm sh g g20 m (k + 1) 1 (ofC i (from_ + k - D + 1)) _ _ (by omega) (by omega) (by omega) ?_ ?_ ?_ ?_ ?_ ?_ ?_ ?_ ?_ ?_ ?_) (fun fr' lh' h => ?_)
            all_goals first | (simp only [get_same, get_ne, getO_ne, ne_eq, not_false_eq_true, Nat.reduceEqDiff, h3, h11, h19, h20, h71, h72, hO31, hO20, hF]; done) | skip
            · refine Or.inr ⟨(getO lh 120).g + 1, 0, by simp only [get_same, get_ne, ne_eq, not_false_eq_true, Nat.reduceEqDiff], by simp only [getO_same]; rfl, rfl, by omega⟩
            · rw [h0]; simpa [Nat.add_comm, List.flatMap_cons] using h
          · have hc' : c * 3 = cs.length := hc0.symm
            simp only [DC_seq, DC_skip, DC_exit, DC_region, DC_block, p_cond, isB_b, isT_b, andThen_nrm, outOf_nrm, map_ite, kv_some, ka_some, kc_some, e_nil, o_mv, p_pick, pickV_b, p_bin, p_un, p_build, buildV, p_fa, faV_ptr, p_ia, iaV_isl, p_ld, ldV_L, ldE_cells, p_app, appW, slC_sl, appE_cells, appV_isl, notS_isl, p_bsl, bslV, g_passT, setD, rd_t, rd_c, get_same, get_ne, bslW, froz_agg, froz1_b, froz1_i, fzV_froz, fzL_nil, fzL_cons, ups_nil, cells_agg, cells_b, cells_i, noTup_agg, noTup_b, noTup_i, splice, part_f, fills, repl, Nat.reduceAdd, List.all_nil, decide_true, bin_add, bin_sub, bin_lss, bin_geq, un_not, Option.bind_some, Option.map_some, Option.map_none, List.map_cons, List.map_nil, List.all_cons, List.all_nil, List.length_cons, List.length_nil, List.append_nil, List.nil_append, List.cons_append, List.getElem?_cons_zero, List.getElem?_cons_succ, List.zip_cons_cons, List.zip_nil_left, Bool.and_self, Bool.not_false, if_true, ne_eq, not_false_eq_true, and_self, Nat.zero_add, Nat.mul_one, Nat.one_mul, Nat.zero_mul, Nat.reduceAdd, Nat.reduceLT, Nat.reduceLeDiff, Nat.reduceEqDiff, decide_true, Nat.le_refl, Int.toNat_natCast, Int.natCast_nonneg, c77_L1, h3, h11, h19, h20, h21, h71, h72, h73, hlt, hlt', hget, hO31, hO20, hw, w1, w3, w5, w6, w7, w8, roomy, hkD', hkD2, w4, hlt2, hget2, hb1, hb2, h18, hO, hc', hbig, hbr', hbr, hDk]
            rw [← hK, ← hL]
            refine ex2_mono (M1 bs n hb hn D hD cnt from_ i hfr nm sh g g20 m (k + 1) (c + 1) (cs ++ ofC i (from_ + k - D + 1)) _ _ (by omega) (by omega) (by omega) ?_ ?_ ?_ ?_ ?_ ?_ ?_ ?_ ?_ ?_ ?_) (fun fr' lh' h => ?_)
            all_goals first | (simp only [get_same, get_ne, getO_ne, ne_eq, not_false_eq_true, Nat.reduceEqDiff, h3, h11, h19, h20, h71, h72, hO31, hO20, hF]; done) | skip
            · refine Or.inr ⟨gg + 1, wm, by simp only [get_same, get_ne, ne_eq, not_false_eq_true, Nat.reduceEqDiff], by simp only [getO_same]; rfl, by simp [ofC, hc0]; omega, by omega⟩
            · rw [List.flatMap_cons, ← List.append_assoc, show c + ((offL bs D cnt from_ (k + 1) m).length + 1) = c + 1 + (offL bs D cnt from_ (k + 1) m).length by omega]; exact h
        · have hbr' : ¬ f0 + 1 - 1 < cnt := by rw [hF]; exact hbr
          simp only [DC_seq, DC_skip, DC_exit, DC_region, DC_block, p_cond, isB_b, isT_b, andThen_nrm, outOf_nrm, map_ite, kv_some, kc_some, e_nil, o_mv, p_pick, pickV_b, p_bin, p_un, p_build, buildV, p_fa, faV_ptr, p_ia, iaV_isl, p_ld, ldV_L, ldE_cells, p_bsl, bslV, g_passT, setD, rd_t, rd_c, get_same, get_ne, bslW, froz_agg, froz1_b, froz1_i, fzV_froz, fzL_nil, fzL_cons, ups_nil, cells_agg, cells_b, cells_i, noTup_agg, noTup_b, noTup_i, splice, part_f, fills, repl, Nat.reduceAdd, List.all_nil, decide_true, bin_add, bin_sub, bin_lss, bin_geq, un_not, Option.bind_some, Option.map_some, Option.map_none, List.map_cons, List.map_nil, List.all_cons, List.all_nil, List.length_cons, List.length_nil, List.append_nil, List.nil_append, List.getElem?_cons_zero, List.getElem?_cons_succ, List.zip_cons_cons, List.zip_nil_left, Bool.and_self, Bool.not_false, Bool.false_eq_true, if_true, if_false, ite_self, ne_eq, not_false_eq_true, and_self, and_false, Nat.zero_add, Nat.mul_one, Nat.zero_mul, Nat.reduceAdd, Nat.reduceLT, Nat.reduceLeDiff, Nat.reduceEqDiff, decide_true, decide_false, Nat.le_refl, Int.toNat_natCast, Int.natCast_nonneg, c77_L1, h3, h11, h19, h20, h21, h71, h72, h73, hlt, hlt', hget, hO31, hO20, hw, w1, w3, w5, w6, w7, w8, hkD', hkD2, w4, hlt2, hget2, hb1, hb2, hbr', hbr, hDk]
          rw [← hK, ← hL]
          refine ex2_mono (M1 bs n hb hn D hD cnt from_ i hfr nm sh g g20 m (k + 1) c cs _ _ (by omega) (by omega) (by omega) ?_ ?_ ?_ ?_ ?_ ?_ ?_ ?_ ?_ ?_ ?_) (fun fr' lh' h => ?_)
          all_goals first | (simp only [get_same, get_ne, ne_eq, not_false_eq_true, Nat.reduceEqDiff, h3, h11, h19, h20, h71, h72, hO31, hO20, hF]; done) | skip
          · simpa [get_ne] using hs
          · simpa using h
      · have hF : f0 + 1 = freeTo bs (k + 1) - freeTo bs (k + 1 - D) := by rw [e1, e2, hb1, hb2, ← hf0]; simp; try omega
        by_cases hbr : freeTo bs (k + 1) - freeTo bs (k + 1 - D) < cnt
        · have hbr' : f0 + 1 < cnt := by rw [hF]; exact hbr
          rcases hs with ⟨h0, h18, hc0⟩ | ⟨gg, wm, h18, hO, hc0, hpos⟩
          · subst hc0
            simp only [DC_seq, DC_skip, DC_exit, DC_region, DC_block, p_cond, isB_b, isT_b, andThen_nrm, outOf_nrm, map_ite, kv_some, ka_some, kc_some, e_nil, o_mv, p_pick, pickV_b, p_bin, p_un, p_build, buildV, p_fa, faV_ptr, p_ia, iaV_isl, p_ld, ldV_L, ldE_cells, p_app, appW, slC_sl, appV_nil, notS_nilsl, p_bsl, bslV, g_passT, setD, rd_t, rd_c, get_same, get_ne, bslW, froz_agg, froz1_b, froz1_i, fzV_froz, fzL_nil, fzL_cons, ups_nil, cells_agg, cells_b, cells_i, noTup_agg, noTup_b, noTup_i, splice, part_f, fills, repl, Nat.reduceAdd, List.all_nil, decide_true, bin_add, bin_sub, bin_lss, bin_geq, un_not, Option.bind_some, Option.map_some, Option.map_none, List.map_cons, List.map_nil, List.all_cons, List.all_nil, List.length_cons, List.length_nil, List.append_nil, List.nil_append, List.cons_append, List.getElem?_cons_zero, List.getElem?_cons_succ, List.zip_cons_cons, List.zip_nil_left, Bool.and_self, Bool.not_true, Bool.not_false, Bool.false_eq_true, if_true, if_false, ite_self, ne_eq, not_false_eq_true, and_self, Nat.zero_add, Nat.mul_one, Nat.one_mul, Nat.zero_mul, Nat.reduceAdd, Nat.reduceLT, Nat.reduceLeDiff, Nat.reduceEqDiff, decide_true, Nat.le_refl, Int.toNat_natCast, Int.natCast_nonneg, c77_L1, h3, h11, h19, h20, h21, h71, h72, h73, hlt, hlt', hget, hO31, hO20, hw, w1, w3, w5, w6, w7, w8, roomy, hkD', hkD2, w4, hlt2, hget2, hb1, hb2, h18, hbr', hbr, hDk]
            rw [← hK, ← hL]
            refine ex2_mono (M1 bs n hb hn D hD cnt from_ i hfr nm sh g g20 m (k + 1) 1 (ofC i (from_ + k - D + 1)) _ _ (by omega) (by omega) (by omega) ?_ ?_ ?_ ?_ ?_ ?_ ?_ ?_ ?_ ?_ ?_) (fun fr' lh' h => ?_)
            all_goals first | (simp only [get_same, get_ne, getO_ne, ne_eq, not_false_eq_true, Nat.reduceEqDiff, h3, h11, h19, h20, h71, h72, hO31, hO20, hF]; done) | skip
            · refine Or.inr ⟨(getO lh 120).g + 1, 0, by simp only [get_same, get_ne, ne_eq, not_false_eq_true, Nat.reduceEqDiff], by simp only [getO_same]; rfl, rfl, by omega⟩
            · rw [h0]; simpa [Nat.add_comm, List.flatMap_cons] using h
          · have hc' : c * 3 = cs.length := hc0.symm
            simp only [DC_seq, DC_skip, DC_exit, DC_region, DC_block, p_cond, isB_b, isT_b, andThen_nrm, outOf_nrm, map_ite, kv_some, ka_some, kc_some, e_nil, o_mv, p_pick, pickV_b, p_bin, p_un, p_build, buildV, p_fa, faV_ptr, p_ia, iaV_isl, p_ld, ldV_L, ldE_cells, p_app, appW, slC_sl, appE_cells, appV_isl, notS_isl, p_bsl, bslV, g_passT, setD, rd_t, rd_c, get_same, get_ne, bslW, froz_agg, froz1_b, froz1_i, fzV_froz, fzL_nil, fzL_cons, ups_nil, cells_agg, cells_b, cells_i, noTup_agg, noTup_b, noTup_i, splice, part_f, fills, repl, Nat.reduceAdd, List.all_nil, decide_true, bin_add, bin_sub, bin_lss, bin_geq, un_not, Option.bind_some, Option.map_some, Option.map_none, List.map_cons, List.map_nil, List.all_cons, List.all_nil, List.length_cons, List.length_nil, List.append_nil, List.nil_append, List.cons_append, List.getElem?_cons_zero, List.getElem?_cons_succ, List.zip_cons_cons, List.zip_nil_left, Bool.and_self, Bool.not_true, Bool.not_false, Bool.false_eq_true, if_true, if_false, ite_self, ne_eq, not_false_eq_true, and_self, Nat.zero_add, Nat.mul_one, Nat.one_mul, Nat.zero_mul, Nat.reduceAdd, Nat.reduceLT, Nat.reduceLeDiff, Nat.reduceEqDiff, decide_true, Nat.le_refl, Int.toNat_natCast, Int.natCast_nonneg, c77_L1, h3, h11, h19, h20, h21, h71, h72, h73, hlt, hlt', hget, hO31, hO20, hw, w1, w3, w5, w6, w7, w8, roomy, hkD', hkD2, w4, hlt2, hget2, hb1, hb2, h18, hO, hc', hbig, hbr', hbr, hDk]
            rw [← hK, ← hL]
            refine ex2_mono (M1 bs n hb hn D hD cnt from_ i hfr nm sh g g20 m (k + 1) (c + 1) (cs ++ ofC i (from_ + k - D + 1)) _ _ (by omega) (by omega) (by omega) ?_ ?_ ?_ ?_ ?_ ?_ ?_ ?_ ?_ ?_ ?_) (fun fr' lh' h => ?_)
            all_goals first | (simp only [get_same, get_ne, getO_ne, ne_eq, not_false_eq_true, Nat.reduceEqDiff, h3, h11, h19, h20, h71, h72, hO31, hO20, hF]; done) | skip
            · refine Or.inr ⟨gg + 1, wm, by simp only [get_same, get_ne, ne_eq, not_false_eq_true, Nat.reduceEqDiff], by simp only [getO_same]; rfl, by simp [ofC, hc0]; omega, by omega⟩
            · rw [List.flatMap_cons, ← List.append_assoc, show c + ((offL bs D cnt from_ (k + 1) m).length + 1) = c + 1 + (offL bs D cnt from_ (k + 1) m).length by omega]; exact h
        · have hbr' : ¬ f0 + 1 < cnt := by rw [hF]; exact hbr
          simp only [DC_seq, DC_skip, DC_exit, DC_region, DC_block, p_cond, isB_b, isT_b, andThen_nrm, outOf_nrm, map_ite, kv_some, kc_some, e_nil, o_mv, p_pick, pickV_b, p_bin, p_un, p_build, buildV, p_fa, faV_ptr, p_ia, iaV_isl, p_ld, ldV_L, ldE_cells, p_bsl, bslV, g_passT, setD, rd_t, rd_c, get_same, get_ne, bslW, froz_agg, froz1_b, froz1_i, fzV_froz, fzL_nil, fzL_cons, ups_nil, cells_agg, cells_b, cells_i, noTup_agg, noTup_b, noTup_i, splice, part_f, fills, repl, Nat.reduceAdd, List.all_nil, decide_true, bin_add, bin_sub, bin_lss, bin_geq, un_not, Option.bind_some, Option.map_some, Option.map_none, List.map_cons, List.map_nil, List.all_cons, List.all_nil, List.length_cons, List.length_nil, List.append_nil, List.nil_append, List.getElem?_cons_zero, List.getElem?_cons_succ, List.zip_cons_cons, List.zip_nil_left, Bool.and_self, Bool.not_true, Bool.not_false, Bool.false_eq_true, if_true, if_false, ite_self, ne_eq, not_false_eq_true, and_self, and_false, Nat.zero_add, Nat.mul_one, Nat.zero_mul, Nat.reduceAdd, Nat.reduceLT, Nat.reduceLeDiff, Nat.reduceEqDiff, decide_true, decide_false, Nat.le_refl, Int.toNat_natCast, Int.natCast_nonneg, c77_L1, h3, h11, h19, h20, h21, h71, h72, h73, hlt, hlt', hget, hO31, hO20, hw, w1, w3, w5, w6, w7, w8, hkD', hkD2, w4, hlt2, hget2, hb1, hb2, hbr', hbr, hDk]
          rw [← hK, ← hL]
          refine ex2_mono (M1 bs n hb hn D hD cnt from_ i hfr nm sh g g20 m (k + 1) c cs _ _ (by omega) (by omega) (by omega) ?_ ?_ ?_ ?_ ?_ ?_ ?_ ?_ ?_ ?_ ?_) (fun fr' lh' h => ?_)
          all_goals first | (simp only [get_same, get_ne, ne_eq, not_false_eq_true, Nat.reduceEqDiff, h3, h11, h19, h20, h71, h72, hO31, hO20, hF]; done) | skip
          · simpa [get_ne] using hs
          · simpa using h
      · have hF : f0 - 1 = freeTo bs (k + 1) - freeTo bs (k + 1 - D) := by rw [e1, e2, hb1, hb2, ← hf0]; simp; try omega
        by_cases hbr : freeTo bs (k + 1) - freeTo bs (k + 1 - D) < cnt
        · have hbr' : f0 - 1 < cnt := by rw [hF]; exact hbr
          rcases hs with ⟨h0, h18, hc0⟩ | ⟨gg, wm, h18, hO, hc0, hpos⟩
          · subst hc0
            simp only [DC_seq, DC_skip, DC_exit, DC_region, DC_block, p_cond, isB_b, isT_b, andThen_nrm, outOf_nrm, map_ite, kv_some, ka_some, kc_some, e_nil, o_mv, p_pick, pickV_b, p_bin, p_un, p_build, buildV, p_fa, faV_ptr, p_ia, iaV_isl, p_ld, ldV_L, ldE_cells, p_app, appW, slC_sl, appV_nil, notS_nilsl, p_bsl, bslV, g_passT, setD, rd_t, rd_c, get_same, get_ne, bslW, froz_agg, froz1_b, froz1_i, fzV_froz, fzL_nil, fzL_cons, ups_nil, cells_agg, cells_b, cells_i, noTup_agg, noTup_b, noTup_i, splice, part_f, fills, repl, Nat.reduceAdd, List.all_nil, decide_true, bin_add, bin_sub, bin_lss, bin_geq, un_not, Option.bind_some, Option.map_some, Option.map_none, List.map_cons, List.map_nil, List.all_cons, List.all_nil, List.length_cons, List.length_nil, List.append_nil, List.nil_append, List.cons_append, List.getElem?_cons_zero, List.getElem?_cons_succ, List.zip_cons_cons, List.zip_nil_left, Bool.and_self, Bool.not_true, Bool.not_false, Bool.false_eq_true, if_true, if_false, ne_eq, not_false_eq_true, and_self, Nat.zero_add, Nat.mul_one, Nat.one_mul, Nat.zero_mul, Nat.reduceAdd, Nat.reduceLT, Nat.reduceLeDiff, Nat.reduceEqDiff, decide_true, Nat.le_refl, Int.toNat_natCast, Int.natCast_nonneg, c77_L1, h3, h11, h19, h20, h21, h71, h72, h73, hlt, hlt', hget, hO31, hO20, hw, w1, w2, w5, w6, w7, w8, roomy, hkD', hkD2, w4, hlt2, hget2, hb1, hb2, h18, hbr', hbr, hDk]
            rw [← hK, ← hL]
            refine ex2_mono (M1 bs n hb hn D hD cnt from_ i hfr nm sh g g20 m (k + 1) 1 (ofC i (from_ + k - D + 1)) _ _ (by omega) (by omega) (by omega) ?_ ?_ ?_ ?_ ?_ ?_ ?_ ?_ ?_ ?_ ?_) (fun fr' lh' h => ?_)
            all_goals first | (simp only [get_same, get_ne, getO_ne, ne_eq, not_false_eq_true, Nat.reduceEqDiff, h3, h11, h19, h20, h71, h72, hO31, hO20, hF]; done) | skip
            · refine Or.inr ⟨(getO lh 120).g + 1, 0, by simp only [get_same, get_ne, ne_eq, not_false_eq_true, Nat.reduceEqDiff], by simp only [getO_same]; rfl, rfl, by omega⟩
            · rw [h0]; simpa [Nat.add_comm, List.flatMap_cons] using h
          · have hc' : c * 3 = cs.length := hc0.symm
            simp only [DC_seq, DC_skip, DC_exit, DC_region, DC_block, p_cond, isB_b, isT_b, andThen_nrm, outOf_nrm, map_ite, kv_some, ka_some, kc_some, e_nil, o_mv, p_pick, pickV_b, p_bin, p_un, p_build, buildV, p_fa, faV_ptr, p_ia, iaV_isl, p_ld, ldV_L, ldE_cells, p_app, appW, slC_sl, appE_cells, appV_isl, notS_isl, p_bsl, bslV, g_passT, setD, rd_t, rd_c, get_same, get_ne, bslW, froz_agg, froz1_b, froz1_i, fzV_froz, fzL_nil, fzL_cons, ups_nil, cells_agg, cells_b, cells_i, noTup_agg, noTup_b, noTup_i, splice, part_f, fills, repl, Nat.reduceAdd, List.all_nil, decide_true, bin_add, bin_sub, bin_lss, bin_geq, un_not, Option.bind_some, Option.map_some, Option.map_none, List.map_cons, List.map_nil, List.all_cons, List.all_nil, List.length_cons, List.length_nil, List.append_nil, List.nil_append, List.cons_append, List.getElem?_cons_zero, List.getElem?_cons_succ, List.zip_cons_cons, List.zip_nil_left, Bool.and_self, Bool.not_true, Bool.not_false, Bool.false_eq_true, if_true, if_false, ne_eq, not_false_eq_true, and_self, Nat.zero_add, Nat.mul_one, Nat.one_mul, Nat.zero_mul, Nat.reduceAdd, Nat.reduceLT, Nat.reduceLeDiff, Nat.reduceEqDiff, decide_true, Nat.le_refl, Int.toNat_natCast, Int.natCast_nonneg, c77_L1, h3, h11, h19, h20, h21, h71, h72, h73, hlt, hlt', hget, hO31, hO20, hw, w1, w2, w5, w6, w7, w8, roomy, hkD', hkD2, w4, hlt2, hget2, hb1, hb2, h18, hO, hc', hbig, hbr', hbr, hDk]
            rw [← hK, ← hL]
            refine ex2_mono (M1 bs n hb hn D hD cnt from_ i hfr nm sh g g20 m (k + 1) (c + 1) (cs ++ ofC i (from_ + k - D + 1)) _ _ (by omega) (by omega) (by omega) ?_ ?_ ?_ ?_ ?_ ?_ ?_ ?_ ?_ ?_ ?_) (fun fr' lh' h => ?_)
            all_goals first | (simp only [get_same, get_ne, getO_ne, ne_eq, not_false_eq_true, Nat.reduceEqDiff, h3, h11, h19, h20, h71, h72, hO31, hO20, hF]; done) | skip
            · refine Or.inr ⟨gg + 1, wm, by simp only [get_same, get_ne, ne_eq, not_false_eq_true, Nat.reduceEqDiff], by simp only [getO_same]; rfl, by simp [ofC, hc0]; omega, by omega⟩
            · rw [List.flatMap_cons, ← List.append_assoc, show c + ((offL bs D cnt from_ (k + 1) m).length + 1) = c + 1 + (offL bs D cnt from_ (k + 1) m).length by omega]; exact h
        · have hbr' : ¬ f0 - 1 < cnt := by rw [hF]; exact hbr
          simp only [DC_seq, DC_skip, DC_exit, DC_region, DC_block, p_cond, isB_b, isT_b, andThen_nrm, outOf_nrm, map_ite, kv_some, kc_some, e_nil, o_mv, p_pick, pickV_b, p_bin, p_un, p_build, buildV, p_fa, faV_ptr, p_ia, iaV_isl, p_ld, ldV_L, ldE_cells, p_bsl, bslV, g_passT, setD, rd_t, rd_c, get_same, get_ne, bslW, froz_agg, froz1_b, froz1_i, fzV_froz, fzL_nil, fzL_cons, ups_nil, cells_agg, cells_b, cells_i, noTup_agg, noTup_b, noTup_i, splice, part_f, fills, repl, Nat.reduceAdd, List.all_nil, decide_true, bin_add, bin_sub, bin_lss, bin_geq, un_not, Option.bind_some, Option.map_some, Option.map_none, List.map_cons, List.map_nil, List.all_cons, List.all_nil, List.length_cons, List.length_nil, List.append_nil, List.nil_append, List.getElem?_cons_zero, List.getElem?_cons_succ, List.zip_cons_cons, List.zip_nil_left, Bool.and_self, Bool.not_true, Bool.not_false, Bool.false_eq_true, if_true, if_false, ite_self, ne_eq, not_false_eq_true, and_self, and_false, Nat.zero_add, Nat.mul_one, Nat.zero_mul, Nat.reduceAdd, Nat.reduceLT, Nat.reduceLeDiff, Nat.reduceEqDiff, decide_true, decide_false, Nat.le_refl, Int.toNat_natCast, Int.natCast_nonneg, c77_L1, h3, h11, h19, h20, h21, h71, h72, h73, hlt, hlt', hget, hO31, hO20, hw, w1, w2, w5, w6, w7, w8, hkD', hkD2, w4, hlt2, hget2, hb1, hb2, hbr', hbr, hDk]
          rw [← hK, ← hL]
          refine ex2_mono (M1 bs n hb hn D hD cnt from_ i hfr nm sh g g20 m (k + 1) c cs _ _ (by omega) (by omega) (by omega) ?_ ?_ ?_ ?_ ?_ ?_ ?_ ?_ ?_ ?_ ?_) (fun fr' lh' h => ?_)
          all_goals first | (simp only [get_same, get_ne, ne_eq, not_false_eq_true, Nat.reduceEqDiff, h3, h11, h19, h20, h71, h72, hO31, hO20, hF]; done) | skip
          · simpa [get_ne] using hs
          · simpa using h
      · have hF : f0 = freeTo bs (k + 1) - freeTo bs (k + 1 - D) := by rw [e1, e2, hb1, hb2, ← hf0]; simp; try omega
        by_cases hbr : freeTo bs (k + 1) - freeTo bs (k + 1 - D) < cnt
        · have hbr' : f0 < cnt := by rw [hF]; exact hbr
          rcases hs with ⟨h0, h18, hc0⟩ | ⟨gg, wm, h18, hO, hc0, hpos⟩
          · subst hc0
            simp only [DC_seq, DC_skip, DC_exit, DC_region, DC_block, p_cond, isB_b, isT_b, andThen_nrm, outOf_nrm, map_ite, kv_some, ka_some, kc_some, e_nil, o_mv, p_pick, pickV_b, p_bin, p_un, p_build, buildV, p_fa, faV_ptr, p_ia, iaV_isl, p_ld, ldV_L, ldE_cells, p_app, appW, slC_sl, appV_nil, notS_nilsl, p_bsl, bslV, g_passT, setD, rd_t, rd_c, get_same, get_ne, bslW, froz_agg, froz1_b, froz1_i, fzV_froz, fzL_nil, fzL_cons, ups_nil, cells_agg, cells_b, cells_i, noTup_agg, noTup_b, noTup_i, splice, part_f, fills, repl, Nat.reduceAdd, List.all_nil, decide_true, bin_add, bin_sub, bin_lss, bin_geq, un_not, Option.bind_some, Option.map_some, Option.map_none, List.map_cons, List.map_nil, List.all_cons, List.all_nil, List.length_cons, List.length_nil, List.append_nil, List.nil_append, List.cons_append, List.getElem?_cons_zero, List.getElem?_cons_succ, List.zip_cons_cons, List.zip_nil_left, Bool.and_self, Bool.not_true, Bool.false_eq_true, if_true, if_false, ite_self, ne_eq, not_false_eq_true, and_self, Nat.zero_add, Nat.mul_one, Nat.one_mul, Nat.zero_mul, Nat.reduceAdd, Nat.reduceLT, Nat.reduceLeDiff, Nat.reduceEqDiff, decide_true, Nat.le_refl, Int.toNat_natCast, Int.natCast_nonneg, c77_L1, h3, h11, h19, h20, h21, h71, h72, h73, hlt, hlt', hget, hO31, hO20, hw, w1, w2, w5, w6, w7, w8, roomy, hkD', hkD2, w4, hlt2, hget2, hb1, hb2, h18, hbr', hbr, hDk]
            rw [← hK, ← hL]
            refine ex2_mono (M1 bs n hb hn D hD cnt from_ i hfr nm sh g g20 m (k + 1) 1 (ofC i (from_ + k - D + 1)) _ _ (by omega) (by omega) (by omega) ?_ ?_ ?_ ?_ ?_ ?_ ?_ ?_ ?_ ?_ ?_) (fun fr' lh' h => ?_)
            all_goals first | (simp only [get_same, get_ne, getO_ne, ne_eq, not_false_eq_true, Nat.reduceEqDiff, h3, h11, h19, h20, h21, h71, h72, hO31, hO20, hF]; done) | skip
            · refine Or.inr ⟨(getO lh 120).g + 1, 0, by simp only [get_same, get_ne, ne_eq, not_false_eq_true, Nat.reduceEqDiff], by simp only [getO_same]; rfl, rfl, by omega⟩
            · rw [h0]; simpa [Nat.add_comm, List.flatMap_cons] using h
          · have hc' : c * 3 = cs.length := hc0.symm
            simp only [DC_seq, DC_skip, DC_exit, DC_region, DC_block, p_cond, isB_b, isT_b, andThen_nrm, outOf_nrm, map_ite, kv_some, ka_some, kc_some, e_nil, o_mv, p_pick, pickV_b, p_bin, p_un, p_build, buildV, p_fa, faV_ptr, p_ia, iaV_isl, p_ld, ldV_L, ldE_cells, p_app, appW, slC_sl, appE_cells, appV_isl, notS_isl, p_bsl, bslV, g_passT, setD, rd_t, rd_c, get_same, get_ne, bslW, froz_agg, froz1_b, froz1_i, fzV_froz, fzL_nil, fzL_cons, ups_nil, cells_agg, cells_b, cells_i, noTup_agg, noTup_b, noTup_i, splice, part_f, fills, repl, Nat.reduceAdd, List.all_nil, decide_true, bin_add, bin_sub, bin_lss, bin_geq, un_not, Option.bind_some, Option.map_some, Option.map_none, List.map_cons, List.map_nil, List.all_cons, List.all_nil, List.length_cons, List.length_nil, List.append_nil, List.nil_append, List.cons_append, List.getElem?_cons_zero, List.getElem?_cons_succ, List.zip_cons_cons, List.zip_nil_left, Bool.and_self, Bool.not_true, Bool.false_eq_true, if_true, if_false, ite_self, ne_eq, not_false_eq_true, and_self, Nat.zero_add, Nat.mul_one, Nat.one_mul, Nat.zero_mul, Nat.reduceAdd, Nat.reduceLT, Nat.reduceLeDiff, Nat.reduceEqDiff, decide_true, Nat.le_refl, Int.toNat_natCast, Int.natCast_nonneg, c77_L1, h3, h11, h19, h20, h21, h71, h72, h73, hlt, hlt', hget, hO31, hO20, hw, w1, w2, w5, w6, w7, w8, roomy, hkD', hkD2, w4, hlt2, hget2, hb1, hb2, h18, hO, hc', hbig, hbr', hbr, hDk]
            rw [← hK, ← hL]
            refine ex2_mono (M1 bs n hb hn D hD cnt from_ i hfr nm sh g g20 m (k + 1) (c + 1) (cs ++ ofC i (from_ + k - D + 1)) _ _ (by omega) (by omega) (by omega) ?_ ?_ ?_ ?_ ?_ ?_ ?_ ?_ ?_ ?_ ?_) (fun fr' lh' h => ?_)
            all_goals first | (simp only [get_same, get_ne, getO_ne, ne_eq, not_false_eq_true, Nat.reduceEqDiff, h3, h11, h19, h20, h21, h71, h72, hO31, hO20, hF]; done) | skip
            · refine Or.inr ⟨gg + 1, wm, by simp only [get_same, get_ne, ne_eq, not_false_eq_true, Nat.reduceEqDiff], by simp only [getO_same]; rfl, by simp [ofC, hc0]; omega, by omega⟩
            · rw [List.flatMap_cons, ← List.append_assoc, show c + ((offL bs D cnt from_ (k + 1) m).length + 1) = c + 1 + (offL bs D cnt from_ (k + 1) m).length by omega]; exact h
        · have hbr' : ¬ f0 < cnt := by rw [hF]; exact hbr
          simp only [DC_seq, DC_skip, DC_exit, DC_region, DC_block, p_cond, isB_b, isT_b, andThen_nrm, outOf_nrm, map_ite, kv_some, kc_some, e_nil, o_mv, p_pick, pickV_b, p_bin, p_un, p_build, buildV, p_fa, faV_ptr, p_ia, iaV_isl, p_ld, ldV_L, ldE_cells, p_bsl, bslV, g_passT, setD, rd_t, rd_c, get_same, get_ne, bslW, froz_agg, froz1_b, froz1_i, fzV_froz, fzL_nil, fzL_cons, ups_nil, cells_agg, cells_b, cells_i, noTup_agg, noTup_b, noTup_i, splice, part_f, fills, repl, Nat.reduceAdd, List.all_nil, decide_true, bin_add, bin_sub, bin_lss, bin_geq, un_not, Option.bind_some, Option.map_some, Option.map_none, List.map_cons, List.map_nil, List.all_cons, List.all_nil, List.length_cons, List.length_nil, List.append_nil, List.nil_append, List.getElem?_cons_zero, List.getElem?_cons_succ, List.zip_cons_cons, List.zip_nil_left, Bool.and_self, Bool.not_true, Bool.false_eq_true, if_true, if_false, ite_self, ne_eq, not_false_eq_true, and_self, and_false, Nat.zero_add, Nat.mul_one, Nat.zero_mul, Nat.reduceAdd, Nat.reduceLT, Nat.reduceLeDiff, Nat.reduceEqDiff, decide_true, decide_false, Nat.le_refl, Int.toNat_natCast, Int.natCast_nonneg, c77_L1, h3, h11, h19, h20, h21, h71, h72, h73, hlt, hlt', hget, hO31, hO20, hw, w1, w2, w5, w6, w7, w8, hkD', hkD2, w4, hlt2, hget2, hb1, hb2, hbr', hbr, hDk]
          rw [← hK, ← hL]
          refine ex2_mono (M1 bs n hb hn D hD cnt from_ i hfr nm sh g g20 m (k + 1) c cs _ _ (by omega) (by omega) (by omega) ?_ ?_ ?_ ?_ ?_ ?_ ?_ ?_ ?_ ?_ ?_) (fun fr' lh' h => ?_)
          all_goals first | (simp only [get_same, get_ne, ne_eq, not_false_eq_true, Nat.reduceEqDiff, h3, h11, h19, h20, h21, h71, h72, hO31, hO20, hF]; done) | skip
          · simpa [get_ne] using hs
          · simpa using h
    · have hkD' : ¬ (D : Int) ≤ (k : Int) := by omega
      have e2 : freeTo bs (k + 1 - D) = 0 := by rw [show k + 1 - D = 0 by omega]; rfl
      have e3 : freeTo bs (k - D) = 0 := by rw [show k - D = 0 by omega]; rfl
      by_cases hDk : D ≤ k + 1
      · have hkD2 : (D : Int) - 1 ≤ (k : Int) := by omega
        cases hb1 : bs.getD k true
        · have hF : f0 + 1 = freeTo bs (k + 1) - freeTo bs (k + 1 - D) := by rw [e1, e2, hb1, ← hf0, e3]; simp
          by_cases hbr : freeTo bs (k + 1) - freeTo bs (k + 1 - D) < cnt
          · have hbr' : f0 + 1 < cnt := by rw [hF]; exact hbr
            rcases hs with ⟨h0, h18, hc0⟩ | ⟨gg, wm, h18, hO, hc0, hpos⟩
            · subst hc0
              simp only [DC_seq, DC_skip, DC_exit, DC_region, DC_block, p_cond, isB_b, isT_b, andThen_nrm, outOf_nrm, map_ite, kv_some, ka_some, kc_some, e_nil, o_mv, p_pick, pickV_b, p_bin, p_un, p_build, buildV, p_fa, faV_ptr, p_ia, iaV_isl, p_ld, ldV_L, ldE_cells, p_app, appW, slC_sl, appV_nil, notS_nilsl, p_bsl, bslV, g_passT, g_skipT, setD, rd_t, rd_c, get_same, get_ne, bslW, froz_agg, froz1_b, froz1_i, fzV_froz, fzL_nil, fzL_cons, ups_nil, cells_agg, cells_b, cells_i, noTup_agg, noTup_b, noTup_i, splice, part_f, fills, repl, Nat.reduceAdd, List.all_nil, decide_true, bin_add, bin_sub, bin_lss, bin_geq, un_not, Option.bind_some, Option.map_some, Option.map_none, List.map_cons, List.map_nil, List.all_cons, List.all_nil, List.length_cons, List.length_nil, List.append_nil, List.nil_append, List.cons_append, List.getElem?_cons_zero, List.getElem?_cons_succ, List.zip_cons_cons, List.zip_nil_left, Bool.and_self, Bool.not_false, Bool.false_eq_true, if_true, if_false, ne_eq, not_false_eq_true, and_self, Nat.zero_add, Nat.mul_one, Nat.one_mul, Nat.zero_mul, Nat.reduceAdd, Nat.reduceLT, Nat.reduceLeDiff, Nat.reduceEqDiff, decide_true, decide_false, Nat.le_refl, Int.toNat_natCast, Int.natCast_nonneg, c77_L1, h3, h19, h20, h21, h71, h72, h73, hlt, hlt', hget, hO31, hO20, hw, w1, w3, w5, w6, w7, w8, roomy, hkD', hkD2, hb1, h18, hbr', hbr, hDk]
              rw [← hK, ← hL]
              refine ex2_mono (M1 bs n hb hn D hD cnt from_ i hfr nm sh g g20 m (k + 1) 1 (ofC i (from_ + k - D + 1)) _ _ (by omega) (by omega) (by omega) ?_ ?_ ?_ ?_ ?_ ?_ ?_ ?_ ?_ ?_ ?_) (fun fr' lh' h => ?_)
              all_goals first | (simp only [get_same, get_ne, getO_ne, ne_eq, not_false_eq_true, Nat.reduceEqDiff, h3, h11, h19, h20, h71, h72, hO31, hO20, hF]; done) | skip
              · refine Or.inr ⟨(getO lh 120).g + 1, 0, by simp only [get_same, get_ne, ne_eq, not_false_eq_true, Nat.reduceEqDiff], by simp only [getO_same]; rfl, rfl, by omega⟩
              · rw [h0]; simpa [Nat.add_comm, List.flatMap_cons] using h
            · have hc' : c * 3 = cs.length := hc0.symm
              simp only [DC_seq, DC_skip, DC_exit, DC_region, DC_block, p_cond, isB_b, isT_b, andThen_nrm, outOf_nrm, map_ite, kv_some, ka_some, kc_some, e_nil, o_mv, p_pick, pickV_b, p_bin, p_un, p_build, buildV, p_fa, faV_ptr, p_ia, iaV_isl, p_ld, ldV_L, ldE_cells, p_app, appW, slC_sl, appE_cells, appV_isl, notS_isl, p_bsl, bslV, g_passT, g_skipT, setD, rd_t, rd_c, get_same, get_ne, bslW, froz_agg, froz1_b, froz1_i, fzV_froz, fzL_nil, fzL_cons, ups_nil, cells_agg, cells_b, cells_i, noTup_agg, noTup_b, noTup_i, splice, part_f, fills, repl, Nat.reduceAdd, List.all_nil, decide_true, bin_add, bin_sub, bin_lss, bin_geq, un_not, Option.bind_some, Option.map_some, Option.map_none, List.map_cons, List.map_nil, List.all_cons, List.all_nil, List.length_cons, List.length_nil, List.append_nil, List.nil_append, List.cons_append, List.getElem?_cons_zero, List.getElem?_cons_succ, List.zip_cons_cons, List.zip_nil_left, Bool.and_self, Bool.not_false, Bool.false_eq_true, if_true, if_false, ne_eq, not_false_eq_true, and_self, Nat.zero_add, Nat.mul_one, Nat.one_mul, Nat.zero_mul, Nat.reduceAdd, Nat.reduceLT, Nat.reduceLeDiff, Nat.reduceEqDiff, decide_true, decide_false, Nat.le_refl, Int.toNat_natCast, Int.natCast_nonneg, c77_L1, h3, h19, h20, h21, h71, h72, h73, hlt, hlt', hget, hO31, hO20, hw, w1, w3, w5, w6, w7, w8, roomy, hkD', hkD2, hb1, h18, hO, hc', hbig, hbr', hbr, hDk]
              rw [← hK, ← hL]
              refine ex2_mono (M1 bs n hb hn D hD cnt from_ i hfr nm sh g g20 m (k + 1) (c + 1) (cs ++ ofC i (from_ + k - D + 1)) _ _ (by omega) (by omega) (by omega) ?_ ?_ ?_ ?_ ?_ ?_ ?_ ?_ ?_ ?_ ?_) (fun fr' lh' h => ?_)
              all_goals first | (simp only [get_same, get_ne, getO_ne, ne_eq, not_false_eq_true, Nat.reduceEqDiff, h3, h11, h19, h20, h71, h72, hO31, hO20, hF]; done) | skip
              · refine Or.inr ⟨gg + 1, wm, by simp only [get_same, get_ne, ne_eq, not_false_eq_true, Nat.reduceEqDiff], by simp only [getO_same]; rfl, by simp [ofC, hc0]; omega, by omega⟩
              · rw [List.flatMap_cons, ← List.append_assoc, show c + ((offL bs D cnt from_ (k + 1) m).length + 1) = c + 1 + (offL bs D cnt from_ (k + 1) m).length by omega]; exact h
          · have hbr' : ¬ f0 + 1 < cnt := by rw [hF]; exact hbr
            simp only [DC_seq, DC_skip, DC_exit, DC_region, DC_block, p_cond, isB_b, isT_b, andThen_nrm, outOf_nrm, map_ite, kv_some, kc_some, e_nil, o_mv, p_pick, pickV_b, p_bin, p_un, p_build, buildV, p_fa, faV_ptr, p_ia, iaV_isl, p_ld, ldV_L, ldE_cells, p_bsl, bslV, g_passT, g_skipT, setD, rd_t, rd_c, get_same, get_ne, bslW, froz_agg, froz1_b, froz1_i, fzV_froz, fzL_nil, fzL_cons, ups_nil, cells_agg, cells_b, cells_i, noTup_agg, noTup_b, noTup_i, splice, part_f, fills, repl, Nat.reduceAdd, List.all_nil, decide_true, bin_add, bin_sub, bin_lss, bin_geq, un_not, Option.bind_some, Option.map_some, Option.map_none, List.map_cons, List.map_nil, List.all_cons, List.all_nil, List.length_cons, List.length_nil, List.append_nil, List.nil_append, List.getElem?_cons_zero, List.getElem?_cons_succ, List.zip_cons_cons, List.zip_nil_left, Bool.and_self, Bool.not_false, Bool.false_eq_true, if_true, if_false, ite_self, ne_eq, not_false_eq_true, and_self, and_false, Nat.zero_add, Nat.mul_one, Nat.zero_mul, Nat.reduceAdd, Nat.reduceLT, Nat.reduceLeDiff, Nat.reduceEqDiff, decide_true, decide_false, Nat.le_refl, Int.toNat_natCast, Int.natCast_nonneg, c77_L1, h3, h19, h20, h21, h71, h72, h73, hlt, hlt', hget, hO31, hO20, hw, w1, w3, w5, w6, w7, w8, hkD', hkD2, hb1, hbr', hbr, hDk]
            rw [← hK, ← hL]
            refine ex2_mono (M1 bs n hb hn D hD cnt from_ i hfr nm sh g g20 m (k + 1) c cs _ _ (by omega) (by omega) (by omega) ?_ ?_ ?_ ?_ ?_ ?_ ?_ ?_ ?_ ?_ ?_) (fun fr' lh' h => ?_)
            all_goals first | (simp only [get_same, get_ne, ne_eq, not_false_eq_true, Nat.reduceEqDiff, h3, h11, h19, h20, h71, h72, hO31, hO20, hF]; done) | skip
            · simpa [get_ne] using hs
            · simpa using h
        · have hF : f0 = freeTo bs (k + 1) - freeTo bs (k + 1 - D) := by rw [e1, e2, hb1, ← hf0, e3]; simp
          by_cases hbr : freeTo bs (k + 1) - freeTo bs (k + 1 - D) < cnt
          · have hbr' : f0 < cnt := by rw [hF]; exact hbr
            rcases hs with ⟨h0, h18, hc0⟩ | ⟨gg, wm, h18, hO, hc0, hpos⟩
            · subst hc0
              simp only [DC_seq, DC_skip, DC_exit, DC_region, DC_block, p_cond, isB_b, isT_b, andThen_nrm, outOf_nrm, map_ite, kv_some, ka_some, kc_some, e_nil, o_mv, p_pick, pickV_b, p_bin, p_un, p_build, buildV, p_fa, faV_ptr, p_ia, iaV_isl, p_ld, ldV_L, ldE_cells, p_app, appW, slC_sl, appV_nil, notS_nilsl, p_bsl, bslV, g_passT, g_skipT, setD, rd_t, rd_c, get_same, get_ne, bslW, froz_agg, froz1_b, froz1_i, fzV_froz, fzL_nil, fzL_cons, ups_nil, cells_agg, cells_b, cells_i, noTup_agg, noTup_b, noTup_i, splice, part_f, fills, repl, Nat.reduceAdd, List.all_nil, decide_true, bin_add, bin_sub, bin_lss, bin_geq, un_not, Option.bind_some, Option.map_some, Option.map_none, List.map_cons, List.map_nil, List.all_cons, List.all_nil, List.length_cons, List.length_nil, List.append_nil, List.nil_append, List.cons_append, List.getElem?_cons_zero, List.getElem?_cons_succ, List.zip_cons_cons, List.zip_nil_left, Bool.and_self, Bool.not_true, Bool.false_eq_true, if_true, if_false, ne_eq, not_false_eq_true, and_self, Nat.zero_add, Nat.mul_one, Nat.one_mul, Nat.zero_mul, Nat.reduceAdd, Nat.reduceLT, Nat.reduceLeDiff, Nat.reduceEqDiff, decide_true, decide_false, Nat.le_refl, Int.toNat_natCast, Int.natCast_nonneg, c77_L1, h3, h19, h20, h21, h71, h72, h73, hlt, hlt', hget, hO31, hO20, hw, w1, w2, w5, w6, w7, w8, roomy, hkD', hkD2, hb1, h18, hbr', hbr, hDk]
              rw [← hK, ← hL]
              refine ex2_mono (M1 bs n hb hn D hD cnt from_ i hfr nm sh g g20 m (k + 1) 1 (ofC i (from_ + k - D + 1)) _ _ (by omega) (by omega) (by omega) ?_ ?_ ?_ ?_ ?_ ?_ ?_ ?_ ?_ ?_ ?_) (fun fr' lh' h => ?_)
              all_goals first | (simp only [get_same, get_ne, getO_ne, ne_eq, not_false_eq_true, Nat.reduceEqDiff, h3, h11, h19, h20, h21, h71, h72, hO31, hO20, hF]; done) | skip
              · refine Or.inr ⟨(getO lh 120).g + 1, 0, by simp only [get_same, get_ne, ne_eq, not_false_eq_true, Nat.reduceEqDiff], by simp only [getO_same]; rfl, rfl, by omega⟩
              · rw [h0]; simpa [Nat.add_comm, List.flatMap_cons] using h
            · have hc' : c * 3 = cs.length := hc0.symm
              simp only [DC_seq, DC_skip, DC_exit, DC_region, DC_block, p_cond, isB_b, isT_b, andThen_nrm, outOf_nrm, map_ite, kv_some, ka_some, kc_some, e_nil, o_mv, p_pick, pickV_b, p_bin, p_un, p_build, buildV, p_fa, faV_ptr, p_ia, iaV_isl, p_ld, ldV_L, ldE_cells, p_app, appW, slC_sl, appE_cells, appV_isl, notS_isl, p_bsl, bslV, g_passT, g_skipT, setD, rd_t, rd_c, get_same, get_ne, bslW, froz_agg, froz1_b, froz1_i, fzV_froz, fzL_nil, fzL_cons, ups_nil, cells_agg, cells_b, cells_i, noTup_agg, noTup_b, noTup_i, splice, part_f, fills, repl, Nat.reduceAdd, List.all_nil, decide_true, bin_add, bin_sub, bin_lss, bin_geq, un_not, Option.bind_some, Option.map_some, Option.map_none, List.map_cons, List.map_nil, List.all_cons, List.all_nil, List.length_cons, List.length_nil, List.append_nil, List.nil_append, List.cons_append, List.getElem?_cons_zero, List.getElem?_cons_succ, List.zip_cons_cons, List.zip_nil_left, Bool.and_self, Bool.not_true, Bool.false_eq_true, if_true, if_false, ne_eq, not_false_eq_true, and_self, Nat.zero_add, Nat.mul_one, Nat.one_mul, Nat.zero_mul, Nat.reduceAdd, Nat.reduceLT, Nat.reduceLeDiff, Nat.reduceEqDiff, decide_true, decide_false, Nat.le_refl, Int.toNat_natCast, Int.natCast_nonneg, c77_L1, h3, h19, h20, h21, h71, h72, h73, hlt, hlt', hget, hO31, hO20, hw, w1, w2, w5, w6, w7, w8, roomy, hkD', hkD2, hb1, h18, hO, hc', hbig, hbr', hbr, hDk]
              rw [← hK, ← hL]
              refine ex2_mono (M1 bs n hb hn D hD cnt from_ i hfr nm sh g g20 m (k + 1) (c + 1) (cs ++ ofC i (from_ + k - D + 1)) _ _ (by omega) (by omega) (by omega) ?_ ?_ ?_ ?_ ?_ ?_ ?_ ?_ ?_ ?_ ?_) (fun fr' lh' h => ?_)
              all_goals first | (simp only [get_same, get_ne, getO_ne, ne_eq, not_false_eq_true, Nat.reduceEqDiff, h3, h11, h19, h20, h21, h71, h72, hO31, hO20, hF]; done) | skip
              · refine Or.inr ⟨gg + 1, wm, by simp only [get_same, get_ne, ne_eq, not_false_eq_true, Nat.reduceEqDiff], by simp only [getO_same]; rfl, by simp [ofC, hc0]; omega, by omega⟩
              · rw [List.flatMap_cons, ← List.append_assoc, show c + ((offL bs D cnt from_ (k + 1) m).length + 1) = c + 1 + (offL bs D cnt from_ (k + 1) m).length by omega]; exact h
          · have hbr' : ¬ f0 < cnt := by rw [hF]; exact hbr
            simp only [DC_seq, DC_skip, DC_exit, DC_region, DC_block, p_cond, isB_b, isT_b, andThen_nrm, outOf_nrm, map_ite, kv_some, kc_some, e_nil, o_mv, p_pick, pickV_b, p_bin, p_un, p_build, buildV, p_fa, faV_ptr, p_ia, iaV_isl, p_ld, ldV_L, ldE_cells, p_bsl, bslV, g_passT, g_skipT, setD, rd_t, rd_c, get_same, get_ne, bslW, froz_agg, froz1_b, froz1_i, fzV_froz, fzL_nil, fzL_cons, ups_nil, cells_agg, cells_b, cells_i, noTup_agg, noTup_b, noTup_i, splice, part_f, fills, repl, Nat.reduceAdd, List.all_nil, decide_true, bin_add, bin_sub, bin_lss, bin_geq, un_not, Option.bind_some, Option.map_some, Option.map_none, List.map_cons, List.map_nil, List.all_cons, List.all_nil, List.length_cons, List.length_nil, List.append_nil, List.nil_append, List.getElem?_cons_zero, List.getElem?_cons_succ, List.zip_cons_cons, List.zip_nil_left, Bool.and_self, Bool.not_true, Bool.false_eq_true, if_true, if_false, ite_self, ne_eq, not_false_eq_true, and_self, and_false, Nat.zero_add, Nat.mul_one, Nat.zero_mul, Nat.reduceAdd, Nat.reduceLT, Nat.reduceLeDiff, Nat.reduceEqDiff, decide_true, decide_false, Nat.le_refl, Int.toNat_natCast, Int.natCast_nonneg, c77_L1, h3, h19, h20, h21, h71, h72, h73, hlt, hlt', hget, hO31, hO20, hw, w1, w2, w5, w6, w7, w8, hkD', hkD2, hb1, hbr', hbr, hDk]
            rw [← hK, ← hL]
            refine ex2_mono (M1 bs n hb hn D hD cnt from_ i hfr nm sh g g20 m (k + 1) c cs _ _ (by omega) (by omega) (by omega) ?_ ?_ ?_ ?_ ?_ ?_ ?_ ?_ ?_ ?_ ?_) (fun fr' lh' h => ?_)
            all_goals first | (simp only [get_same, get_ne, ne_eq, not_false_eq_true, Nat.reduceEqDiff, h3, h11, h19, h20, h21, h71, h72, hO31, hO20, hF]; done) | skip
            · simpa [get_ne] using hs
            · simpa using h
      · have hkD2 : ¬ (D : Int) - 1 ≤ (k : Int) := by omega
        cases hb1 : bs.getD k true
        · have hF : f0 + 1 = freeTo bs (k + 1) - freeTo bs (k + 1 - D) := by rw [e1, e2, hb1, ← hf0, e3]; simp
          have hbr : ¬ D ≤ k + 1 := by omega
          simp only [DC_seq, DC_skip, DC_exit, DC_region, DC_block, p_cond, isB_b, isT_b, andThen_nrm, outOf_nrm, map_ite, kv_some, kc_some, e_nil, o_mv, p_pick, pickV_b, p_bin, p_un, p_build, buildV, p_fa, faV_ptr, p_ia, iaV_isl, p_ld, ldV_L, ldE_cells, p_bsl, bslV, g_skipT, setD, rd_t, rd_c, get_same, get_ne, bslW, froz_agg, froz1_b, froz1_i, fzV_froz, fzL_nil, fzL_cons, ups_nil, cells_agg, cells_b, cells_i, noTup_agg, noTup_b, noTup_i, splice, part_f, fills, repl, Nat.reduceAdd, List.all_nil, decide_true, bin_add, bin_sub, bin_lss, bin_geq, un_not, Option.bind_some, Option.map_some, Option.map_none, List.map_cons, List.map_nil, List.all_cons, List.all_nil, List.length_cons, List.length_nil, List.append_nil, List.nil_append, List.getElem?_cons_zero, List.getElem?_cons_succ, List.zip_cons_cons, List.zip_nil_left, Bool.and_self, Bool.not_false, Bool.false_eq_true, if_true, if_false, ne_eq, not_false_eq_true, and_self, false_and, Nat.zero_add, Nat.mul_one, Nat.zero_mul, Nat.reduceAdd, Nat.reduceLT, Nat.reduceLeDiff, Nat.reduceEqDiff, decide_true, decide_false, Nat.le_refl, Int.toNat_natCast, Int.natCast_nonneg, c77_L1, h3, h19, h20, h21, h71, h72, h73, hlt, hlt', hget, hO31, hO20, hw, w1, w3, w5, w6, w7, w8, hkD', hkD2, hb1, hbr]
          rw [← hK, ← hL]
          refine ex2_mono (M1 bs n hb hn D hD cnt from_ i hfr nm sh g g20 m (k + 1) c cs _ _ (by omega) (by omega) (by omega) ?_ ?_ ?_ ?_ ?_ ?_ ?_ ?_ ?_ ?_ ?_) (fun fr' lh' h => ?_)
          all_goals first | (simp only [get_same, get_ne, ne_eq, not_false_eq_true, Nat.reduceEqDiff, h3, h11, h19, h20, h71, h72, hO31, hO20, hF]; done) | skip
          · simpa [get_ne] using hs
          · simpa using h
        · have hF : f0 = freeTo bs (k + 1) - freeTo bs (k + 1 - D) := by rw [e1, e2, hb1, ← hf0, e3]; simp
          have hbr : ¬ D ≤ k + 1 := by omega
          simp only [DC_seq, DC_skip, DC_exit, DC_region, DC_block, p_cond, isB_b, isT_b, andThen_nrm, outOf_nrm, map_ite, kv_some, kc_some, e_nil, o_mv, p_pick, pickV_b, p_bin, p_un, p_build, buildV, p_fa, faV_ptr, p_ia, iaV_isl, p_ld, ldV_L, ldE_cells, p_bsl, bslV, g_skipT, setD, rd_t, rd_c, get_same, get_ne, bslW, froz_agg, froz1_b, froz1_i, fzV_froz, fzL_nil, fzL_cons, ups_nil, cells_agg, cells_b, cells_i, noTup_agg, noTup_b, noTup_i, splice, part_f, fills, repl, Nat.reduceAdd, List.all_nil, decide_true, bin_add, bin_sub, bin_lss, bin_geq, un_not, Option.bind_some, Option.map_some, Option.map_none, List.map_cons, List.map_nil, List.all_cons, List.all_nil, List.length_cons, List.length_nil, List.append_nil, List.nil_append, List.getElem?_cons_zero, List.getElem?_cons_succ, List.zip_cons_cons, List.zip_nil_left, Bool.and_self, Bool.not_true, Bool.false_eq_true, if_true, if_false, ne_eq, not_false_eq_true, and_self, false_and, Nat.zero_add, Nat.mul_one, Nat.zero_mul, Nat.reduceAdd, Nat.reduceLT, Nat.reduceLeDiff, Nat.reduceEqDiff, decide_true, decide_false, Nat.le_refl, Int.toNat_natCast, Int.natCast_nonneg, c77_L1, h3, h19, h20, h21, h71, h72, h73, hlt, hlt', hget, hO31, hO20, hw, w1, w2, w5, w6, w7, w8, hkD', hkD2, hb1, hbr]
          rw [← hK, ← hL]
          refine ex2_mono (M1 bs n hb hn D hD cnt from_ i hfr nm sh g g20 m (k + 1) c cs _ _ (by omega) (by omega) (by omega) ?_ ?_ ?_ ?_ ?_ ?_ ?_ ?_ ?_ ?_ ?_) (fun fr' lh' h => ?_)
          all_goals first | (simp only [get_same, get_ne, ne_eq, not_false_eq_true, Nat.reduceEqDiff, h3, h11, h19, h20, h21, h71, h72, hO31, hO20, hF]; done) | skip
          · simpa [get_ne] using hs
          · simpa using h
end Go.Proofs.YtfenhjpkomldcaaGreat
