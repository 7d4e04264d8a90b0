/- The reference's Limits: the days, and the windows. Conditions: the theorems' own. -/
import Derived.Test.YtfenhjpkomldcaaGreatRL
set_option maxRecDepth 100000
set_option maxHeartbeats 4000000
set_option linter.unusedSimpArgs false
set_option linter.unusedVariables false
namespace Go.Proofs.YtfenhjpkomldcaaGreat
open Go Go.Ev
def refB (D most : Int) (i : Nat) (l : List (Int × Int)) : Nat → Int → List (Int × Int)
  | 0, _ => []
  | m + 1, d => (if anyW D l d = true ∧ most < winSum D l d then [((i : Int), d)] else []) ++ refB D most i l m (d + 1)
theorem b24 {n : Nat} (h : n ≤ 3000000) : (n + 1) * 24 ≤ 1099511627776 := by omega
theorem refB_yes {D most : Int} {i : Nat} {l : List (Int × Int)} {m : Nat} {d : Int} (h : anyW D l d = true ∧ most < winSum D l d) : refB D most i l (m + 1) d = ((i : Int), d) :: refB D most i l m (d + 1) := by
  conv => lhs; unfold refB
  rw [if_pos h]; rfl
theorem refB_no {D most : Int} {i : Nat} {l : List (Int × Int)} {m : Nat} {d : Int} (h : ¬ (anyW D l d = true ∧ most < winSum D l d)) : refB D most i l (m + 1) d = refB D most i l m (d + 1) := by
  conv => lhs; unfold refB
  rw [if_neg h]; rfl
section
variable (z : Zn) (hz : z.ok) (l v : T) (cc : List T) (ss : List Sti) (lims : List Lm) (hl : IsSl l ss.length (ss.flatMap stC)) (hf : Fit ss lims.length) (hcc : cc[11]? = some v) (hv : IsSl v lims.length (lims.flatMap lmC)) (hli : ∀ x ∈ lims, 1 ≤ x.d ∧ x.d ≤ 31)
include hz hl hf hcc hv hli
theorem Q2 (i : Nat) (hi : i < lims.length) (hgh : Int) (hhi : -100000 ≤ hgh ∧ hgh ≤ 100000) (sh : List Ent) (g wm43 : Nat) : ∀ (m : Nat) (d : Int) (n : Nat) (cs : List T) (fr : Fr) (lh : Tri Ent), (m = 0 → hgh < d) → (m ≠ 0 → d + m = hgh + 1) → -200000 ≤ d ∧ d ≤ 200000 → n + m ≤ 3000000 →
    getF fr 2 = l → getF fr 4 = .ptr .L 4 1 0 → getF fr 10 = .isl .L 43 g 0 ss.length 1 → getF fr 12 = .i .i64 (i : Int) → getF fr 14 = .i .i64 hgh → getF fr 16 = .i .i64 d → getO lh 4 = ⟨1, .cells cc 0 true⟩ → getO lh 43 = ⟨g, .cells (ints (ss.map fun s => z.day s.a)) wm43 false⟩ → OutS lh (getF fr 9) 147 3 n cs →
    ∃ fr' lh', DC pE 149 (.loop c35_L2) ⟨fr, lh, sh⟩ = some (.ext 6, ⟨fr', lh', sh⟩) ∧ (OutS lh' (getF fr' 9) 147 3 (n + (refB lims[i].d lims[i].most i (dvs z ss i) m d).length) (cs ++ (refB lims[i].d lims[i].most i (dvs z ss i) m d).flatMap brT) ∧ getO lh' 4 = ⟨1, .cells cc 0 true⟩ ∧ getO lh' 43 = ⟨g, .cells (ints (ss.map fun s => z.day s.a)) wm43 false⟩ ∧ getO lh' 3 = getO lh 3)
  | 0, d, n, cs, fr, lh, hm0, hm1, hd, hnm, h2, h4, h10, h12, h14, h16, hO4, hO43, hO => by
    have hle : ¬ d ≤ hgh := by have := hm0 rfl; omega
    rw [DC_loop]
    generalize hK : DC pE 149 (.loop c35_L2) = K
    simp only [DC_seq, DC_skip, DC_exit, DC_region, p_cond, isB_b, isT_b, andThen_nrm, andThen_ext, kv_some, e_nil, o_mv, p_bin, rd_t, get_same, get_ne, bin_leq, Option.map_some, Bool.false_eq_true, if_false, ne_eq, not_false_eq_true, Nat.reduceLT, Nat.reduceEqDiff, decide_false, c35_L2, h14, h16, hle]
    exact ⟨_, _, rfl, by simpa only [Int.cast_ofNat_Int, and_1, and_3, and_7, and_15, and_31, and_63, and_127, and_255, and_511, and_1023, and_65535, shr_0, shr_2, shr_3, shr_4, shr_5, shr_6, shr_8, shr_14, shr_16, shr_18, shr_20, shr_21, shr_24, shr_25, wr64, wru64, Int.reduceAdd, Int.reduceSub, Int.reduceMul, Int.reduceNeg, frL_presM, Nat.reduceShiftRight, Nat.reduceMod, implies_true, forall_const, DC_seq, DC_skip, DC_exit, DC_ret, DC_region, DC_calm, DC_block, p_cond, isB_b, isT_b, andThen_nrm, andThen_ext, andThen_ret, andThen_none, andThen_ite, outOf_nrm, outOf_ret, outOf_ext, outOf_none, outOf_ite, endR_ite, endR_ret, endR_nrm, endO_ite, endO_ret, endO_nrm, map_ite, bind_ite, kv_some, kv_none, kv_ite, kn_some, kn_none, ks_some, ks_none, ks_ite, ka_some, ka_none, ka_ite, kc_some, kc_none, kc_ite, e_nil, o_mv, o_mkfn, o_lenC, o_alloc, o_box, o_mkmap, p_pick, pickV_b, p_bin, p_eq, p_un, p_cvi, cviV_i, p_build, buildV, p_slS, slSV, p_fa, faV_vp, faV_ptr, p_fld, fldV_agg, p_ia, iaV_sl, iaV_isl, p_iaA, iaAV, p_ixS, ixSV_s, p_ixA, ixAV, p_ext, extV_tup, p_lenS, lenSV_s, p_lenV, lenI_nil, lenI_sl, lenI_isl, lenT_nil, lenT_sl, lenT_isl, p_mm, mmV, minmax, p_nck, p_nckN, nckV_vp, nckV_ptr, nckV_fn, p_ld, ldV_vp, ldV_L, ldV_S, ldE_cells, p_mksl, mkslV, mkOk, p_st, stV_L, stB_box, stB_row, p_app, appW, slC_nil, slC_sl, slC_s, slC_isl, slE_cells, appE_cells, appV_nil, appV_sl, appV_isl, notS_nilsl, notS_sl, notS_isl, notS_mp, p_slV, slVV, subV, p_lk, lkV, p_mu, muV, p_bsl, bslW_froz, bslV, p_call, p_callN, p_callv, doCallV, g_passT, g_passF, g_skipT, g_skipF, g_undefT, g_skipNT, g_skipNF, setD, rd_t, rd_c, get_same, get_ne, getO_same, getO_ne, getO_nil, get_nil, noEnt, resV, ansV_gen, ansV_gen2, fzW_froz1, fzW_isl, fzW_mp, fzWL_nil, fzWL_cons, fzV_aggK, fzV_tupK, fzW_aggK, bslW, froz_b, froz_i, froz_s, froz_nilsl, froz_sl, froz_nilptr, froz_vp, froz_nilmp, froz_vm, froz_nilfn, froz_agg, froz_tup, froz_fn, froz1_b, froz1_i, froz1_s, froz1_nilsl, froz1_sl, froz1_nilptr, froz1_vp, froz1_nilmp, froz1_vm, froz1_nilfn, frOf, frFrom, fzV_froz, fzL_nil, fzL_cons, fzV_isl, islV_cells, fzV_mp, mpV_map, ups_nil, ups_L, cells_agg, cells_b, cells_i, cells_s, cells_nilsl, cells_sl, cells_isl, cells_ptr, cells_vp, cells_nilptr, cells_mp, cells_vm, cells_nilmp, noTup_agg, noTup_b, noTup_i, noTup_s, noTup_nilsl, noTup_sl, noTup_isl, noTup_ptr, noTup_vp, noTup_nilptr, noTup_mp, noTup_vm, noTup_nilmp, splice, part_t, part_f, fills, repl, optVal, asNat_i, scalar_b, scalar_i, scalar_s, scalar_nilsl, scalar_sl, scalar_agg, backD, calmOp, Nat.reduceAdd, List.all_nil, Nat.lt_irrefl, decide_true, bin_add, bin_sub, bin_mul, bin_quo, bin_rem, bin_eql, bin_neq, bin_lss, bin_leq, bin_gtr, bin_geq, bin_seql, bin_sneq, bin_slss, bin_sadd, un_not, un_neg, Option.bind_some, Option.bind_none, Option.map_some, Option.map_none, Option.getD_some, List.map_cons, List.map_nil, List.all_cons, List.all_nil, List.any_nil, List.length_cons, List.length_nil, List.drop_zero, List.append_nil, List.nil_append, List.cons_append, List.getElem?_cons_zero, List.getElem?_cons_succ, List.drop_succ_cons, List.take_succ_cons, List.take_zero, List.zip_cons_cons, List.zip_nil_left, Bool.and_true, Bool.true_and, Bool.and_false, Bool.false_and, Bool.and_self, Bool.not_true, Bool.not_false, Bool.not_eq_true', Bool.false_eq_true, if_true, if_false, ite_self, reduceCtorEq, reduceIte, ne_eq, not_false_eq_true, not_true_eq_false, and_self, and_true, true_and, and_false, false_and, Nat.zero_add, Nat.add_zero, Nat.mul_one, Nat.one_mul, Nat.zero_mul, Nat.mul_zero, Nat.reduceAdd, Nat.reduceMul, Nat.reduceSub, Nat.reduceLT, Nat.reduceLeDiff, Nat.reduceEqDiff, decide_true, decide_false, decide_eq_true_eq, decide_eq_false_iff_not, Nat.le_refl, Nat.zero_le, Int.toNat_natCast, Int.reduceToNat, Int.reduceLE, Int.reduceLT, Int.natCast_nonneg, Int.reduceEq, refB, List.length_nil, Nat.add_zero, List.flatMap_nil, List.append_nil] using hO, hO4, hO43, rfl⟩
  | m + 1, d, n, cs, fr, lh, hm0, hm1, hd, hnm, h2, h4, h10, h12, h14, h16, hO4, hO43, hO => by
    have hm2 := hm1 (by omega)
    have hle : d ≤ hgh := by omega
    have hw1 : wr .i64 (d + 1) = d + 1 := wr64 (by omega)
    have hI0 := fun fr => Q1 z hz l v cc ss lims hl hf hcc hv hli i hi d (by omega) lh sh g wm43 hO4 hO43 ss.length 0 0 false fr (by omega) (by omega) sbd_zero
    simp only [Int.zero_add, List.drop_zero, Bool.false_or] at hI0
    have hI := fun fr h2 h4 h10 h12 h16 h17 h18 h19 => loop_fix (hI0 fr h2 h4 h10 h12 h16 h17 h18 h19)
    have hiv : ∀ kk, iaV v (.i kk (i : Int)) 4 = some (.vp (lims[i].nm :: lims[i].ms :: .i .i64 lims[i].most :: .i .i64 lims[i].d :: (lims.drop (i + 1)).flatMap lmC)) := fun kk => by
      rw [hv.ia (sz := 4) (flat_len (f := lmC) (fun _ => rfl) lims) hi, flat_drop (f := lmC) (fun _ => rfl) lims i hi]; rfl
    have hbig := b24 (n := n) (by omega)
    rw [DC_loop]
    generalize hK : DC pE 149 (.loop c35_L2) = K
    have no : ¬ (anyW lims[i].d (dvs z ss i) d = true ∧ lims[i].most < winSum lims[i].d (dvs z ss i) d) → ∀ fr', getF fr' 2 = l → getF fr' 4 = .ptr .L 4 1 0 → getF fr' 10 = .isl .L 43 g 0 ss.length 1 → getF fr' 12 = .i .i64 (i : Int) → getF fr' 14 = .i .i64 hgh → getF fr' 16 = .i .i64 (d + 1) → getF fr' 9 = getF fr 9 →
        ∃ fr'' lh', DC pE 149 (.loop c35_L2) ⟨fr', lh, sh⟩ = some (.ext 6, ⟨fr'', lh', sh⟩) ∧ (OutS lh' (getF fr'' 9) 147 3 (n + (refB lims[i].d lims[i].most i (dvs z ss i) (m + 1) d).length) (cs ++ (refB lims[i].d lims[i].most i (dvs z ss i) (m + 1) d).flatMap brT) ∧ getO lh' 4 = ⟨1, .cells cc 0 true⟩ ∧ getO lh' 43 = ⟨g, .cells (ints (ss.map fun s => z.day s.a)) wm43 false⟩ ∧ getO lh' 3 = getO lh 3) := by
      intro hc fr' e2 e4 e10 e12 e14 e16 e9
      rw [refB_no hc]
      exact Q2 i hi hgh hhi sh g wm43 m (d + 1) n cs fr' lh (by omega) (by omega) (by omega) (by omega) e2 e4 e10 e12 e14 e16 hO4 hO43 (by rw [e9]; exact hO)
    cases ha : anyW lims[i].d (dvs z ss i) d with
    | false =>
      rw [ha] at hI
      simp (maxDischargeDepth := 6) only [Int.cast_ofNat_Int, frL_presM, Nat.reduceShiftRight, Nat.reduceMod, DC_seq, DC_skip, DC_exit, DC_region, DC_block, p_cond, isB_b, isT_b, andThen_nrm, outOf_nrm, outOf_ext, map_ite, kv_some, kc_some, e_nil, o_mv, p_pick, pickV_b, p_bin, p_build, buildV, p_bsl, bslV, g_skipT, setD, rd_t, rd_c, get_same, get_ne, bslW, froz_agg, froz1_b, froz1_i, fzV_froz, fzL_nil, fzL_cons, ups_nil, cells_agg, cells_i, noTup_agg, noTup_i, splice, fills, repl, Nat.reduceAdd, List.all_nil, decide_true, bin_add, bin_leq, Option.bind_some, Option.map_some, Option.map_none, List.map_cons, List.map_nil, List.all_cons, List.all_nil, List.length_cons, List.length_nil, List.append_nil, List.zip_cons_cons, List.zip_nil_left, Bool.and_self, Bool.false_eq_true, if_true, if_false, ne_eq, not_false_eq_true, Nat.zero_add, Nat.zero_mul, Nat.reduceAdd, Nat.reduceLT, Nat.reduceLeDiff, Nat.reduceEqDiff, decide_true, Nat.le_refl, c35_L2, h2, h4, h10, h12, h14, h16, hle, hw1, (hI _ _ _ _ _ _ _ _ _).1, (hI _ _ _ _ _ _ _ _ _).2.2, c35_L1_w]
      rw [← hK]
      refine no (by rw [ha]; simp) _ ?_ ?_ ?_ ?_ ?_ ?_ ?_ <;> simp only [frL_presM, Nat.reduceShiftRight, Nat.reduceMod, get_same, get_ne, ne_eq, not_false_eq_true, Nat.reduceEqDiff, c35_L1_w, h2, h4, h10, h12, h14]
    | true =>
      rw [ha] at hI
      by_cases hc : lims[i].most < winSum lims[i].d (dvs z ss i) d
      · have hR := refB_yes (i := i) (m := m) (D := lims[i].d) (most := lims[i].most) (l := dvs z ss i) (d := d) ⟨ha, hc⟩
        have hR1 : n + (refB lims[i].d lims[i].most i (dvs z ss i) (m + 1) d).length = (n + 1) + (refB lims[i].d lims[i].most i (dvs z ss i) m (d + 1)).length := by rw [hR, List.length_cons]; omega
        have hR2 : cs ++ (refB lims[i].d lims[i].most i (dvs z ss i) (m + 1) d).flatMap brT = (cs ++ brC (i : Int) d) ++ (refB lims[i].d lims[i].most i (dvs z ss i) m (d + 1)).flatMap brT := by rw [hR, List.flatMap_cons, List.append_assoc]; rfl
        rw [hR1, hR2]
        rcases hO with ⟨e0, e1, e2⟩ | ⟨g', wm, e1, e2, e3, e4⟩
        · subst e0 e2
          simp (maxDischargeDepth := 6) only [Int.cast_ofNat_Int, frL_presM, Nat.reduceShiftRight, Nat.reduceMod, DC_seq, DC_skip, DC_exit, DC_region, DC_block, p_cond, isB_b, isT_b, andThen_nrm, outOf_nrm, outOf_ext, map_ite, kv_some, ka_some, kc_some, e_nil, o_mv, p_pick, pickV_b, p_bin, p_build, buildV, p_fa, faV_vp, faV_ptr, p_ia, p_ld, ldV_vp, ldV_L, ldE_cells, p_app, appW, slC_sl, appV_nil, notS_nilsl, p_bsl, bslV, g_passT, setD, rd_t, rd_c, get_same, get_ne, bslW, froz_agg, froz1_b, froz1_i, fzV_froz, fzL_nil, fzL_cons, ups_nil, cells_agg, cells_i, noTup_agg, noTup_i, splice, part_f, fills, repl, Nat.reduceAdd, List.all_nil, decide_true, bin_add, bin_leq, bin_gtr, Option.bind_some, Option.map_some, Option.map_none, List.map_cons, List.map_nil, List.all_cons, List.all_nil, List.length_cons, List.length_nil, List.drop_zero, List.append_nil, List.nil_append, List.getElem?_cons_zero, List.drop_succ_cons, List.zip_cons_cons, List.zip_nil_left, Bool.and_self, if_true, ne_eq, not_false_eq_true, Nat.zero_add, Nat.one_mul, Nat.zero_mul, Nat.reduceAdd, Nat.reduceLT, Nat.reduceLeDiff, Nat.reduceEqDiff, decide_true, Nat.le_refl, c35_L2, h2, h4, h10, h12, h14, h16, hO4, hcc, hiv, hle, hw1, hc, e1, (hI _ _ _ _ _ _ _ _ _).1, (hI _ _ _ _ _ _ _ _ _).2.1, (hI _ _ _ _ _ _ _ _ _).2.2, c35_L1_w, roomy]
          rw [← hK]
          refine ex2_mono (Q2 i hi hgh hhi sh g wm43 m (d + 1) (0 + 1) ([] ++ brC (i : Int) d) _ _ (by omega) (by omega) (by omega) (by omega) ?_ ?_ ?_ ?_ ?_ ?_ ?_ ?_ ?_) (fun fr' lh' h => ⟨h.1, h.2.1, h.2.2.1, by rw [h.2.2.2, getO_ne _ _ (by decide)]⟩)
          · simp only [frL_presM, Nat.reduceShiftRight, Nat.reduceMod, get_ne, ne_eq, not_false_eq_true, Nat.reduceEqDiff, c35_L1_w, h2]
          · simp only [frL_presM, Nat.reduceShiftRight, Nat.reduceMod, get_ne, ne_eq, not_false_eq_true, Nat.reduceEqDiff, c35_L1_w, h4]
          · simp only [frL_presM, Nat.reduceShiftRight, Nat.reduceMod, get_ne, ne_eq, not_false_eq_true, Nat.reduceEqDiff, c35_L1_w, h10]
          · simp only [frL_presM, Nat.reduceShiftRight, Nat.reduceMod, get_ne, ne_eq, not_false_eq_true, Nat.reduceEqDiff, c35_L1_w, h12]
          · simp only [frL_presM, Nat.reduceShiftRight, Nat.reduceMod, get_ne, ne_eq, not_false_eq_true, Nat.reduceEqDiff, c35_L1_w, h14]
          · simp only [get_same]
          · rw [getO_ne _ _ (by decide)]; exact hO4
          · rw [getO_ne _ _ (by decide)]; exact hO43
          · refine Or.inr ⟨(getO lh 147).g + 1, 0, ?_, ?_, rfl, by omega⟩
            · simp only [get_same, get_ne, ne_eq, not_false_eq_true, Nat.zero_add, Nat.reduceEqDiff]
            · simp only [getO_same, List.nil_append]; rfl
        · simp (maxDischargeDepth := 6) only [Int.cast_ofNat_Int, frL_presM, Nat.reduceShiftRight, Nat.reduceMod, DC_seq, DC_skip, DC_exit, DC_region, DC_block, p_cond, isB_b, isT_b, andThen_nrm, outOf_nrm, outOf_ext, map_ite, kv_some, ka_some, kc_some, e_nil, o_mv, p_pick, pickV_b, p_bin, p_build, buildV, p_fa, faV_vp, faV_ptr, p_ia, p_ld, ldV_vp, ldV_L, ldE_cells, p_app, appW, slC_sl, appE_cells, appV_isl, notS_isl, p_bsl, bslV, g_passT, setD, rd_t, rd_c, get_same, get_ne, bslW, froz_agg, froz1_b, froz1_i, fzV_froz, fzL_nil, fzL_cons, ups_nil, cells_agg, cells_i, noTup_agg, noTup_i, splice, part_f, fills, repl, Nat.reduceAdd, List.all_nil, decide_true, bin_add, bin_leq, bin_gtr, Option.bind_some, Option.map_some, Option.map_none, List.map_cons, List.map_nil, List.all_cons, List.all_nil, List.length_cons, List.length_nil, List.drop_zero, List.append_nil, List.getElem?_cons_zero, List.drop_succ_cons, List.zip_cons_cons, List.zip_nil_left, Bool.and_self, if_true, ne_eq, not_false_eq_true, and_self, Nat.zero_add, Nat.one_mul, Nat.zero_mul, Nat.reduceAdd, Nat.reduceLT, Nat.reduceLeDiff, Nat.reduceEqDiff, decide_true, Nat.le_refl, c35_L2, h2, h4, h10, h12, h14, h16, hO4, hcc, hiv, hle, hw1, hc, e1, e2, e3, hbig, (hI _ _ _ _ _ _ _ _ _).1, (hI _ _ _ _ _ _ _ _ _).2.1, (hI _ _ _ _ _ _ _ _ _).2.2, c35_L1_w, roomy]
          rw [← hK]
          refine ex2_mono (Q2 i hi hgh hhi sh g wm43 m (d + 1) (n + 1) (cs ++ brC (i : Int) d) _ _ (by omega) (by omega) (by omega) (by omega) ?_ ?_ ?_ ?_ ?_ ?_ ?_ ?_ ?_) (fun fr' lh' h => ⟨h.1, h.2.1, h.2.2.1, by rw [h.2.2.2, getO_ne _ _ (by decide)]⟩)
          · simp only [frL_presM, Nat.reduceShiftRight, Nat.reduceMod, get_ne, ne_eq, not_false_eq_true, Nat.reduceEqDiff, c35_L1_w, h2]
          · simp only [frL_presM, Nat.reduceShiftRight, Nat.reduceMod, get_ne, ne_eq, not_false_eq_true, Nat.reduceEqDiff, c35_L1_w, h4]
          · simp only [frL_presM, Nat.reduceShiftRight, Nat.reduceMod, get_ne, ne_eq, not_false_eq_true, Nat.reduceEqDiff, c35_L1_w, h10]
          · simp only [frL_presM, Nat.reduceShiftRight, Nat.reduceMod, get_ne, ne_eq, not_false_eq_true, Nat.reduceEqDiff, c35_L1_w, h12]
          · simp only [frL_presM, Nat.reduceShiftRight, Nat.reduceMod, get_ne, ne_eq, not_false_eq_true, Nat.reduceEqDiff, c35_L1_w, h14]
          · simp only [get_same]
          · rw [getO_ne _ _ (by decide)]; exact hO4
          · rw [getO_ne _ _ (by decide)]; exact hO43
          · refine Or.inr ⟨g' + 1, wm, ?_, ?_, by rw [List.length_append, e3]; show n * 3 + 3 = _; omega, by omega⟩
            · simp only [get_same, get_ne, ne_eq, not_false_eq_true, Nat.reduceEqDiff]
            · simp only [getO_same]; rfl
      · simp (maxDischargeDepth := 6) only [Int.cast_ofNat_Int, frL_presM, Nat.reduceShiftRight, Nat.reduceMod, DC_seq, DC_skip, DC_exit, DC_region, DC_block, p_cond, isB_b, isT_b, andThen_nrm, outOf_nrm, outOf_ext, map_ite, kv_some, kc_some, e_nil, o_mv, p_pick, pickV_b, p_bin, p_build, buildV, p_fa, faV_vp, faV_ptr, p_ia, p_ld, ldV_vp, ldV_L, ldE_cells, p_bsl, bslV, g_passT, setD, rd_t, rd_c, get_same, get_ne, bslW, froz_agg, froz1_b, froz1_i, fzV_froz, fzL_nil, fzL_cons, ups_nil, cells_agg, cells_i, noTup_agg, noTup_i, splice, part_f, fills, repl, Nat.reduceAdd, List.all_nil, decide_true, bin_add, bin_leq, bin_gtr, Option.bind_some, Option.map_some, Option.map_none, List.map_cons, List.map_nil, List.all_cons, List.all_nil, List.length_cons, List.length_nil, List.drop_zero, List.append_nil, List.getElem?_cons_zero, List.drop_succ_cons, List.zip_cons_cons, List.zip_nil_left, Bool.and_self, Bool.false_eq_true, if_true, if_false, ite_self, ne_eq, not_false_eq_true, Nat.zero_add, Nat.zero_mul, Nat.reduceAdd, Nat.reduceLT, Nat.reduceLeDiff, Nat.reduceEqDiff, decide_true, decide_false, Nat.le_refl, c35_L2, h2, h4, h10, h12, h14, h16, hO4, hcc, hiv, hle, hw1, hc, (hI _ _ _ _ _ _ _ _ _).1, (hI _ _ _ _ _ _ _ _ _).2.1, (hI _ _ _ _ _ _ _ _ _).2.2, c35_L1_w]
        rw [← hK]
        refine no (fun h => hc h.2) _ ?_ ?_ ?_ ?_ ?_ ?_ ?_ <;> simp only [frL_presM, Nat.reduceShiftRight, Nat.reduceMod, get_same, get_ne, ne_eq, not_false_eq_true, Nat.reduceEqDiff, c35_L1_w, h2, h4, h10, h12, h14]
end
end Go.Proofs.YtfenhjpkomldcaaGreat
