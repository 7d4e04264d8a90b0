/- The reference's DaysOff. Conditions: none beyond the theorems' own. -/
import Derived.Test.YtfenhjpkomldcaaGreatRD
import Derived.Test.YtfenhjpkomldcaaGreatTN
set_option maxRecDepth 100000
set_option maxHeartbeats 4000000
set_option linter.unusedSimpArgs false
set_option linter.unusedVariables false
namespace Go.Proofs.YtfenhjpkomldcaaGreat
open Go Go.Ev
/-- The free ones of m days from day k on. -/
def frC (z : Zn) (ss : List Sti) : Nat → Int → Int
  | 0, _ => 0
  | m + 1, k => (if busyB z ss k = true then 0 else 1) + frC z ss m (k + 1)
/-- The days from d on, m of them, at which free days are missing. -/
def refL (z : Zn) (ss : List Sti) (D : Nat) (cnt : Int) : Nat → Int → List Int
  | 0, _ => []
  | m + 1, d => (if frC z ss D d < cnt then [d] else []) ++ refL z ss D cnt m (d + 1)
theorem OutS.ans2 {lh : Tri Ent} {v : T} {k sz n : Nat} {cs : List T} (sh : List Ent) (h : OutS lh v k sz n cs) : ansV lh sh false [v, .i .i64 0] = some (.tup [outT n cs, .i .i64 0], sh) := by
  rw [ansV_gen2]
  rcases h with ⟨h0, h1, h2⟩ | ⟨g, wm, h1, h2, h3, h4⟩
  · subst h0 h1 h2; rfl
  · subst h1
    rw [fzV_tupK, fzWL_cons, fzW_isl, h2, islV_cells, if_pos ⟨rfl, by omega⟩]
    have e : (cs.drop 0).take (n * sz) = cs := by rw [List.drop_zero, ← h3]; exact List.take_length
    rw [e]
    unfold outT
    rw [if_neg (by omega)]
    rfl
section
variable (z : Zn) (hz : z.ok) (l : T) (ss : List Sti) (hl : IsSl l ss.length (ss.flatMap stC)) (hn : ss.length ≤ 200) (hsp : ∀ s ∈ ss, 0 ≤ s.a ∧ s.a < s.b ∧ s.b ≤ 52596000) (m0 d0 m1 d1 cnt : Int) (D : Nat) (hD : 1 ≤ D ∧ D ≤ 31)
include hz hl hn hsp hD
theorem R1 (d : Int) (hd : -100000 ≤ d ∧ d ≤ 100000) (lh : Tri Ent) (sh : List Ent) (hO5 : getO lh 5 = ⟨1, .cells [.s [108, 111, 99, 97, 108], .i .i64 z.off, shT z.sh] 0 true⟩) (hO6 : getO lh 6 = ⟨1, .cells (conC m0 d0 m1 d1 cnt (D : Int)) 0 true⟩) : ∀ (m : Nat) (k c : Int) (fr : Fr), d + D - k = m → d ≤ k → 0 ≤ c ∧ c ≤ 1000 - m →
    getF fr 2 = l → getF fr 5 = .ptr .L 5 1 0 → getF fr 6 = .ptr .L 6 1 0 → getF fr 14 = .i .i64 0 → getF fr 15 = .i .i64 d → getF fr 16 = .i .i64 c → getF fr 17 = .i .i64 k →
    ∃ fr', DC pE 83 (.loop c42_L1) ⟨fr, lh, sh⟩ = some (.ext 4, ⟨fr', lh, sh⟩) ∧ getF fr' 16 = .i .i64 (c + frC z ss m k)
  | 0, k, c, fr, hm, hk, hc, h2, h5, h6, h14, h15, h16, h17 => by
    have hw : wr .i64 (d + (D : Int)) = d + D := wr64 (by omega)
    have hlt : ¬ k < d + (D : Int) := by omega
    rw [DC_loop]
    generalize hK : DC pE 83 (.loop c42_L1) = K
    unfold conC at hO6
    simp only [DC_seq, DC_skip, DC_exit, DC_region, p_cond, isB_b, isT_b, andThen_nrm, andThen_ext, kv_some, e_nil, o_mv, p_bin, p_fa, faV_vp, faV_ptr, p_ia, iaV_sl, p_ld, ldV_vp, ldV_L, ldE_cells, rd_t, get_same, get_ne, part_f, Nat.reduceAdd, bin_add, bin_lss, Option.map_some, List.length_cons, List.length_nil, List.drop_zero, List.getElem?_cons_zero, List.getElem?_cons_succ, List.drop_succ_cons, Bool.false_eq_true, if_true, if_false, ne_eq, not_false_eq_true, and_self, Nat.zero_add, Nat.one_mul, Nat.zero_mul, Nat.reduceAdd, Nat.reduceLT, Nat.reduceLeDiff, Nat.reduceEqDiff, decide_false, Nat.le_refl, Int.reduceToNat, Int.reduceLE, c42_L1, offC, h6, h14, h15, h17, hO6, hw, hlt]
    exact ⟨_, rfl, by simp only [get_ne, ne_eq, not_false_eq_true, Nat.reduceEqDiff, h16, frC, Int.add_zero]⟩
  | m + 1, k, c, fr, hm, hk, hc, h2, h5, h6, h14, h15, h16, h17 => by
    have hw : wr .i64 (d + (D : Int)) = d + D := wr64 (by omega)
    have hlt : k < d + (D : Int) := by omega
    have hw1 : wr .i64 (k + 1) = k + 1 := wr64 (by omega)
    have hw2 : wr .i64 (c + 1) = c + 1 := wr64 (by omega)
    have hf := free_ev z hz l ss hl hn hsp k
    unfold Zn.t at hf
    have hO6' := hO6
    rw [DC_loop]
    generalize hK : DC pE 83 (.loop c42_L1) = K
    unfold conC at hO6
    cases hb : busyB z ss k with
    | true =>
      rw [hb] at hf
      simp only [DC_seq, DC_skip, DC_exit, DC_region, DC_block, p_cond, isB_b, isT_b, andThen_nrm, outOf_nrm, kv_some, kc_some, e_nil, o_mv, p_bin, p_fa, faV_vp, faV_ptr, p_ia, iaV_sl, p_ld, ldV_vp, ldV_L, ldE_cells, p_call, setD, rd_t, rd_c, get_same, get_ne, froz_i, froz_agg, froz1_i, froz1_s, part_t, part_f, Nat.reduceAdd, List.all_nil, decide_true, bin_add, bin_lss, Option.bind_some, Option.map_some, List.map_cons, List.map_nil, List.all_cons, List.all_nil, List.length_cons, List.length_nil, List.drop_zero, List.getElem?_cons_zero, List.getElem?_cons_succ, List.drop_succ_cons, List.take_succ_cons, List.take_zero, Bool.and_self, Bool.not_true, Bool.false_eq_true, if_true, if_false, ne_eq, not_false_eq_true, and_self, Nat.zero_add, Nat.one_mul, Nat.zero_mul, Nat.reduceAdd, Nat.reduceLT, Nat.reduceLeDiff, Nat.reduceEqDiff, decide_true, Nat.le_refl, Int.reduceToNat, Int.reduceLE, c42_L1, offC, h2, h5, h6, h14, h15, h16, h17, hO5, hO6, hw, hlt, hw1, hf, dc79, shT_f1, hl.froz, Bool.not_true]
      rw [← hK]
      have he : c + frC z ss (m + 1) k = c + frC z ss m (k + 1) := by
        conv => lhs; unfold frC
        rw [hb]; simp
      rw [he]
      refine R1 d hd lh sh hO5 hO6' m (k + 1) c _ (by omega) (by omega) (by omega) ?_ ?_ ?_ ?_ ?_ ?_ ?_ <;> simp only [get_same, get_ne, ne_eq, not_false_eq_true, Nat.reduceEqDiff, h2, h5, h6, h14, h15, h16]
    | false =>
      rw [hb] at hf
      simp only [DC_seq, DC_skip, DC_exit, DC_region, DC_block, p_cond, isB_b, isT_b, andThen_nrm, outOf_nrm, kv_some, kc_some, e_nil, o_mv, p_bin, p_fa, faV_vp, faV_ptr, p_ia, iaV_sl, p_ld, ldV_vp, ldV_L, ldE_cells, p_call, setD, rd_t, rd_c, get_same, get_ne, froz_i, froz_agg, froz1_i, froz1_s, part_t, part_f, Nat.reduceAdd, List.all_nil, decide_true, bin_add, bin_lss, Option.bind_some, Option.map_some, List.map_cons, List.map_nil, List.all_cons, List.all_nil, List.length_cons, List.length_nil, List.drop_zero, List.getElem?_cons_zero, List.getElem?_cons_succ, List.drop_succ_cons, List.take_succ_cons, List.take_zero, Bool.and_self, Bool.not_false, if_true, ne_eq, not_false_eq_true, and_self, Nat.zero_add, Nat.one_mul, Nat.zero_mul, Nat.reduceAdd, Nat.reduceLT, Nat.reduceLeDiff, Nat.reduceEqDiff, decide_true, Nat.le_refl, Int.reduceToNat, Int.reduceLE, c42_L1, offC, h2, h5, h6, h14, h15, h16, h17, hO5, hO6, hw, hlt, hw1, hw2, hf, dc79, shT_f1, hl.froz, Bool.not_false]
      rw [← hK]
      have he : c + frC z ss (m + 1) k = c + 1 + frC z ss m (k + 1) := by
        conv => lhs; unfold frC
        rw [hb]; simp; omega
      rw [he]
      refine R1 d hd lh sh hO5 hO6' m (k + 1) (c + 1) _ (by omega) (by omega) (by omega) ?_ ?_ ?_ ?_ ?_ ?_ ?_ <;> simp only [get_same, get_ne, ne_eq, not_false_eq_true, Nat.reduceEqDiff, h2, h5, h6, h14, h15]
theorem R2 (to_ : Int) (hto : -100000 ≤ to_ ∧ to_ ≤ 100000) (sh : List Ent) : ∀ (m : Nat) (d : Int) (n : Nat) (cs : List T) (fr : Fr) (lh : Tri Ent), (m = 0 → to_ < d + D) → (m ≠ 0 → d + D + m = to_ + 1) → -100000 ≤ d ∧ d ≤ 100000 → n + m ≤ 2000 →
    getF fr 2 = l → getF fr 4 = .i .i64 to_ → getF fr 5 = .ptr .L 5 1 0 → getF fr 6 = .ptr .L 6 1 0 → getF fr 14 = .i .i64 0 → getF fr 15 = .i .i64 d → getO lh 5 = ⟨1, .cells [.s [108, 111, 99, 97, 108], .i .i64 z.off, shT z.sh] 0 true⟩ → getO lh 6 = ⟨1, .cells (conC m0 d0 m1 d1 cnt (D : Int)) 0 true⟩ → OutS lh (getF fr 13) 81 3 n cs →
    ∃ fr' lh', DC pE 83 (.loop c42_L2) ⟨fr, lh, sh⟩ = some (.ext 2, ⟨fr', lh', sh⟩) ∧ (OutS lh' (getF fr' 13) 81 3 (n + (refL z ss D cnt m d).length) (cs ++ (refL z ss D cnt m d).flatMap (ofC 0)) ∧ getO lh' 6 = ⟨1, .cells (conC m0 d0 m1 d1 cnt (D : Int)) 0 true⟩)
  | 0, d, n, cs, fr, lh, hm0, hm1, hd, hnm, h2, h4, h5, h6, h14, h15, hO5, hO6, hO => by
    have hw : wr .i64 (d + (D : Int)) = d + D := wr64 (by omega)
    have hle : ¬ d + (D : Int) ≤ to_ := by have := hm0 rfl; omega
    have hO6' := hO6
    rw [DC_loop]
    generalize hK : DC pE 83 (.loop c42_L2) = K
    unfold conC at hO6
    simp only [DC_seq, DC_skip, DC_exit, DC_region, p_cond, isB_b, isT_b, andThen_nrm, andThen_ext, kv_some, e_nil, o_mv, p_bin, p_fa, faV_vp, faV_ptr, p_ia, iaV_sl, p_ld, ldV_vp, ldV_L, ldE_cells, rd_t, get_same, get_ne, part_f, Nat.reduceAdd, bin_add, bin_leq, Option.map_some, List.length_cons, List.length_nil, List.drop_zero, List.getElem?_cons_zero, List.getElem?_cons_succ, List.drop_succ_cons, Bool.false_eq_true, if_true, if_false, ne_eq, not_false_eq_true, and_self, Nat.zero_add, Nat.one_mul, Nat.zero_mul, Nat.reduceAdd, Nat.reduceLT, Nat.reduceLeDiff, Nat.reduceEqDiff, decide_false, Nat.le_refl, Int.reduceToNat, Int.reduceLE, c42_L2, offC, h4, h6, h14, h15, hO6, hw, hle]
    exact ⟨_, _, rfl, by simpa only [Int.cast_ofNat_Int, and_1, and_3, and_7, and_15, and_31, and_63, and_127, and_255, and_511, and_1023, and_65535, shr_0, shr_2, shr_3, shr_4, shr_5, shr_6, shr_8, shr_14, shr_16, shr_18, shr_20, shr_21, shr_24, shr_25, wr64, wru64, Int.reduceAdd, Int.reduceSub, Int.reduceMul, Int.reduceNeg, frL_presM, Nat.reduceShiftRight, Nat.reduceMod, implies_true, forall_const, DC_seq, DC_skip, DC_exit, DC_ret, DC_region, DC_calm, DC_block, p_cond, isB_b, isT_b, andThen_nrm, andThen_ext, andThen_ret, andThen_none, andThen_ite, outOf_nrm, outOf_ret, outOf_ext, outOf_none, outOf_ite, endR_ite, endR_ret, endR_nrm, endO_ite, endO_ret, endO_nrm, map_ite, bind_ite, kv_some, kv_none, kv_ite, kn_some, kn_none, ks_some, ks_none, ks_ite, ka_some, ka_none, ka_ite, kc_some, kc_none, kc_ite, e_nil, o_mv, o_mkfn, o_lenC, o_alloc, o_box, o_mkmap, p_pick, pickV_b, p_bin, p_eq, p_un, p_cvi, cviV_i, p_build, buildV, p_slS, slSV, p_fa, faV_vp, faV_ptr, p_fld, fldV_agg, p_ia, iaV_sl, iaV_isl, p_iaA, iaAV, p_ixS, ixSV_s, p_ixA, ixAV, p_ext, extV_tup, p_lenS, lenSV_s, p_lenV, lenI_nil, lenI_sl, lenI_isl, lenT_nil, lenT_sl, lenT_isl, p_mm, mmV, minmax, p_nck, p_nckN, nckV_vp, nckV_ptr, nckV_fn, p_ld, ldV_vp, ldV_L, ldV_S, ldE_cells, p_mksl, mkslV, mkOk, p_st, stV_L, stB_box, stB_row, p_app, appW, slC_nil, slC_sl, slC_s, slC_isl, slE_cells, appE_cells, appV_nil, appV_sl, appV_isl, notS_nilsl, notS_sl, notS_isl, notS_mp, p_slV, slVV, subV, p_lk, lkV, p_mu, muV, p_bsl, bslW_froz, bslV, p_call, p_callN, p_callv, doCallV, g_passT, g_passF, g_skipT, g_skipF, g_undefT, g_skipNT, g_skipNF, setD, rd_t, rd_c, get_same, get_ne, getO_same, getO_ne, getO_nil, get_nil, noEnt, resV, ansV_gen, ansV_gen2, fzW_froz1, fzW_isl, fzW_mp, fzWL_nil, fzWL_cons, fzV_aggK, fzV_tupK, fzW_aggK, bslW, froz_b, froz_i, froz_s, froz_nilsl, froz_sl, froz_nilptr, froz_vp, froz_nilmp, froz_vm, froz_nilfn, froz_agg, froz_tup, froz_fn, froz1_b, froz1_i, froz1_s, froz1_nilsl, froz1_sl, froz1_nilptr, froz1_vp, froz1_nilmp, froz1_vm, froz1_nilfn, frOf, frFrom, fzV_froz, fzL_nil, fzL_cons, fzV_isl, islV_cells, fzV_mp, mpV_map, ups_nil, ups_L, cells_agg, cells_b, cells_i, cells_s, cells_nilsl, cells_sl, cells_isl, cells_ptr, cells_vp, cells_nilptr, cells_mp, cells_vm, cells_nilmp, noTup_agg, noTup_b, noTup_i, noTup_s, noTup_nilsl, noTup_sl, noTup_isl, noTup_ptr, noTup_vp, noTup_nilptr, noTup_mp, noTup_vm, noTup_nilmp, splice, part_t, part_f, fills, repl, optVal, asNat_i, scalar_b, scalar_i, scalar_s, scalar_nilsl, scalar_sl, scalar_agg, backD, calmOp, Nat.reduceAdd, List.all_nil, Nat.lt_irrefl, decide_true, bin_add, bin_sub, bin_mul, bin_quo, bin_rem, bin_eql, bin_neq, bin_lss, bin_leq, bin_gtr, bin_geq, bin_seql, bin_sneq, bin_slss, bin_sadd, un_not, un_neg, Option.bind_some, Option.bind_none, Option.map_some, Option.map_none, Option.getD_some, List.map_cons, List.map_nil, List.all_cons, List.all_nil, List.any_nil, List.length_cons, List.length_nil, List.drop_zero, List.append_nil, List.nil_append, List.cons_append, List.getElem?_cons_zero, List.getElem?_cons_succ, List.drop_succ_cons, List.take_succ_cons, List.take_zero, List.zip_cons_cons, List.zip_nil_left, Bool.and_true, Bool.true_and, Bool.and_false, Bool.false_and, Bool.and_self, Bool.not_true, Bool.not_false, Bool.not_eq_true', Bool.false_eq_true, if_true, if_false, ite_self, reduceCtorEq, reduceIte, ne_eq, not_false_eq_true, not_true_eq_false, and_self, and_true, true_and, and_false, false_and, Nat.zero_add, Nat.add_zero, Nat.mul_one, Nat.one_mul, Nat.zero_mul, Nat.mul_zero, Nat.reduceAdd, Nat.reduceMul, Nat.reduceSub, Nat.reduceLT, Nat.reduceLeDiff, Nat.reduceEqDiff, decide_true, decide_false, decide_eq_true_eq, decide_eq_false_iff_not, Nat.le_refl, Nat.zero_le, Int.toNat_natCast, Int.reduceToNat, Int.reduceLE, Int.reduceLT, Int.natCast_nonneg, Int.reduceEq, refL, List.length_nil, Nat.add_zero, List.flatMap_nil, List.append_nil] using hO, hO6'⟩
  | m + 1, d, n, cs, fr, lh, hm0, hm1, hd, hnm, h2, h4, h5, h6, h14, h15, hO5, hO6, hO => by
    have hm2 := hm1 (by omega)
    have hw : wr .i64 (d + (D : Int)) = d + D := wr64 (by omega)
    have hle : d + (D : Int) ≤ to_ := by omega
    have hw1 : wr .i64 (d + 1) = d + 1 := wr64 (by omega)
    have hO6' := hO6
    have hI0 := fun fr => R1 z hz l ss hl hn hsp m0 d0 m1 d1 cnt D hD d hd lh sh hO5 hO6 D d 0 fr (by omega) (by omega) (by omega)
    simp only [Int.zero_add] at hI0
    have hI := fun fr h2 h5 h6 h14 h15 h16 h17 => loop_fix (hI0 fr h2 h5 h6 h14 h15 h16 h17)
    have hbig : (n + 1) * 24 ≤ 1099511627776 := by omega
    rw [DC_loop]
    generalize hK : DC pE 83 (.loop c42_L2) = K
    unfold conC at hO6
    by_cases hc : frC z ss D d < cnt
    · have hR : refL z ss D cnt (m + 1) d = d :: refL z ss D cnt m (d + 1) := by
        conv => lhs; unfold refL
        rw [if_pos hc]; rfl
      have hR1 : n + (refL z ss D cnt (m + 1) d).length = (n + 1) + (refL z ss D cnt m (d + 1)).length := by rw [hR, List.length_cons]; omega
      have hR2 : cs ++ (refL z ss D cnt (m + 1) d).flatMap (ofC 0) = (cs ++ ofC 0 d) ++ (refL z ss D cnt m (d + 1)).flatMap (ofC 0) := by rw [hR, List.flatMap_cons, List.append_assoc]
      rw [hR1, hR2]
      rcases hO with ⟨e0, e1, e2⟩ | ⟨g, wm, e1, e2, e3, e4⟩
      · subst e0 e2
        simp (maxDischargeDepth := 6) only [frL_presM, Nat.reduceShiftRight, Nat.reduceMod, DC_seq, DC_skip, DC_exit, DC_region, DC_block, p_cond, isB_b, isT_b, andThen_nrm, outOf_nrm, outOf_ext, map_ite, kv_some, ka_some, kc_some, e_nil, o_mv, p_bin, p_build, buildV, p_fa, faV_vp, faV_ptr, p_ia, iaV_sl, p_ld, ldV_vp, ldV_L, ldE_cells, p_app, appW, slC_sl, appV_nil, notS_nilsl, p_bsl, bslV, setD, rd_t, rd_c, get_same, get_ne, bslW, froz_agg, froz1_b, froz1_i, fzV_froz, fzL_nil, fzL_cons, ups_nil, cells_agg, cells_b, cells_i, noTup_agg, noTup_b, noTup_i, splice, part_f, fills, repl, Nat.reduceAdd, List.all_nil, decide_true, bin_add, bin_lss, bin_leq, Option.bind_some, Option.map_some, Option.map_none, List.map_cons, List.map_nil, List.all_cons, List.all_nil, List.length_cons, List.length_nil, List.drop_zero, List.append_nil, List.nil_append, List.getElem?_cons_zero, List.getElem?_cons_succ, List.drop_succ_cons, List.zip_cons_cons, List.zip_nil_left, Bool.and_self, if_true, ne_eq, not_false_eq_true, and_self, Nat.zero_add, Nat.one_mul, Nat.zero_mul, Nat.reduceAdd, Nat.reduceLT, Nat.reduceLeDiff, Nat.reduceEqDiff, decide_true, Nat.le_refl, Int.reduceToNat, Int.reduceLE, c42_L2, offC, h2, h4, h5, h6, h14, h15, hO6, hw, hle, hw1, e1, (hI _ _ _ _ _ _ _ _).1, (hI _ _ _ _ _ _ _ _).2, c42_L1_w, hc, roomy]
        rw [← hK]
        refine R2 to_ hto sh m (d + 1) (0 + 1) ([] ++ ofC 0 d) _ _ (by omega) (by omega) (by omega) (by omega) ?_ ?_ ?_ ?_ ?_ ?_ ?_ ?_ ?_
        · simp only [frL_presM, Nat.reduceShiftRight, Nat.reduceMod, get_ne, ne_eq, not_false_eq_true, Nat.reduceEqDiff, c42_L1_w, h2]
        · simp only [frL_presM, Nat.reduceShiftRight, Nat.reduceMod, get_ne, ne_eq, not_false_eq_true, Nat.reduceEqDiff, c42_L1_w, h4]
        · simp only [frL_presM, Nat.reduceShiftRight, Nat.reduceMod, get_ne, ne_eq, not_false_eq_true, Nat.reduceEqDiff, c42_L1_w, h5]
        · simp only [frL_presM, Nat.reduceShiftRight, Nat.reduceMod, get_ne, ne_eq, not_false_eq_true, Nat.reduceEqDiff, c42_L1_w, h6]
        · simp only [frL_presM, Nat.reduceShiftRight, Nat.reduceMod, get_ne, ne_eq, not_false_eq_true, Nat.reduceEqDiff, c42_L1_w, h14]
        · simp only [get_same]
        · simp only [getO_ne, ne_eq, not_false_eq_true, Nat.reduceEqDiff, hO5]
        · rw [getO_ne _ _ (by decide)]; exact hO6'
        · refine Or.inr ⟨(getO lh 81).g + 1, 0, ?_, ?_, rfl, by omega⟩
          · simp only [get_same, get_ne, ne_eq, not_false_eq_true, Nat.zero_add, Nat.reduceEqDiff]
          · simp only [getO_same, List.nil_append]; rfl
      · simp (maxDischargeDepth := 6) only [frL_presM, Nat.reduceShiftRight, Nat.reduceMod, DC_seq, DC_skip, DC_exit, DC_region, DC_block, p_cond, isB_b, isT_b, andThen_nrm, outOf_nrm, outOf_ext, map_ite, kv_some, ka_some, kc_some, e_nil, o_mv, p_bin, p_build, buildV, p_fa, faV_vp, faV_ptr, p_ia, iaV_sl, p_ld, ldV_vp, ldV_L, ldE_cells, p_app, appW, slC_sl, appE_cells, appV_isl, notS_isl, p_bsl, bslV, setD, rd_t, rd_c, get_same, get_ne, bslW, froz_agg, froz1_b, froz1_i, fzV_froz, fzL_nil, fzL_cons, ups_nil, cells_agg, cells_b, cells_i, noTup_agg, noTup_b, noTup_i, splice, part_f, fills, repl, Nat.reduceAdd, List.all_nil, decide_true, bin_add, bin_lss, bin_leq, Option.bind_some, Option.map_some, Option.map_none, List.map_cons, List.map_nil, List.all_cons, List.all_nil, List.length_cons, List.length_nil, List.drop_zero, List.append_nil, List.getElem?_cons_zero, List.getElem?_cons_succ, List.drop_succ_cons, List.zip_cons_cons, List.zip_nil_left, Bool.and_self, if_true, ne_eq, not_false_eq_true, and_self, Nat.zero_add, Nat.one_mul, Nat.zero_mul, Nat.reduceAdd, Nat.reduceLT, Nat.reduceLeDiff, Nat.reduceEqDiff, decide_true, Nat.le_refl, Int.reduceToNat, Int.reduceLE, c42_L2, offC, h2, h4, h5, h6, h14, h15, hO6, hw, hle, hw1, e1, e2, e3, hbig, (hI _ _ _ _ _ _ _ _).1, (hI _ _ _ _ _ _ _ _).2, c42_L1_w, hc, roomy]
        rw [← hK]
        refine R2 to_ hto sh m (d + 1) (n + 1) (cs ++ ofC 0 d) _ _ (by omega) (by omega) (by omega) (by omega) ?_ ?_ ?_ ?_ ?_ ?_ ?_ ?_ ?_
        · simp only [frL_presM, Nat.reduceShiftRight, Nat.reduceMod, get_ne, ne_eq, not_false_eq_true, Nat.reduceEqDiff, c42_L1_w, h2]
        · simp only [frL_presM, Nat.reduceShiftRight, Nat.reduceMod, get_ne, ne_eq, not_false_eq_true, Nat.reduceEqDiff, c42_L1_w, h4]
        · simp only [frL_presM, Nat.reduceShiftRight, Nat.reduceMod, get_ne, ne_eq, not_false_eq_true, Nat.reduceEqDiff, c42_L1_w, h5]
        · simp only [frL_presM, Nat.reduceShiftRight, Nat.reduceMod, get_ne, ne_eq, not_false_eq_true, Nat.reduceEqDiff, c42_L1_w, h6]
        · simp only [frL_presM, Nat.reduceShiftRight, Nat.reduceMod, get_ne, ne_eq, not_false_eq_true, Nat.reduceEqDiff, c42_L1_w, h14]
        · simp only [get_same]
        · simp only [getO_ne, ne_eq, not_false_eq_true, Nat.reduceEqDiff, hO5]
        · rw [getO_ne _ _ (by decide)]; exact hO6'
        · refine Or.inr ⟨g + 1, wm, ?_, ?_, by rw [List.length_append, e3]; show n * 3 + 3 = _; omega, by omega⟩
          · simp only [get_same, get_ne, ne_eq, not_false_eq_true, Nat.reduceEqDiff]
          · simp only [getO_same]; rfl
    · have hR : refL z ss D cnt (m + 1) d = refL z ss D cnt m (d + 1) := by
        conv => lhs; unfold refL
        rw [if_neg hc]; rfl
      rw [hR]
      simp (maxDischargeDepth := 6) only [frL_presM, Nat.reduceShiftRight, Nat.reduceMod, DC_seq, DC_skip, DC_exit, DC_region, DC_block, p_cond, isB_b, isT_b, andThen_nrm, outOf_nrm, outOf_ext, map_ite, kv_some, kc_some, e_nil, o_mv, p_bin, p_build, buildV, p_fa, faV_vp, faV_ptr, p_ia, iaV_sl, p_ld, ldV_vp, ldV_L, ldE_cells, p_bsl, bslV, setD, rd_t, rd_c, get_same, get_ne, bslW, froz_agg, froz1_b, froz1_i, fzV_froz, fzL_nil, fzL_cons, ups_nil, cells_agg, cells_b, cells_i, noTup_agg, noTup_b, noTup_i, splice, part_f, fills, repl, Nat.reduceAdd, List.all_nil, decide_true, bin_add, bin_lss, bin_leq, Option.bind_some, Option.map_some, Option.map_none, List.map_cons, List.map_nil, List.all_cons, List.all_nil, List.length_cons, List.length_nil, List.drop_zero, List.append_nil, List.getElem?_cons_zero, List.getElem?_cons_succ, List.drop_succ_cons, List.zip_cons_cons, List.zip_nil_left, Bool.and_self, Bool.false_eq_true, if_true, if_false, ne_eq, not_false_eq_true, and_self, Nat.zero_add, Nat.one_mul, Nat.zero_mul, Nat.reduceAdd, Nat.reduceLT, Nat.reduceLeDiff, Nat.reduceEqDiff, decide_true, decide_false, Nat.le_refl, Int.reduceToNat, Int.reduceLE, c42_L2, offC, h2, h4, h5, h6, h14, h15, hO6, hw, hle, hw1, (hI _ _ _ _ _ _ _ _).1, (hI _ _ _ _ _ _ _ _).2, c42_L1_w, hc]
      rw [← hK]
      refine R2 to_ hto sh m (d + 1) n cs _ _ (by omega) (by omega) (by omega) (by omega) ?_ ?_ ?_ ?_ ?_ ?_ hO5 hO6' ?_
      all_goals first | (simp only [frL_presM, Nat.reduceShiftRight, Nat.reduceMod, get_same, get_ne, ne_eq, not_false_eq_true, Nat.reduceEqDiff, c42_L1_w, h2, h4, h5, h6, h14]; done) | (simpa only [Int.cast_ofNat_Int, and_1, and_3, and_7, and_15, and_31, and_63, and_127, and_255, and_511, and_1023, and_65535, shr_0, shr_2, shr_3, shr_4, shr_5, shr_6, shr_8, shr_14, shr_16, shr_18, shr_20, shr_21, shr_24, shr_25, wr64, wru64, Int.reduceAdd, Int.reduceSub, Int.reduceMul, Int.reduceNeg, frL_presM, Nat.reduceShiftRight, Nat.reduceMod, implies_true, forall_const, DC_seq, DC_skip, DC_exit, DC_ret, DC_region, DC_calm, DC_block, p_cond, isB_b, isT_b, andThen_nrm, andThen_ext, andThen_ret, andThen_none, andThen_ite, outOf_nrm, outOf_ret, outOf_ext, outOf_none, outOf_ite, endR_ite, endR_ret, endR_nrm, endO_ite, endO_ret, endO_nrm, map_ite, bind_ite, kv_some, kv_none, kv_ite, kn_some, kn_none, ks_some, ks_none, ks_ite, ka_some, ka_none, ka_ite, kc_some, kc_none, kc_ite, e_nil, o_mv, o_mkfn, o_lenC, o_alloc, o_box, o_mkmap, p_pick, pickV_b, p_bin, p_eq, p_un, p_cvi, cviV_i, p_build, buildV, p_slS, slSV, p_fa, faV_vp, faV_ptr, p_fld, fldV_agg, p_ia, iaV_sl, iaV_isl, p_iaA, iaAV, p_ixS, ixSV_s, p_ixA, ixAV, p_ext, extV_tup, p_lenS, lenSV_s, p_lenV, lenI_nil, lenI_sl, lenI_isl, lenT_nil, lenT_sl, lenT_isl, p_mm, mmV, minmax, p_nck, p_nckN, nckV_vp, nckV_ptr, nckV_fn, p_ld, ldV_vp, ldV_L, ldV_S, ldE_cells, p_mksl, mkslV, mkOk, p_st, stV_L, stB_box, stB_row, p_app, appW, slC_nil, slC_sl, slC_s, slC_isl, slE_cells, appE_cells, appV_nil, appV_sl, appV_isl, notS_nilsl, notS_sl, notS_isl, notS_mp, p_slV, slVV, subV, p_lk, lkV, p_mu, muV, p_bsl, bslW_froz, bslV, p_call, p_callN, p_callv, doCallV, g_passT, g_passF, g_skipT, g_skipF, g_undefT, g_skipNT, g_skipNF, setD, rd_t, rd_c, get_same, get_ne, getO_same, getO_ne, getO_nil, get_nil, noEnt, resV, ansV_gen, ansV_gen2, fzW_froz1, fzW_isl, fzW_mp, fzWL_nil, fzWL_cons, fzV_aggK, fzV_tupK, fzW_aggK, bslW, froz_b, froz_i, froz_s, froz_nilsl, froz_sl, froz_nilptr, froz_vp, froz_nilmp, froz_vm, froz_nilfn, froz_agg, froz_tup, froz_fn, froz1_b, froz1_i, froz1_s, froz1_nilsl, froz1_sl, froz1_nilptr, froz1_vp, froz1_nilmp, froz1_vm, froz1_nilfn, frOf, frFrom, fzV_froz, fzL_nil, fzL_cons, fzV_isl, islV_cells, fzV_mp, mpV_map, ups_nil, ups_L, cells_agg, cells_b, cells_i, cells_s, cells_nilsl, cells_sl, cells_isl, cells_ptr, cells_vp, cells_nilptr, cells_mp, cells_vm, cells_nilmp, noTup_agg, noTup_b, noTup_i, noTup_s, noTup_nilsl, noTup_sl, noTup_isl, noTup_ptr, noTup_vp, noTup_nilptr, noTup_mp, noTup_vm, noTup_nilmp, splice, part_t, part_f, fills, repl, optVal, asNat_i, scalar_b, scalar_i, scalar_s, scalar_nilsl, scalar_sl, scalar_agg, backD, calmOp, Nat.reduceAdd, List.all_nil, Nat.lt_irrefl, decide_true, bin_add, bin_sub, bin_mul, bin_quo, bin_rem, bin_eql, bin_neq, bin_lss, bin_leq, bin_gtr, bin_geq, bin_seql, bin_sneq, bin_slss, bin_sadd, un_not, un_neg, Option.bind_some, Option.bind_none, Option.map_some, Option.map_none, Option.getD_some, List.map_cons, List.map_nil, List.all_cons, List.all_nil, List.any_nil, List.length_cons, List.length_nil, List.drop_zero, List.append_nil, List.nil_append, List.cons_append, List.getElem?_cons_zero, List.getElem?_cons_succ, List.drop_succ_cons, List.take_succ_cons, List.take_zero, List.zip_cons_cons, List.zip_nil_left, Bool.and_true, Bool.true_and, Bool.and_false, Bool.false_and, Bool.and_self, Bool.not_true, Bool.not_false, Bool.not_eq_true', Bool.false_eq_true, if_true, if_false, ite_self, reduceCtorEq, reduceIte, ne_eq, not_false_eq_true, not_true_eq_false, and_self, and_true, true_and, and_false, false_and, Nat.zero_add, Nat.add_zero, Nat.mul_one, Nat.one_mul, Nat.zero_mul, Nat.mul_zero, Nat.reduceAdd, Nat.reduceMul, Nat.reduceSub, Nat.reduceLT, Nat.reduceLeDiff, Nat.reduceEqDiff, decide_true, decide_false, decide_eq_true_eq, decide_eq_false_iff_not, Nat.le_refl, Nat.zero_le, Int.toNat_natCast, Int.reduceToNat, Int.reduceLE, Int.reduceLT, Int.natCast_nonneg, Int.reduceEq, c42_L1_w] using hO)
theorem roff_ev (hc : conOk m0 d0 m1 d1 cnt (D : Int)) (hs : ∀ s ∈ ss, s.ok) (hv : valSpec 2 ss = 0) (from_ to_ : Int) (m : Nat) (h1 : -1 ≤ from_) (h2 : from_ ≤ 36525) (h3 : from_ ≤ to_) (h4 : to_ ≤ from_ + 366) (hm0 : m = 0 → to_ < from_ + D) (hm1 : m ≠ 0 → from_ + D + m = to_ + 1) :
    DCall pE 42 [z.t, .agg (conC m0 d0 m1 d1 cnt (D : Int)), l, .i .i64 from_, .i .i64 to_] [] = some (.tup [outT (refL z ss D cnt m from_).length ((refL z ss D cnt m from_).flatMap (ofC 0)), .i .i64 0], []) := by
  rw [p_fun fn42 (by simp [c42])]
  have hr := rready_ev z hz m0 d0 m1 d1 cnt (D : Int) hc l ss hl hs
  rw [hv] at hr
  have hh := hor_ev from_ to_ (by omega)
  rw [decide_eq_true ⟨h1, h2, h3, h4⟩] at hh
  have hm : m ≤ 1000 := by by_cases e : m = 0; omega; have := hm1 e; omega
  have hL0 := fun fr lh => R2 z hz l ss hl hn hsp m0 d0 m1 d1 cnt D hD to_ (by omega) [] m from_ 0 [] fr lh hm0 hm1 (by omega) (by omega)
  simp only [Nat.zero_add, List.nil_append] at hL0
  have hL := fun fr lh h2 h4 h5 h6 h14 h15 hO5 hO6 (h13 : getF fr 13 = .nilsl) => loop_fix2 (hL0 fr lh h2 h4 h5 h6 h14 h15 hO5 hO6 (Or.inl ⟨rfl, h13, rfl⟩))
  have hans := fun fr lh h2 h4 h5 h6 h14 h15 hO5 hO6 h13 => OutS.ans2 [] (hL fr lh h2 h4 h5 h6 h14 h15 hO5 hO6 h13).2.1
  have hU : ∀ st, DC pE 83 c42_L3 st = DC pE 83 c42_L3 st := fun _ => rfl
  conv at hU => enter [st, 2]; unfold c42_L3
  unfold conC offC at hL hr hans
  unfold Zn.t at hr ⊢
  unfold conC offC
  simp (maxDischargeDepth := 6) only [Int.cast_ofNat_Int, wr64, Int.reduceAdd, Int.reduceNeg, frL_presM, Nat.reduceShiftRight, Nat.reduceMod, DC_seq, DC_skip, DC_exit, DC_ret, DC_region, DC_block, p_cond, isB_b, isT_b, andThen_nrm, andThen_ext, outOf_nrm, outOf_ext, endR_ret, kv_some, kc_some, e_nil, o_mv, o_box, p_bin, p_un, p_fa, faV_ptr, p_lenV, lenI_sl, p_ld, ldV_L, ldE_cells, p_call, setD, rd_t, rd_c, get_same, get_ne, getO_same, getO_ne, getO_nil, noEnt, resV, froz_i, froz_agg, froz1_i, froz1_s, froz1_nilsl, froz1_sl, frOf, frFrom, cells_agg, noTup_agg, part_t, part_f, Nat.reduceAdd, List.all_nil, decide_true, bin_add, bin_neq, bin_lss, un_not, Option.bind_some, Option.map_some, List.map_cons, List.map_nil, List.all_cons, List.all_nil, List.length_cons, List.length_nil, List.drop_zero, List.getElem?_cons_zero, List.getElem?_cons_succ, List.take_succ_cons, List.take_zero, Bool.and_self, Bool.not_true, Bool.false_eq_true, if_true, if_false, reduceCtorEq, ne_eq, not_false_eq_true, and_self, Nat.zero_add, Nat.reduceAdd, Nat.reduceLT, Nat.reduceEqDiff, decide_true, decide_false, Nat.le_refl, Int.reduceLE, Int.reduceLT, c42, hr, hh, dc70, dc78, shT_f1, froz1_rules, froz1_costs, froz1_credit, hl.froz, DC_loop_at c42_L3, hU, (hL _ _ _ _ _ _ _ _ _ _ _).1, (hL _ _ _ _ _ _ _ _ _ _ _).2.2, c42_L2_w, hans]
end
end Go.Proofs.YtfenhjpkomldcaaGreat
