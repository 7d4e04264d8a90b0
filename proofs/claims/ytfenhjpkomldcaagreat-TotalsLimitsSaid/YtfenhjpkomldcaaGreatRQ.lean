/- The reference's Limits: the whole. Conditions: the theorems' own. -/
import Derived.Test.YtfenhjpkomldcaaGreatRN
set_option maxRecDepth 100000
set_option maxHeartbeats 4000000
set_option linter.unusedSimpArgs false
set_option linter.unusedVariables false
namespace Go.Proofs.YtfenhjpkomldcaaGreat
open Go Go.Ev
theorem refB_len (D most : Int) (i : Nat) (l : List (Int × Int)) : ∀ (m : Nat) (d : Int), (refB D most i l m d).length ≤ m
  | 0, d => by simp [refB]
  | m + 1, d => by
    have := refB_len D most i l m (d + 1)
    unfold refB
    rw [List.length_append]
    split <;> simp <;> omega
theorem d0_eq (z : Zn) (ss : List Sti) (h : 0 < ss.length) : ((ss.map fun s => z.day s.a)[0]?).getD 0 = z.day ss[0].a := by
  rw [List.getElem?_eq_getElem (by simpa using h)]; simp
section
variable (z : Zn) (hz : z.ok) (l v : T) (cc : List T) (ss : List Sti) (lims : List Lm) (hl : IsSl l ss.length (ss.flatMap stC)) (hf : Fit ss lims.length) (hcc : cc[11]? = some v) (hv : IsSl v lims.length (lims.flatMap lmC)) (hli : ∀ x ∈ lims, 1 ≤ x.d ∧ x.d ≤ 31)
include hz hl hf hcc hv hli
theorem day_all : ∀ d ∈ ss.map fun s => z.day s.a, -1 ≤ d ∧ d ≤ 36526 := by
  have _ := hl
  have _ := hcc
  have _ := hv
  have _ := hli
  intro d hd
  obtain ⟨s, hs, rfl⟩ := List.mem_map.1 hd
  obtain ⟨a1, a2, a3⟩ := hf.span s hs
  exact day_lt hz a1 (by omega)
theorem low_high (h0 : 0 < ss.length) : -1 ≤ lowD z ss ∧ lowD z ss ≤ 36526 ∧ -1 ≤ highD z ss ∧ highD z ss ≤ 36526 ∧ lowD z ss ≤ highD z ss := by
  have hd := day_all z hz l v cc ss lims hl hf hcc hv hli
  have h00 : -1 ≤ z.day ss[0].a ∧ z.day ss[0].a ≤ 36526 := hd _ (List.mem_map.2 ⟨ss[0], List.getElem_mem h0, rfl⟩)
  have h1 := lowL_b (-1) 36526 (ss.map fun s => z.day s.a) (z.day ss[0].a) hd h00
  have h2 := highL_b (-1) 36526 (ss.map fun s => z.day s.a) (z.day ss[0].a) hd h00
  unfold lowD highD
  rw [d0_eq z ss h0]
  omega
theorem Q4 (h0 : 0 < ss.length) (hln : lims.length ≤ 16) (sh : List Ent) (g wm43 : Nat) : ∀ (m i n : Nat) (cs : List T) (fr : Fr) (lh : Tri Ent), lims.length - i = m → i ≤ lims.length → n ≤ i * 40000 →
    getF fr 2 = l → getF fr 4 = .ptr .L 4 1 0 → getF fr 10 = .isl .L 43 g 0 ss.length 1 → getF fr 12 = .i .i64 (i : Int) → getO lh 4 = ⟨1, .cells cc 0 true⟩ → getO lh 43 = ⟨g, .cells (ints (ss.map fun s => z.day s.a)) wm43 false⟩ → OutS lh (getF fr 9) 147 3 n cs →
    ∃ fr' lh', DC pE 149 (.loop c35_L4) ⟨fr, lh, sh⟩ = some (.ext 2, ⟨fr', lh', sh⟩) ∧ OutS lh' (getF fr' 9) 147 3 (n + (refAll z ss i (lims.drop i)).length) (cs ++ (refAll z ss i (lims.drop i)).flatMap brT)
  | 0, i, n, cs, fr, lh, hm, hi, hn, h2, h4, h10, h12, hO4, hO43, hO => by
    have : i = lims.length := by omega
    subst this
    rw [List.drop_length, DC_loop]
    generalize hK : DC pE 149 (.loop c35_L4) = K
    simp only [DC_seq, DC_skip, DC_exit, DC_region, p_cond, isB_b, isT_b, andThen_nrm, andThen_ext, kv_some, e_nil, o_mv, p_pick, pickV_b, p_bin, p_fa, faV_ptr, p_lenV, p_ld, ldV_L, ldE_cells, g_skipT, rd_t, rd_c, get_same, get_ne, part_f, bin_lss, Option.map_some, Bool.false_eq_true, if_true, if_false, ne_eq, not_false_eq_true, Nat.zero_add, Nat.reduceLT, Nat.reduceEqDiff, decide_false, c35_L4, h4, h12, hO4, hcc, hv.lenI, Int.lt_irrefl]
    exact ⟨_, _, rfl, by simpa only [Int.cast_ofNat_Int, and_1, and_3, and_7, and_15, and_31, and_63, and_127, and_255, and_511, and_1023, and_65535, shr_0, shr_2, shr_3, shr_4, shr_5, shr_6, shr_8, shr_14, shr_16, shr_18, shr_20, shr_21, shr_24, shr_25, wr64, wru64, Int.reduceAdd, Int.reduceSub, Int.reduceMul, Int.reduceNeg, frL_presM, Nat.reduceShiftRight, Nat.reduceMod, implies_true, forall_const, DC_seq, DC_skip, DC_exit, DC_ret, DC_region, DC_calm, DC_block, p_cond, isB_b, isT_b, andThen_nrm, andThen_ext, andThen_ret, andThen_none, andThen_ite, outOf_nrm, outOf_ret, outOf_ext, outOf_none, outOf_ite, endR_ite, endR_ret, endR_nrm, endO_ite, endO_ret, endO_nrm, map_ite, bind_ite, kv_some, kv_none, kv_ite, kn_some, kn_none, ks_some, ks_none, ks_ite, ka_some, ka_none, ka_ite, kc_some, kc_none, kc_ite, e_nil, o_mv, o_mkfn, o_lenC, o_alloc, o_box, o_mkmap, p_pick, pickV_b, p_bin, p_eq, p_un, p_cvi, cviV_i, p_build, buildV, p_slS, slSV, p_fa, faV_vp, faV_ptr, p_fld, fldV_agg, p_ia, iaV_sl, iaV_isl, p_iaA, iaAV, p_ixS, ixSV_s, p_ixA, ixAV, p_ext, extV_tup, p_lenS, lenSV_s, p_lenV, lenI_nil, lenI_sl, lenI_isl, lenT_nil, lenT_sl, lenT_isl, p_mm, mmV, minmax, p_nck, p_nckN, nckV_vp, nckV_ptr, nckV_fn, p_ld, ldV_vp, ldV_L, ldV_S, ldE_cells, p_mksl, mkslV, mkOk, p_st, stV_L, stB_box, stB_row, p_app, appW, slC_nil, slC_sl, slC_s, slC_isl, slE_cells, appE_cells, appV_nil, appV_sl, appV_isl, notS_nilsl, notS_sl, notS_isl, notS_mp, p_slV, slVV, subV, p_lk, lkV, p_mu, muV, p_bsl, bslW_froz, bslV, p_call, p_callN, p_callv, doCallV, g_passT, g_passF, g_skipT, g_skipF, g_undefT, g_skipNT, g_skipNF, setD, rd_t, rd_c, get_same, get_ne, getO_same, getO_ne, getO_nil, get_nil, noEnt, resV, ansV_gen, ansV_gen2, fzW_froz1, fzW_isl, fzW_mp, fzWL_nil, fzWL_cons, fzV_aggK, fzV_tupK, fzW_aggK, bslW, froz_b, froz_i, froz_s, froz_nilsl, froz_sl, froz_nilptr, froz_vp, froz_nilmp, froz_vm, froz_nilfn, froz_agg, froz_tup, froz_fn, froz1_b, froz1_i, froz1_s, froz1_nilsl, froz1_sl, froz1_nilptr, froz1_vp, froz1_nilmp, froz1_vm, froz1_nilfn, frOf, frFrom, fzV_froz, fzL_nil, fzL_cons, fzV_isl, islV_cells, fzV_mp, mpV_map, ups_nil, ups_L, cells_agg, cells_b, cells_i, cells_s, cells_nilsl, cells_sl, cells_isl, cells_ptr, cells_vp, cells_nilptr, cells_mp, cells_vm, cells_nilmp, noTup_agg, noTup_b, noTup_i, noTup_s, noTup_nilsl, noTup_sl, noTup_isl, noTup_ptr, noTup_vp, noTup_nilptr, noTup_mp, noTup_vm, noTup_nilmp, splice, part_t, part_f, fills, repl, optVal, asNat_i, scalar_b, scalar_i, scalar_s, scalar_nilsl, scalar_sl, scalar_agg, backD, calmOp, Nat.reduceAdd, List.all_nil, Nat.lt_irrefl, decide_true, bin_add, bin_sub, bin_mul, bin_quo, bin_rem, bin_eql, bin_neq, bin_lss, bin_leq, bin_gtr, bin_geq, bin_seql, bin_sneq, bin_slss, bin_sadd, un_not, un_neg, Option.bind_some, Option.bind_none, Option.map_some, Option.map_none, Option.getD_some, List.map_cons, List.map_nil, List.all_cons, List.all_nil, List.any_nil, List.length_cons, List.length_nil, List.drop_zero, List.append_nil, List.nil_append, List.cons_append, List.getElem?_cons_zero, List.getElem?_cons_succ, List.drop_succ_cons, List.take_succ_cons, List.take_zero, List.zip_cons_cons, List.zip_nil_left, Bool.and_true, Bool.true_and, Bool.and_false, Bool.false_and, Bool.and_self, Bool.not_true, Bool.not_false, Bool.not_eq_true', Bool.false_eq_true, if_true, if_false, ite_self, reduceCtorEq, reduceIte, ne_eq, not_false_eq_true, not_true_eq_false, and_self, and_true, true_and, and_false, false_and, Nat.zero_add, Nat.add_zero, Nat.mul_one, Nat.one_mul, Nat.zero_mul, Nat.mul_zero, Nat.reduceAdd, Nat.reduceMul, Nat.reduceSub, Nat.reduceLT, Nat.reduceLeDiff, Nat.reduceEqDiff, decide_true, decide_false, decide_eq_true_eq, decide_eq_false_iff_not, Nat.le_refl, Nat.zero_le, Int.toNat_natCast, Int.reduceToNat, Int.reduceLE, Int.reduceLT, Int.natCast_nonneg, Int.reduceEq, refAll, List.length_nil, Nat.add_zero, List.flatMap_nil, List.append_nil] using hO⟩
  | m + 1, i, n, cs, fr, lh, hm, hi, hn, h2, h4, h10, h12, hO4, hO43, hO => by
    have hlt : i < lims.length := by omega
    have hlt' : (i : Int) < lims.length := by omega
    have hpos : (0 : Int) < ss.length := by omega
    have hle1 : 1 ≤ ss.length := h0
    have hlen : (ints (ss.map fun s => z.day s.a)).length = ss.length := by rw [ints_len, List.length_map]
    have hg := day_get z ss 0 h0
    have hw : wr .i64 ((i : Int) + 1) = ((i + 1 : Nat) : Int) := by rw [wr64 (by omega)]; omega
    have hdd := hli lims[i] (List.getElem_mem hlt)
    have hiv : ∀ kk, iaV v (.i kk (i : Int)) 4 = some (.vp (lims[i].nm :: lims[i].ms :: .i .i64 lims[i].most :: .i .i64 lims[i].d :: (lims.drop (i + 1)).flatMap lmC)) := fun kk => by
      rw [hv.ia (sz := 4) (flat_len (f := lmC) (fun _ => rfl) lims) hlt, flat_drop (f := lmC) (fun _ => rfl) lims i hlt]; rfl
    obtain ⟨b1, b2, b3, b4, b5⟩ := low_high z hz l v cc ss lims hl hf hcc hv hli h0
    have hdr : lims.drop i = lims[i] :: lims.drop (i + 1) := List.drop_eq_getElem_cons hlt
    have hw1 : wr .i64 (lowD z ss - lims[i].d) = lowD z ss - lims[i].d := wr64 (by omega)
    have hw2 : wr .i64 (lowD z ss - lims[i].d + 1) = lowD z ss - lims[i].d + 1 := wr64 (by omega)
    have hI0 := fun fr => Q3 z hz l v cc ss lims hl hf hcc hv hli lh sh g wm43 hO43 ss.length 0 (z.day ss[0].a) (z.day ss[0].a) fr (by omega) (by omega)
    simp only [List.drop_zero] at hI0
    have el : lowL (ss.map fun s => z.day s.a) (z.day ss[0].a) = lowD z ss := by unfold lowD; rw [d0_eq z ss h0]
    have eh : highL (ss.map fun s => z.day s.a) (z.day ss[0].a) = highD z ss := by unfold highD; rw [d0_eq z ss h0]
    rw [el, eh] at hI0
    have hI := fun fr h2 h10 h13 h14 (h15 : getF fr 15 = .i .i64 0) => loop_fix (hI0 fr h2 h10 h13 h14 h15)
    have hq2 : -100000 ≤ highD z ss ∧ highD z ss ≤ 100000 := by omega
    have hJ := fun fr (h2 : getF fr 2 = l) (h4 : getF fr 4 = .ptr .L 4 1 0) (h10 : getF fr 10 = .isl .L 43 g 0 ss.length 1) (h12 : getF fr 12 = .i .i64 (i : Int)) (h14 : getF fr 14 = .i .i64 (highD z ss)) (h16 : getF fr 16 = .i .i64 (lowD z ss - lims[i].d + 1)) (hO : OutS lh (getF fr 9) 147 3 n cs) => loop_fix2 (Q2 z hz l v cc ss lims hl hf hcc hv hli i hlt (highD z ss) hq2 sh g wm43 (highD z ss - lowD z ss + lims[i].d).toNat (lowD z ss - lims[i].d + 1) n cs fr lh (by omega) (by omega) (by omega) (by omega) h2 h4 h10 h12 h14 h16 hO4 hO43 hO)
    have hlenB := refB_len lims[i].d lims[i].most i (dvs z ss i) (highD z ss - lowD z ss + lims[i].d).toNat (lowD z ss - lims[i].d + 1)
    have hR : refAll z ss i (lims[i] :: lims.drop (i + 1)) = refB lims[i].d lims[i].most i (dvs z ss i) (highD z ss - lowD z ss + lims[i].d).toNat (lowD z ss - lims[i].d + 1) ++ refAll z ss (i + 1) (lims.drop (i + 1)) := rfl
    rw [hdr, hR, List.length_append, ← Nat.add_assoc, List.flatMap_append, ← List.append_assoc, DC_loop]
    generalize hK : DC pE 149 (.loop c35_L4) = K
    generalize refB lims[i].d lims[i].most i (dvs z ss i) (highD z ss - lowD z ss + lims[i].d).toNat (lowD z ss - lims[i].d + 1) = RB at *
    have step : ∀ F, getF F 2 = l → getF F 4 = .ptr .L 4 1 0 → getF F 10 = .isl .L 43 g 0 ss.length 1 → getF F 12 = .i .i64 (i : Int) → getF F 14 = .i .i64 (highD z ss) → getF F 16 = .i .i64 (lowD z ss - lims[i].d + 1) → OutS lh (getF F 9) 147 3 n cs →
        ∀ fr2, getF fr2 2 = l → getF fr2 4 = .ptr .L 4 1 0 → getF fr2 10 = .isl .L 43 g 0 ss.length 1 → getF fr2 12 = .i .i64 ((i + 1 : Nat) : Int) → getF fr2 9 = getF (frL pE 149 c35_L2 F lh sh) 9 →
        ∃ fr' lh', DC pE 149 (.loop c35_L4) ⟨fr2, lhL pE 149 c35_L2 F lh sh, sh⟩ = some (.ext 2, ⟨fr', lh', sh⟩) ∧ OutS lh' (getF fr' 9) 147 3 (n + RB.length + (refAll z ss (i + 1) (lims.drop (i + 1))).length) (cs ++ RB.flatMap brT ++ (refAll z ss (i + 1) (lims.drop (i + 1))).flatMap brT) := by
      intro F a2 a4 a10 a12 a14 a16 a9 fr2 e2 e4 e10 e12 e9
      have j := (hJ F a2 a4 a10 a12 a14 a16 a9).2
      exact Q4 h0 hln sh g wm43 m (i + 1) (n + RB.length) (cs ++ RB.flatMap brT) fr2 _ (by omega) (by omega) (by omega) e2 e4 e10 e12 j.2.1 j.2.2.1 (by rw [e9]; exact j.1)
    simp (maxDischargeDepth := 6) only [frL_presM, Nat.reduceShiftRight, Nat.reduceMod, DC_seq, DC_skip, DC_exit, DC_region, DC_calm, DC_block, p_cond, isB_b, isT_b, andThen_nrm, outOf_nrm, outOf_ext, kv_some, e_nil, o_mv, p_pick, pickV_b, p_bin, p_fa, faV_vp, faV_ptr, p_ia, iaV_isl, p_lenV, p_ld, ldV_vp, ldV_L, ldE_cells, g_passT, rd_t, rd_c, get_same, get_ne, part_f, backD, calmOp, Nat.reduceAdd, List.all_nil, decide_true, bin_add, bin_sub, bin_lss, bin_gtr, Option.map_some, List.map_cons, List.map_nil, List.all_cons, List.all_nil, List.length_cons, List.drop_zero, List.getElem?_cons_zero, List.drop_succ_cons, Bool.and_self, if_true, ne_eq, not_false_eq_true, and_self, Nat.zero_add, Nat.add_zero, Nat.mul_one, Nat.reduceAdd, Nat.reduceLT, Nat.reduceLeDiff, Nat.reduceEqDiff, decide_true, Int.reduceToNat, Int.reduceLE, c35_L4, h2, h4, h10, h12, hO4, hO43, hcc, hv.lenI, hl.lenI, hlt', hpos, h0, hg, hiv, hw, hw1, hw2, (hI _ _ _ _ _ _).1, (hI _ _ _ _ _ _).2.1, (hI _ _ _ _ _ _).2.2, c35_L3_w, hO, (hJ _ _ _ _ _ _ _ _).1, c35_L2_w]
    rw [← hK]
    refine step _ ?_ ?_ ?_ ?_ ?_ ?_ ?_ _ ?_ ?_ ?_ ?_ ?_
    all_goals first | (simp (maxDischargeDepth := 6) only [frL_presM, Nat.reduceShiftRight, Nat.reduceMod, get_same, get_ne, ne_eq, not_false_eq_true, Nat.reduceEqDiff, c35_L2_w, c35_L3_w, h2, h4, h10, h12, (hI _ _ _ _ _ _).2.2]; done) | (simpa only [Int.cast_ofNat_Int, and_1, and_3, and_7, and_15, and_31, and_63, and_127, and_255, and_511, and_1023, and_65535, shr_0, shr_2, shr_3, shr_4, shr_5, shr_6, shr_8, shr_14, shr_16, shr_18, shr_20, shr_21, shr_24, shr_25, wr64, wru64, Int.reduceAdd, Int.reduceSub, Int.reduceMul, Int.reduceNeg, frL_presM, Nat.reduceShiftRight, Nat.reduceMod, implies_true, forall_const, DC_seq, DC_skip, DC_exit, DC_ret, DC_region, DC_calm, DC_block, p_cond, isB_b, isT_b, andThen_nrm, andThen_ext, andThen_ret, andThen_none, andThen_ite, outOf_nrm, outOf_ret, outOf_ext, outOf_none, outOf_ite, endR_ite, endR_ret, endR_nrm, endO_ite, endO_ret, endO_nrm, map_ite, bind_ite, kv_some, kv_none, kv_ite, kn_some, kn_none, ks_some, ks_none, ks_ite, ka_some, ka_none, ka_ite, kc_some, kc_none, kc_ite, e_nil, o_mv, o_mkfn, o_lenC, o_alloc, o_box, o_mkmap, p_pick, pickV_b, p_bin, p_eq, p_un, p_cvi, cviV_i, p_build, buildV, p_slS, slSV, p_fa, faV_vp, faV_ptr, p_fld, fldV_agg, p_ia, iaV_sl, iaV_isl, p_iaA, iaAV, p_ixS, ixSV_s, p_ixA, ixAV, p_ext, extV_tup, p_lenS, lenSV_s, p_lenV, lenI_nil, lenI_sl, lenI_isl, lenT_nil, lenT_sl, lenT_isl, p_mm, mmV, minmax, p_nck, p_nckN, nckV_vp, nckV_ptr, nckV_fn, p_ld, ldV_vp, ldV_L, ldV_S, ldE_cells, p_mksl, mkslV, mkOk, p_st, stV_L, stB_box, stB_row, p_app, appW, slC_nil, slC_sl, slC_s, slC_isl, slE_cells, appE_cells, appV_nil, appV_sl, appV_isl, notS_nilsl, notS_sl, notS_isl, notS_mp, p_slV, slVV, subV, p_lk, lkV, p_mu, muV, p_bsl, bslW_froz, bslV, p_call, p_callN, p_callv, doCallV, g_passT, g_passF, g_skipT, g_skipF, g_undefT, g_skipNT, g_skipNF, setD, rd_t, rd_c, get_same, get_ne, getO_same, getO_ne, getO_nil, get_nil, noEnt, resV, ansV_gen, ansV_gen2, fzW_froz1, fzW_isl, fzW_mp, fzWL_nil, fzWL_cons, fzV_aggK, fzV_tupK, fzW_aggK, bslW, froz_b, froz_i, froz_s, froz_nilsl, froz_sl, froz_nilptr, froz_vp, froz_nilmp, froz_vm, froz_nilfn, froz_agg, froz_tup, froz_fn, froz1_b, froz1_i, froz1_s, froz1_nilsl, froz1_sl, froz1_nilptr, froz1_vp, froz1_nilmp, froz1_vm, froz1_nilfn, frOf, frFrom, fzV_froz, fzL_nil, fzL_cons, fzV_isl, islV_cells, fzV_mp, mpV_map, ups_nil, ups_L, cells_agg, cells_b, cells_i, cells_s, cells_nilsl, cells_sl, cells_isl, cells_ptr, cells_vp, cells_nilptr, cells_mp, cells_vm, cells_nilmp, noTup_agg, noTup_b, noTup_i, noTup_s, noTup_nilsl, noTup_sl, noTup_isl, noTup_ptr, noTup_vp, noTup_nilptr, noTup_mp, noTup_vm, noTup_nilmp, splice, part_t, part_f, fills, repl, optVal, asNat_i, scalar_b, scalar_i, scalar_s, scalar_nilsl, scalar_sl, scalar_agg, backD, calmOp, Nat.reduceAdd, List.all_nil, Nat.lt_irrefl, decide_true, bin_add, bin_sub, bin_mul, bin_quo, bin_rem, bin_eql, bin_neq, bin_lss, bin_leq, bin_gtr, bin_geq, bin_seql, bin_sneq, bin_slss, bin_sadd, un_not, un_neg, Option.bind_some, Option.bind_none, Option.map_some, Option.map_none, Option.getD_some, List.map_cons, List.map_nil, List.all_cons, List.all_nil, List.any_nil, List.length_cons, List.length_nil, List.drop_zero, List.append_nil, List.nil_append, List.cons_append, List.getElem?_cons_zero, List.getElem?_cons_succ, List.drop_succ_cons, List.take_succ_cons, List.take_zero, List.zip_cons_cons, List.zip_nil_left, Bool.and_true, Bool.true_and, Bool.and_false, Bool.false_and, Bool.and_self, Bool.not_true, Bool.not_false, Bool.not_eq_true', Bool.false_eq_true, if_true, if_false, ite_self, reduceCtorEq, reduceIte, ne_eq, not_false_eq_true, not_true_eq_false, and_self, and_true, true_and, and_false, false_and, Nat.zero_add, Nat.add_zero, Nat.mul_one, Nat.one_mul, Nat.zero_mul, Nat.mul_zero, Nat.reduceAdd, Nat.reduceMul, Nat.reduceSub, Nat.reduceLT, Nat.reduceLeDiff, Nat.reduceEqDiff, decide_true, decide_false, decide_eq_true_eq, decide_eq_false_iff_not, Nat.le_refl, Nat.zero_le, Int.toNat_natCast, Int.reduceToNat, Int.reduceLE, Int.reduceLT, Int.natCast_nonneg, Int.reduceEq, c35_L2_w, c35_L3_w] using hO)
end
end Go.Proofs.YtfenhjpkomldcaaGreat
