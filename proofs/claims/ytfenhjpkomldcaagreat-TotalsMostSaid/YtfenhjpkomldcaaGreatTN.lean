/- totals.Limits and totals.DaysOff at the built contracts. Conditions: none beyond the theorems' own. -/
import Derived.Test.YtfenhjpkomldcaaGreatTM
import Derived.Test.YtfenhjpkomldcaaGreatTV
set_option maxRecDepth 100000
set_option linter.unusedSimpArgs false
set_option linter.unusedVariables false
namespace Go.Proofs.YtfenhjpkomldcaaGreat
open Go Go.Ev
theorem rep_false : ∀ n, repl [T.b false] n = bools (List.replicate n false)
  | 0 => rfl
  | n + 1 => by
    have := rep_false n
    rw [List.replicate_succ]
    show T.b false :: repl [T.b false] n = T.b false :: bools (List.replicate n false)
    rw [this]
theorem busy_none (z : Zn) (from_ : Int) (n : Nat) : busyOf z [] from_ n = List.replicate n false := by
  unfold busyOf
  refine List.eq_replicate_iff.2 ⟨by simp, fun b hb => ?_⟩
  simp only [List.mem_map] at hb
  obtain ⟨x, _, rfl⟩ := hb
  rfl
theorem miss_ev (z : Zn) (hz : z.ok) (l : T) (m0 d0 m1 d1 cnt : Int) (D : Nat) (hD : 1 ≤ D ∧ D ≤ 31) (ss : List Sti) (nl : Nat) (hl : IsSl l ss.length (ss.flatMap stC)) (hf : Fit ss nl) (from_ to_ : Int) (n : Nat) (hn : to_ - from_ = n) (hfr : -10 ≤ from_ ∧ from_ ≤ 100000) (hn2 : n ≤ 1000) :
    DCall pE 77 [z.t, .agg (conC m0 d0 m1 d1 cnt (D : Int)), l, .i .i64 from_, .i .i64 to_] [] = some (outT (offL (busyOf z ss from_ n) D cnt from_ 0 n).length ((offL (busyOf z ss from_ n) D cnt from_ 0 n).flatMap (ofC 0)), []) := by
  rw [p_funO fn77 (by simp [c77])]
  have w1 : wr .i64 (to_ - from_) = (n : Int) := by rw [hn]; exact wr64 (by omega)
  have hbig1 : n ≤ 1099511627776 := by omega
  have hrep : repl [T.b false] n = bools (busyOf z [] from_ n) := by rw [busy_none, rep_false]
  have hM0 := fun fr lh => M4 z hz l ss nl hl hf from_ to_ n hn hfr hn2 [] 1 ss.length 0 fr lh (by omega) (by omega)
  simp only [List.take_zero] at hM0
  have hM := fun fr lh h3 h4 h5 h11 h32 h33 (h34 : getF fr 34 = .i .i64 0) hO5 hO31 => loop_fix2 (hM0 fr lh h3 h4 h5 h11 h32 h33 h34 hO5 hO31)
  have hO0 := fun fr lh => M1 (busyOf z ss from_ n) n (busyOf_len _ _ _ _) hn2 D hD cnt from_ 0 hfr (.s [102, 114, 101, 101]) [] 1 1 n 0 0 [] fr lh (by omega) (by omega) (by omega)
  have hz0 : freeTo (busyOf z ss from_ n) 0 - freeTo (busyOf z ss from_ n) (0 - D) = 0 := by rw [Nat.zero_sub]; simp
  rw [hz0] at hO0
  simp only [Nat.zero_add, List.nil_append] at hO0
  have hO := fun fr lh h3 h11 h19 h20 h21 h71 h72 (h73 : getF fr 73 = .i .i64 0) hO31 hO20 (h18 : getF fr 18 = .nilsl) => loop_fix2 (hO0 fr lh h3 h11 h19 h20 h21 h71 h72 h73 hO31 hO20 (Or.inl ⟨rfl, h18, rfl⟩))
  have hans := fun fr lh h3 h11 h19 h20 h21 h71 h72 h73 hO31 hO20 h18 => OutS.ansO [] (hO fr lh h3 h11 h19 h20 h21 h71 h72 h73 hO31 hO20 h18).2
  have hU : ∀ st, DC pE 124 c77_L2 st = DC pE 124 c77_L2 st := fun _ => rfl
  conv at hU => enter [st, 2]; unfold c77_L2
  unfold Zn.t conC
  simp (maxDischargeDepth := 6) only [Int.cast_ofNat_Int, and_1, and_3, and_7, and_15, and_31, and_63, and_127, and_255, and_511, and_1023, and_65535, shr_0, shr_2, shr_3, shr_4, shr_5, shr_6, shr_8, shr_14, shr_16, shr_18, shr_20, shr_21, shr_24, shr_25, wr64, wru64, Int.reduceAdd, Int.reduceSub, Int.reduceMul, Int.reduceNeg, frL_presM, Nat.reduceShiftRight, Nat.reduceMod, implies_true, forall_const, DC_seq, DC_skip, DC_exit, DC_ret, DC_region, DC_calm, DC_block, p_cond, isB_b, isT_b, andThen_nrm, andThen_ext, andThen_ret, andThen_none, andThen_ite, outOf_nrm, outOf_ret, outOf_ext, outOf_none, outOf_ite, endR_ite, endR_ret, endR_nrm, endO_ite, endO_ret, endO_nrm, map_ite, bind_ite, kv_some, kv_none, kv_ite, kn_some, kn_none, ks_some, ks_none, ks_ite, ka_some, ka_none, ka_ite, kc_some, kc_none, kc_ite, e_nil, o_mv, o_mkfn, o_lenC, o_alloc, o_box, o_mkmap, p_pick, pickV_b, p_bin, p_eq, p_un, p_cvi, cviV_i, p_build, buildV, p_slS, slSV, p_fa, faV_vp, faV_ptr, p_fld, fldV_agg, p_ia, iaV_sl, iaV_isl, p_iaA, iaAV, p_ixS, ixSV_s, p_ixA, ixAV, p_ext, extV_tup, p_lenS, lenSV_s, p_lenV, lenI_nil, lenI_sl, lenI_isl, lenT_nil, lenT_sl, lenT_isl, p_mm, mmV, minmax, p_nck, p_nckN, nckV_vp, nckV_ptr, nckV_fn, p_ld, ldV_vp, ldV_L, ldV_S, ldE_cells, p_mksl, mkslV, mkOk, p_st, stV_L, stB_box, stB_row, p_app, appW, slC_nil, slC_sl, slC_s, slC_isl, slE_cells, appE_cells, appV_nil, appV_sl, appV_isl, notS_nilsl, notS_sl, notS_isl, notS_mp, p_slV, slVV, subV, p_lk, lkV, p_mu, muV, p_bsl, bslW_froz, bslV, p_call, p_callN, p_callv, doCallV, g_passT, g_passF, g_skipT, g_skipF, g_undefT, g_skipNT, g_skipNF, setD, rd_t, rd_c, get_same, get_ne, getO_same, getO_ne, getO_nil, get_nil, noEnt, resV, fzW_froz1, fzW_isl, fzW_mp, fzWL_nil, fzWL_cons, fzV_aggK, fzV_tupK, fzW_aggK, bslW, froz_b, froz_i, froz_s, froz_nilsl, froz_sl, froz_nilptr, froz_vp, froz_nilmp, froz_vm, froz_nilfn, froz_agg, froz_tup, froz_fn, froz1_b, froz1_i, froz1_s, froz1_nilsl, froz1_sl, froz1_nilptr, froz1_vp, froz1_nilmp, froz1_vm, froz1_nilfn, frOf, frFrom, fzV_froz, fzL_nil, fzL_cons, fzV_isl, islV_cells, fzV_mp, mpV_map, ups_nil, ups_L, cells_agg, cells_b, cells_i, cells_s, cells_nilsl, cells_sl, cells_isl, cells_ptr, cells_vp, cells_nilptr, cells_mp, cells_vm, cells_nilmp, noTup_agg, noTup_b, noTup_i, noTup_s, noTup_nilsl, noTup_sl, noTup_isl, noTup_ptr, noTup_vp, noTup_nilptr, noTup_mp, noTup_vm, noTup_nilmp, splice, part_t, part_f, fills, repl, optVal, asNat_i, scalar_b, scalar_i, scalar_s, scalar_nilsl, scalar_sl, scalar_agg, backD, calmOp, Nat.reduceAdd, List.all_nil, Nat.lt_irrefl, decide_true, bin_add, bin_sub, bin_mul, bin_quo, bin_rem, bin_eql, bin_neq, bin_lss, bin_leq, bin_gtr, bin_geq, bin_seql, bin_sneq, bin_slss, bin_sadd, un_not, un_neg, Option.bind_some, Option.bind_none, Option.map_some, Option.map_none, Option.getD_some, List.map_cons, List.map_nil, List.all_cons, List.all_nil, List.any_nil, List.length_cons, List.length_nil, List.drop_zero, List.append_nil, List.nil_append, List.cons_append, List.getElem?_cons_zero, List.getElem?_cons_succ, List.drop_succ_cons, List.take_succ_cons, List.take_zero, List.zip_cons_cons, List.zip_nil_left, Bool.and_true, Bool.true_and, Bool.and_false, Bool.false_and, Bool.and_self, Bool.not_true, Bool.not_false, Bool.not_eq_true', Bool.false_eq_true, if_true, if_false, ite_self, reduceCtorEq, reduceIte, ne_eq, not_false_eq_true, not_true_eq_false, and_self, and_true, true_and, and_false, false_and, Nat.zero_add, Nat.add_zero, Nat.mul_one, Nat.one_mul, Nat.zero_mul, Nat.mul_zero, Nat.reduceAdd, Nat.reduceMul, Nat.reduceSub, Nat.reduceLT, Nat.reduceLeDiff, Nat.reduceEqDiff, decide_true, decide_false, decide_eq_true_eq, decide_eq_false_iff_not, Nat.le_refl, Nat.zero_le, Int.toNat_natCast, Int.reduceToNat, Int.reduceLE, Int.reduceLT, Int.natCast_nonneg, Int.reduceEq, c77, offC, hl.lenI, w1, hbig1, hrep, roomy, (hM _ _ _ _ _ _ _ _ _ _ _).1, (hM _ _ _ _ _ _ _ _ _ _ _).2.1, (hM _ _ _ _ _ _ _ _ _ _ _).2.2, c77_L4_w, DC_loop_at c77_L2, hU, (hO _ _ _ _ _ _ _ _ _ _ _ _ _).1, c77_L1_w, hans]
end Go.Proofs.YtfenhjpkomldcaaGreat
