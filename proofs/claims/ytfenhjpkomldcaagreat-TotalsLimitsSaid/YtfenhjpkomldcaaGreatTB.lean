/- Local times and days. Conditions: none beyond the theorems' own. -/
import Derived.Test.YtfenhjpkomldcaaGreatTA
set_option maxRecDepth 100000
set_option linter.unusedSimpArgs false
set_option linter.unusedVariables false
namespace Go.Proofs.YtfenhjpkomldcaaGreat
open Go Go.Ev
theorem zat_ev (z : Zn) (t : Int) : DCall pE 199 [z.t, .i .i64 t] [] = some (.i .i64 (z.at t), []) := by
  obtain ⟨off, sh⟩ := z
  rw [p_fun fn199 (by simp [c199])]
  cases sh with
  | none => simp only [DC_seq, DC_skip, DC_exit, DC_ret, DC_region, DC_block, p_cond, isB_b, isT_b, andThen_nrm, andThen_ext, outOf_ext, endR_ret, kv_some, e_nil, o_mv, o_box, p_bin, p_fa, faV_ptr, p_lenV, lenI_nil, p_ld, ldV_L, ldE_cells, rd_t, rd_c, get_same, get_ne, getO_same, getO_nil, noEnt, resV, ansV_gen, froz_i, frOf, frFrom, fzV_froz, ups_nil, cells_agg, noTup_agg, part_f, bin_lss, Option.bind_some, Option.map_some, List.getElem?_cons_zero, List.getElem?_cons_succ, Bool.false_eq_true, if_true, if_false, ne_eq, not_false_eq_true, Nat.zero_add, Nat.reduceLT, Nat.reduceEqDiff, decide_false, Int.reduceLT, c199, DC_loop, c199_L1, Zn.t, shT, Zn.at]
  | some p =>
    obtain ⟨a, o⟩ := p
    by_cases h : a ≤ t
    · have h' : ¬ t < a := by omega
      simp only [Int.cast_ofNat_Int, wr64, Int.reduceAdd, Int.reduceNeg, DC_seq, DC_skip, DC_exit, DC_ret, DC_region, DC_block, p_cond, isB_b, isT_b, andThen_nrm, andThen_ext, outOf_nrm, outOf_ext, endR_ret, kv_some, ks_some, e_nil, o_mv, o_alloc, o_box, p_bin, p_fa, faV_ptr, p_ia, iaV_sl, p_lenV, lenI_sl, p_ld, ldV_vp, ldV_L, ldE_cells, p_st, stV_L, stB_box, rd_t, rd_c, get_same, get_ne, getO_same, getO_ne, getO_nil, noEnt, resV, ansV_gen, froz_i, frOf, frFrom, fzV_froz, ups_nil, cells_agg, noTup_agg, splice, part_t, part_f, Nat.reduceAdd, decide_true, bin_add, bin_lss, bin_gtr, Option.bind_some, Option.map_some, List.length_cons, List.length_nil, List.drop_zero, List.getElem?_cons_zero, List.getElem?_cons_succ, List.take_succ_cons, List.take_zero, Bool.false_eq_true, if_true, if_false, reduceCtorEq, ne_eq, not_false_eq_true, and_self, Nat.zero_add, Nat.add_zero, Nat.one_mul, Nat.zero_mul, Nat.reduceAdd, Nat.reduceLT, Nat.reduceEqDiff, decide_true, decide_false, Nat.le_refl, Int.reduceToNat, Int.reduceLE, Int.reduceLT, c199, DC_loop, c199_L1, Zn.t, shT, Zn.at, h, h']
    · have h' : t < a := by omega
      simp only [Int.cast_ofNat_Int, DC_seq, DC_skip, DC_exit, DC_ret, DC_region, DC_block, p_cond, isB_b, isT_b, andThen_nrm, andThen_ext, outOf_ext, endR_ret, kv_some, ks_some, e_nil, o_mv, o_alloc, o_box, p_bin, p_fa, faV_ptr, p_ia, iaV_sl, p_lenV, lenI_sl, p_ld, ldV_vp, ldV_L, ldE_cells, p_st, stV_L, stB_box, rd_t, rd_c, get_same, get_ne, getO_same, getO_ne, getO_nil, noEnt, resV, ansV_gen, froz_i, frOf, frFrom, fzV_froz, ups_nil, cells_agg, noTup_agg, splice, part_t, part_f, Nat.reduceAdd, decide_true, bin_lss, bin_gtr, Option.bind_some, Option.map_some, List.length_cons, List.length_nil, List.drop_zero, List.getElem?_cons_zero, List.getElem?_cons_succ, List.take_succ_cons, List.take_zero, if_true, if_false, reduceCtorEq, ne_eq, not_false_eq_true, and_self, Nat.zero_add, Nat.add_zero, Nat.one_mul, Nat.zero_mul, Nat.reduceAdd, Nat.reduceLT, Nat.reduceEqDiff, decide_true, Nat.le_refl, Int.reduceToNat, Int.reduceLE, Int.reduceLT, c199, DC_loop, c199_L1, Zn.t, shT, Zn.at, h, h']
theorem rat_ev (z : Zn) (t : Int) : DCall pE 261 [z.t, .i .i64 t] [] = some (.i .i64 (z.at t), []) := by
  obtain ⟨off, sh⟩ := z
  rw [p_fun fn261 (by simp [c261])]
  cases sh with
  | none => simp only [DC_seq, DC_skip, DC_exit, DC_ret, DC_region, DC_block, p_cond, isB_b, isT_b, andThen_nrm, andThen_ext, outOf_ext, endR_ret, kv_some, e_nil, o_mv, o_box, p_bin, p_fa, faV_ptr, p_lenV, lenI_nil, p_ld, ldV_L, ldE_cells, rd_t, rd_c, get_same, get_ne, getO_same, getO_nil, noEnt, resV, ansV_gen, froz_i, frOf, frFrom, fzV_froz, ups_nil, cells_agg, noTup_agg, part_f, bin_lss, Option.bind_some, Option.map_some, List.getElem?_cons_zero, List.getElem?_cons_succ, Bool.false_eq_true, if_true, if_false, ne_eq, not_false_eq_true, Nat.zero_add, Nat.reduceLT, Nat.reduceEqDiff, decide_false, Int.reduceLT, c261, DC_loop, c261_L1, Zn.t, shT, Zn.at]
  | some p =>
    obtain ⟨a, o⟩ := p
    by_cases h : a ≤ t <;> simp only [Int.cast_ofNat_Int, wr64, Int.reduceAdd, Int.reduceNeg, DC_seq, DC_skip, DC_exit, DC_ret, DC_region, DC_block, p_cond, isB_b, isT_b, andThen_nrm, andThen_ext, outOf_nrm, outOf_ext, endR_ret, kv_some, e_nil, o_mv, o_box, p_bin, p_fa, faV_vp, faV_ptr, p_ia, iaV_sl, p_lenV, lenI_sl, p_ld, ldV_vp, ldV_L, ldE_cells, rd_t, rd_c, get_same, get_ne, getO_same, getO_nil, noEnt, resV, ansV_gen, froz_i, frOf, frFrom, fzV_froz, ups_nil, cells_agg, noTup_agg, part_f, Nat.reduceAdd, decide_true, bin_add, bin_lss, bin_leq, Option.bind_some, Option.map_some, List.length_cons, List.length_nil, List.drop_zero, List.getElem?_cons_zero, List.getElem?_cons_succ, List.drop_succ_cons, Bool.false_eq_true, if_true, if_false, reduceCtorEq, ne_eq, not_false_eq_true, and_self, Nat.zero_add, Nat.one_mul, Nat.zero_mul, Nat.reduceAdd, Nat.reduceLT, Nat.reduceLeDiff, Nat.reduceEqDiff, decide_true, decide_false, Nat.le_refl, Nat.zero_le, Int.reduceToNat, Int.reduceLE, Int.reduceLT, c261, DC_loop, c261_L1, Zn.t, shT, Zn.at, h]
theorem zsplit_ev (t : Int) (h1 : -1000000000 ≤ t) (h2 : t ≤ 1000000000) : DCall pE 178 [.i .i64 t] [] = some (.tup [.i .i64 (t / 1440), .i .i64 (t % 1440)], []) := by
  rw [p_fun fn178 (by simp [c178])]
  obtain ⟨e1, e2⟩ := tdiv_down t 1440 (by omega)
  by_cases h : t.tmod 1440 < 0
  · rw [if_pos h] at e1 e2
    have w1 : wr .i64 (t / 1440 + 1) = t / 1440 + 1 := wr64 (by omega)
    have w2 : wr .i64 (t / 1440 + 1 - 1) = t / 1440 := by rw [wr64 (by omega)]; omega
    have w3 : wr .i64 (t % 1440 - 1440 + 1440) = t % 1440 := by rw [wr64 (by omega)]; omega
    rw [e2] at h
    simp only [DC_seq, DC_skip, DC_ret, DC_region, p_cond, isB_b, isT_b, andThen_nrm, endR_ret, kv_some, e_nil, o_mv, p_bin, rd_t, rd_c, get_same, get_ne, resV, ansV_gen2, froz_tup, froz1_i, frOf, frFrom, fzV_froz, ups_nil, List.all_nil, decide_true, bin_add, bin_sub, bin_quo, bin_rem, bin_lss, Option.bind_some, Option.map_some, List.all_cons, List.all_nil, Bool.and_self, if_true, if_false, reduceCtorEq, ne_eq, not_false_eq_true, Nat.reduceLT, Nat.reduceEqDiff, decide_true, Int.reduceEq, c178, e1, e2, h, w1, w2, w3]
  · rw [if_neg h] at e1 e2
    have w1 : wr .i64 (t / 1440) = t / 1440 := wr64 (by omega)
    rw [e2] at h
    simp only [DC_seq, DC_skip, DC_ret, DC_region, p_cond, isB_b, isT_b, andThen_nrm, endR_ret, kv_some, e_nil, o_mv, p_bin, rd_t, rd_c, get_same, get_ne, resV, ansV_gen2, froz_tup, froz1_i, frOf, frFrom, fzV_froz, ups_nil, List.all_nil, bin_add, bin_sub, bin_quo, bin_rem, bin_lss, Option.bind_some, Option.map_some, List.all_cons, List.all_nil, Bool.and_self, Bool.false_eq_true, if_false, reduceCtorEq, ne_eq, not_false_eq_true, Nat.reduceLT, Nat.reduceEqDiff, decide_false, Int.reduceEq, c178, e1, e2, h, w1]
theorem rfloor_ev (t : Int) (h1 : -1000000000 ≤ t) (h2 : t ≤ 1000000000) : DCall pE 231 [.i .i64 t, .i .i64 1440] [] = some (.i .i64 (t / 1440), []) := by
  rw [p_fun fn231 (by simp [c231])]
  obtain ⟨e1, e2⟩ := tdiv_down t 1440 (by omega)
  by_cases h : t.tmod 1440 < 0
  · rw [if_pos h] at e1 e2
    have w1 : wr .i64 (t / 1440 + 1) = t / 1440 + 1 := wr64 (by omega)
    have w2 : wr .i64 (t / 1440 + 1 - 1) = t / 1440 := by rw [wr64 (by omega)]; omega
    rw [e2] at h
    simp only [DC_seq, DC_skip, DC_ret, DC_region, p_cond, isB_b, isT_b, andThen_nrm, endR_ret, kv_some, e_nil, o_mv, p_bin, rd_t, rd_c, get_same, get_ne, resV, ansV_gen, froz_i, frOf, frFrom, fzV_froz, ups_nil, decide_true, bin_sub, bin_quo, bin_rem, bin_lss, Option.bind_some, Option.map_some, if_true, if_false, reduceCtorEq, ne_eq, not_false_eq_true, Nat.zero_add, Nat.reduceLT, Nat.reduceEqDiff, decide_true, Int.reduceEq, c231, e1, e2, h, w1, w2]
  · rw [if_neg h] at e1 e2
    have w1 : wr .i64 (t / 1440) = t / 1440 := wr64 (by omega)
    rw [e2] at h
    simp only [DC_seq, DC_skip, DC_ret, DC_region, p_cond, isB_b, isT_b, andThen_nrm, endR_ret, kv_some, e_nil, o_mv, p_bin, rd_t, rd_c, get_same, get_ne, resV, ansV_gen, froz_i, frOf, frFrom, fzV_froz, ups_nil, bin_sub, bin_quo, bin_rem, bin_lss, Option.bind_some, Option.map_some, Bool.false_eq_true, if_false, reduceCtorEq, ne_eq, not_false_eq_true, Nat.zero_add, Nat.reduceLT, Nat.reduceEqDiff, decide_false, Int.reduceEq, c231, e1, e2, h, w1]
theorem rsplit_ev (t : Int) (h1 : -1000000000 ≤ t) (h2 : t ≤ 1000000000) : DCall pE 186 [.i .i64 t] [] = some (.tup [.i .i64 (t / 1440), .i .i64 (t % 1440)], []) := by
  rw [p_fun fn186 (by simp [c186])]
  have w1 : wr .i64 (1440 * (t / 1440)) = 1440 * (t / 1440) := wr64 (by omega)
  have w2 : wr .i64 (t - 1440 * (t / 1440)) = t % 1440 := by rw [wr64 (by omega)]; omega
  simp only [DC_seq, DC_ret, DC_region, andThen_nrm, endR_ret, kv_some, kc_some, e_nil, o_mv, p_bin, p_call, setD, rd_t, rd_c, get_same, get_ne, resV, ansV_gen2, froz_i, froz_tup, froz1_i, frOf, frFrom, fzV_froz, ups_nil, List.all_nil, bin_sub, bin_mul, Option.bind_some, Option.map_some, List.map_cons, List.map_nil, List.all_cons, List.all_nil, Bool.and_self, reduceCtorEq, ne_eq, not_false_eq_true, Nat.reduceLT, Nat.reduceEqDiff, c186, rfloor_ev t h1 h2, dc231, w1, w2]
theorem shT_f1 (s : Option (Int × Int)) : froz1 (shT s) = true := by cases s <;> rfl
theorem zoffAt_ev {z : Zn} (hz : z.ok) {t : Int} (h1 : 0 ≤ t) (h2 : t < 52596000) : DCall pE 225 [z.t, .i .i64 t] [] = some (.tup [.i .i64 (z.at t), .i .i64 0], []) := by
  rw [p_fun fn225 (by simp [c225])]
  have hv := zval_ev hz
  have ha := zat_ev z t
  unfold Zn.t at hv ha ⊢
  simp only [DC_seq, DC_skip, DC_ret, DC_region, p_cond, isB_b, isT_b, andThen_nrm, endR_ret, kv_some, kc_some, e_nil, o_mv, o_box, p_bin, p_un, p_ld, ldV_L, ldE_cells, p_call, setD, rd_t, rd_c, get_same, get_ne, getO_same, getO_nil, noEnt, resV, ansV_gen2, froz_i, froz_agg, froz_tup, froz1_i, froz1_s, frOf, frFrom, fzV_froz, ups_nil, cells_agg, noTup_agg, part_t, Nat.reduceAdd, List.all_nil, decide_true, bin_neq, un_not, Option.bind_some, Option.map_some, List.map_cons, List.map_nil, List.all_cons, List.all_nil, List.length_cons, List.length_nil, List.drop_zero, List.take_succ_cons, List.take_zero, Bool.and_self, Bool.not_true, Bool.false_eq_true, if_true, if_false, reduceCtorEq, ne_eq, not_false_eq_true, and_self, Nat.zero_add, Nat.reduceAdd, Nat.reduceLT, Nat.reduceEqDiff, decide_true, Nat.le_refl, c225, hv, ha, zinstant_ev, h1, h2, dc116, dc176, dc199, shT_f1]
theorem roffAt_ev {z : Zn} (hz : z.ok) {t : Int} (h1 : 0 ≤ t) (h2 : t < 52596000) : DCall pE 230 [z.t, .i .i64 t] [] = some (.tup [.i .i64 (z.at t), .i .i64 0], []) := by
  rw [p_fun fn230 (by simp [c230])]
  have hv := rval_ev hz
  have ha := rat_ev z t
  unfold Zn.t at hv ha ⊢
  simp only [DC_seq, DC_skip, DC_ret, DC_region, p_cond, isB_b, isT_b, andThen_nrm, endR_ret, kv_some, kc_some, e_nil, o_mv, o_box, p_bin, p_un, p_ld, ldV_L, ldE_cells, p_call, setD, rd_t, rd_c, get_same, get_ne, getO_same, getO_nil, noEnt, resV, ansV_gen2, froz_i, froz_agg, froz_tup, froz1_i, froz1_s, frOf, frFrom, fzV_froz, ups_nil, cells_agg, noTup_agg, part_t, Nat.reduceAdd, List.all_nil, decide_true, bin_neq, un_not, Option.bind_some, Option.map_some, List.map_cons, List.map_nil, List.all_cons, List.all_nil, List.length_cons, List.length_nil, List.drop_zero, List.take_succ_cons, List.take_zero, Bool.and_self, Bool.not_true, Bool.false_eq_true, if_true, if_false, reduceCtorEq, ne_eq, not_false_eq_true, and_self, Nat.zero_add, Nat.reduceAdd, Nat.reduceLT, Nat.reduceEqDiff, decide_true, Nat.le_refl, c230, hv, ha, rinstant_ev, h1, h2, dc120, dc184, dc261, shT_f1]
theorem zmin_ev {z : Zn} (hz : z.ok) {t : Int} (h1 : 0 ≤ t) (h2 : t < 52596000) : DCall pE 177 [z.t, .i .i64 t] [] = some (.tup [.i .i64 (t + z.at t), .i .i64 0], []) := by
  rw [p_fun fn177 (by simp [c177])]
  have hv := zoffAt_ev hz h1 h2
  have hl := Zn.at_lt hz t
  have w : wr .i64 (t + z.at t) = t + z.at t := wr64 (by omega)
  unfold Zn.t at hv ⊢
  simp only [DC_seq, DC_skip, DC_ret, DC_region, p_cond, isB_b, isT_b, andThen_nrm, endR_ret, kv_some, kc_some, e_nil, o_mv, o_box, p_bin, p_ext, extV_tup, p_ld, ldV_L, ldE_cells, p_call, setD, rd_t, rd_c, get_same, get_ne, getO_same, getO_nil, noEnt, resV, ansV_gen2, froz_i, froz_agg, froz_tup, froz1_i, froz1_s, frOf, frFrom, fzV_froz, ups_nil, cells_agg, noTup_agg, part_t, Nat.reduceAdd, List.all_nil, decide_true, bin_add, bin_neq, Option.bind_some, Option.map_some, List.map_cons, List.map_nil, List.all_cons, List.all_nil, List.length_cons, List.length_nil, List.drop_zero, List.getElem?_cons_zero, List.getElem?_cons_succ, List.take_succ_cons, List.take_zero, Bool.and_self, Bool.not_true, Bool.false_eq_true, if_true, if_false, reduceCtorEq, ne_eq, not_false_eq_true, Nat.zero_add, Nat.reduceAdd, Nat.reduceLT, Nat.reduceEqDiff, decide_true, Nat.le_refl, c177, hv, dc225, shT_f1, w]
theorem rmin_ev {z : Zn} (hz : z.ok) {t : Int} (h1 : 0 ≤ t) (h2 : t < 52596000) : DCall pE 185 [z.t, .i .i64 t] [] = some (.tup [.i .i64 (t + z.at t), .i .i64 0], []) := by
  rw [p_fun fn185 (by simp [c185])]
  have hv := roffAt_ev hz h1 h2
  have hl := Zn.at_lt hz t
  have w : wr .i64 (t + z.at t) = t + z.at t := wr64 (by omega)
  unfold Zn.t at hv ⊢
  simp only [DC_seq, DC_skip, DC_ret, DC_region, p_cond, isB_b, isT_b, andThen_nrm, endR_ret, kv_some, kc_some, e_nil, o_mv, o_box, p_bin, p_ext, extV_tup, p_ld, ldV_L, ldE_cells, p_call, setD, rd_t, rd_c, get_same, get_ne, getO_same, getO_nil, noEnt, resV, ansV_gen2, froz_i, froz_agg, froz_tup, froz1_i, froz1_s, frOf, frFrom, fzV_froz, ups_nil, cells_agg, noTup_agg, part_t, Nat.reduceAdd, List.all_nil, decide_true, bin_add, bin_neq, Option.bind_some, Option.map_some, List.map_cons, List.map_nil, List.all_cons, List.all_nil, List.length_cons, List.length_nil, List.drop_zero, List.getElem?_cons_zero, List.getElem?_cons_succ, List.take_succ_cons, List.take_zero, Bool.and_self, Bool.not_true, Bool.false_eq_true, if_true, if_false, reduceCtorEq, ne_eq, not_false_eq_true, Nat.zero_add, Nat.reduceAdd, Nat.reduceLT, Nat.reduceEqDiff, decide_true, Nat.le_refl, c185, hv, dc230, shT_f1, w]
theorem ztime_ev {z : Zn} (hz : z.ok) {t : Int} (h1 : 0 ≤ t) (h2 : t < 52596000) : DCall pE 117 [z.t, .i .i64 t] [] = some (.tup [.i .i64 (z.day t), .i .i64 (z.clock t), .i .i64 0], []) := by
  rw [p_fun fn117 (by simp [c117])]
  have hv := zmin_ev hz h1 h2
  have hl := Zn.at_lt hz t
  have hs := zsplit_ev (t + z.at t) (by omega) (by omega)
  unfold Zn.t at hv ⊢
  simp only [DC_seq, DC_skip, DC_ret, DC_region, p_cond, isB_b, isT_b, andThen_nrm, endR_ret, kv_some, kc_some, e_nil, o_mv, o_box, p_bin, p_ext, extV_tup, p_ld, ldV_L, ldE_cells, p_call, setD, rd_t, rd_c, get_same, get_ne, getO_same, getO_nil, noEnt, resV, ansV_gen2, froz_i, froz_agg, froz_tup, froz1_i, froz1_s, frOf, frFrom, fzV_froz, ups_nil, cells_agg, noTup_agg, part_t, Nat.reduceAdd, List.all_nil, decide_true, bin_neq, Option.bind_some, Option.map_some, List.map_cons, List.map_nil, List.all_cons, List.all_nil, List.length_cons, List.length_nil, List.drop_zero, List.getElem?_cons_zero, List.getElem?_cons_succ, List.take_succ_cons, List.take_zero, Bool.and_self, Bool.not_true, Bool.false_eq_true, if_true, if_false, reduceCtorEq, ne_eq, not_false_eq_true, Nat.zero_add, Nat.reduceAdd, Nat.reduceLT, Nat.reduceEqDiff, decide_true, Nat.le_refl, c117, hv, hs, dc177, dc178, shT_f1, Zn.day, Zn.clock]
theorem rtime_ev {z : Zn} (hz : z.ok) {t : Int} (h1 : 0 ≤ t) (h2 : t < 52596000) : DCall pE 121 [z.t, .i .i64 t] [] = some (.tup [.i .i64 (z.day t), .i .i64 (z.clock t), .i .i64 0], []) := by
  rw [p_fun fn121 (by simp [c121])]
  have hv := rmin_ev hz h1 h2
  have hl := Zn.at_lt hz t
  have hs := rsplit_ev (t + z.at t) (by omega) (by omega)
  unfold Zn.t at hv ⊢
  simp only [DC_seq, DC_skip, DC_ret, DC_region, p_cond, isB_b, isT_b, andThen_nrm, endR_ret, kv_some, kc_some, e_nil, o_mv, o_box, p_bin, p_ext, extV_tup, p_ld, ldV_L, ldE_cells, p_call, setD, rd_t, rd_c, get_same, get_ne, getO_same, getO_nil, noEnt, resV, ansV_gen2, froz_i, froz_agg, froz_tup, froz1_i, froz1_s, frOf, frFrom, fzV_froz, ups_nil, cells_agg, noTup_agg, part_t, Nat.reduceAdd, List.all_nil, decide_true, bin_neq, Option.bind_some, Option.map_some, List.map_cons, List.map_nil, List.all_cons, List.all_nil, List.length_cons, List.length_nil, List.drop_zero, List.getElem?_cons_zero, List.getElem?_cons_succ, List.take_succ_cons, List.take_zero, Bool.and_self, Bool.not_true, Bool.false_eq_true, if_true, if_false, reduceCtorEq, ne_eq, not_false_eq_true, Nat.zero_add, Nat.reduceAdd, Nat.reduceLT, Nat.reduceEqDiff, decide_true, Nat.le_refl, c121, hv, hs, dc185, dc186, shT_f1, Zn.day, Zn.clock]
theorem rday_ev {z : Zn} (hz : z.ok) {t : Int} (h1 : 0 ≤ t) (h2 : t < 52596000) : DCall pE 71 [z.t, .i .i64 t] [] = some (.i .i64 (z.day t), []) := by
  rw [p_fun fn71 (by simp [c71])]
  have hv := rtime_ev hz h1 h2
  unfold Zn.t at hv ⊢
  simp only [DC_seq, DC_ret, DC_region, andThen_nrm, endR_ret, kv_some, kc_some, e_nil, o_mv, o_box, p_ext, extV_tup, p_ld, ldV_L, ldE_cells, p_call, setD, rd_t, rd_c, get_same, get_ne, getO_same, getO_nil, noEnt, resV, ansV_gen, froz_i, froz_agg, froz1_i, froz1_s, frOf, frFrom, fzV_froz, ups_nil, cells_agg, noTup_agg, part_t, Nat.reduceAdd, List.all_nil, Option.bind_some, Option.map_some, List.map_cons, List.map_nil, List.all_cons, List.all_nil, List.length_cons, List.length_nil, List.drop_zero, List.getElem?_cons_zero, List.getElem?_cons_succ, List.take_succ_cons, List.take_zero, Bool.and_self, if_true, reduceCtorEq, ne_eq, not_false_eq_true, Nat.zero_add, Nat.reduceAdd, Nat.reduceLT, Nat.reduceEqDiff, Nat.le_refl, c71, hv, dc121, shT_f1]
end Go.Proofs.YtfenhjpkomldcaaGreat
