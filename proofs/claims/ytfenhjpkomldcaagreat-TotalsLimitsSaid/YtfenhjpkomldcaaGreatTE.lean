/- The contract of the built inputs is valid. Conditions: none beyond the theorems' own. -/
import Derived.Test.YtfenhjpkomldcaaGreatTD
set_option maxRecDepth 100000
set_option linter.unusedSimpArgs false
set_option linter.unusedVariables false
namespace Go.Proofs.YtfenhjpkomldcaaGreat
open Go Go.Ev
theorem froz_rules : froz tRules = true := nr rfl
theorem within_ev (a b c : Int) : DCall pE 169 [.i .i64 a, .i .i64 b, .i .i64 c] [] = some (.b (decide (b ≤ a ∧ a ≤ c)), []) := by
  rw [p_fun fn169 (by simp [c169])]
  by_cases h1 : b ≤ a <;> simp only [DC_seq, DC_ret, DC_region, andThen_nrm, endR_ret, kv_some, e_nil, o_mv, p_pick, pickV_b, p_bin, g_passT, g_skipT, rd_t, rd_c, get_same, get_ne, resV, ansV_gen, froz_b, frOf, frFrom, fzV_froz, ups_nil, Nat.reduceAdd, decide_true, bin_leq, bin_geq, Option.bind_some, Option.map_some, Bool.false_eq_true, if_true, if_false, reduceCtorEq, ne_eq, not_false_eq_true, true_and, false_and, Nat.zero_add, Nat.reduceAdd, Nat.reduceLT, Nat.reduceEqDiff, decide_true, decide_false, c169, h1]
theorem n_flying : DCall pE 218 [.s [102, 108, 121, 105, 110, 103]] [] = some (.b true, []) := dcall_of (m := 100) (by_callK (by kernel_rfl))
theorem n_work : DCall pE 218 [.s [119, 111, 114, 107]] [] = some (.b true, []) := dcall_of (m := 100) (by_callK (by kernel_rfl))
theorem n_free : DCall pE 218 [.s [102, 114, 101, 101]] [] = some (.b true, []) := dcall_of (m := 100) (by_callK (by kernel_rfl))
theorem k_block : DCall pE 224 [.s [98, 108, 111, 99, 107]] [] = some (.i .i64 3, []) := dcall_of (m := 100) (by_callK (by kernel_rfl))
theorem k_duties : DCall pE 224 [.s [100, 117, 116, 105, 101, 115]] [] = some (.i .i64 2, []) := dcall_of (m := 100) (by_callK (by kernel_rfl))
def conOk (m0 d0 m1 d1 cnt dd : Int) : Prop := (0 ≤ m0 ∧ m0 ≤ 599999) ∧ (1 ≤ d0 ∧ d0 ≤ 31) ∧ (0 ≤ m1 ∧ m1 ≤ 599999) ∧ (1 ≤ d1 ∧ d1 ≤ 31) ∧ (1 ≤ dd ∧ dd ≤ 31) ∧ (1 ≤ cnt ∧ cnt ≤ dd)
theorem windows_ev (m0 d0 m1 d1 cnt dd : Int) (h : conOk m0 d0 m1 d1 cnt dd) : DCall pE 173 [.agg (conC m0 d0 m1 d1 cnt dd)] [] = some (.i .i64 0, []) := by
  obtain ⟨⟨h1, h2⟩, ⟨h3, h4⟩, ⟨h5, h6⟩, ⟨h7, h8⟩, ⟨h9, h10⟩, ⟨h11, h12⟩⟩ := h
  rw [p_fun fn173 (by simp [c173])]
  unfold conC limC offC
  simp only [Int.cast_ofNat_Int, wr64, Int.reduceAdd, Int.reduceNeg, DC_seq, DC_skip, DC_exit, DC_ret, DC_region, DC_block, p_cond, isB_b, isT_b, andThen_nrm, andThen_ext, outOf_nrm, outOf_ext, endR_ret, kv_some, ks_some, kc_some, e_nil, o_mv, o_alloc, o_box, o_mkmap, p_pick, pickV_b, p_bin, p_un, p_fa, faV_ptr, p_ia, iaV_sl, p_lenV, lenI_sl, p_ld, ldV_vp, ldV_L, ldE_cells, p_st, stV_L, stB_box, notS_mp, p_lk, lkV, p_mu, muV, p_call, g_passF, setD, rd_t, rd_c, get_same, get_ne, getO_same, getO_ne, getO_nil, noEnt, resV, ansV_gen, froz_b, froz_i, froz_s, frOf, frFrom, fzV_froz, ups_nil, cells_agg, noTup_agg, splice, part_t, part_f, Nat.reduceAdd, List.all_nil, decide_true, bin_add, bin_eql, bin_lss, un_not, Option.bind_some, Option.map_some, Option.map_none, List.map_cons, List.map_nil, List.all_cons, List.all_nil, List.length_cons, List.length_nil, List.drop_zero, List.nil_append, List.cons_append, List.getElem?_cons_zero, List.getElem?_cons_succ, List.drop_succ_cons, List.take_succ_cons, List.take_zero, Bool.and_self, Bool.not_true, Bool.false_eq_true, if_true, if_false, reduceCtorEq, ne_eq, not_false_eq_true, and_self, and_true, and_false, Nat.zero_add, Nat.add_zero, Nat.one_mul, Nat.zero_mul, Nat.reduceAdd, Nat.reduceMul, Nat.reduceLT, Nat.reduceLeDiff, Nat.reduceEqDiff, decide_true, decide_false, Nat.le_refl, Int.reduceToNat, Int.reduceLE, Int.reduceLT, Int.reduceEq, eqT_s, key_s, find_nil, find_cons, findS_b, lkIn_eq, lkF_none, putK_eq, putF_none, lkE_map, muE_map, List.cons.injEq, Int.reduceEq, DC_loop, c173, c173_L1, c173_L2, within_ev, n_flying, n_work, n_free, k_block, k_duties, dc169, dc218, dc224, h1, h2, h3, h4, h5, h6, h7, h8, h9, h10, h11, h12]

theorem v_consts : DCall pE 170 [.nilsl] [] = some (.i .i64 0, []) := dcall_of (m := 300) (by_callK (by kernel_rfl))
theorem v_rules : ∃ s, DCall pE 171 [tRules] [] = some (.i .i64 0, s) := dval_of (m := 300) (by rw [← callK_eq]; kernel_rfl)
theorem v_c0 : ∃ s, DCall pE 55 [(.agg [(.i .i64 8), (.i .i64 0), (.s []), (.sl [(.i .i64 10), (.i .i64 0), (.s []), (.sl [(.i .i64 1), (.i .i64 10), (.s []), .nilsl, (.i .i64 6), (.i .i64 0), (.s [108, 101, 103, 115]), .nilsl] 2 true), (.i .i64 11), (.i .i64 0), (.s []), (.sl [(.i .i64 6), (.i .i64 0), (.s [98, 108, 111, 99, 107]), .nilsl, (.i .i64 2), (.i .i64 30), (.s []), .nilsl] 2 true)] 2 true)])] [] = some (.i .i64 0, s) := dval_of (m := 300) (by rw [← callK_eq]; kernel_rfl)
theorem v_c1 : ∃ s, DCall pE 55 [(.agg [(.i .i64 1), (.i .i64 5), (.s []), .nilsl])] [] = some (.i .i64 0, s) := dval_of (m := 300) (by rw [← callK_eq]; kernel_rfl)
theorem v_c2 : ∃ s, DCall pE 55 [(.agg [(.i .i64 1), (.i .i64 7), (.s []), .nilsl])] [] = some (.i .i64 0, s) := dval_of (m := 300) (by rw [← callK_eq]; kernel_rfl)
theorem v_cr : ∃ s, DCall pE 55 [(.agg [(.i .i64 13), (.i .i64 0), (.s []), (.sl [(.i .i64 6), (.i .i64 0), (.s [98, 108, 111, 99, 107]), .nilsl, (.i .i64 2), (.i .i64 120), (.s []), .nilsl] 2 false)])] [] = some (.i .i64 0, s) := dval_of (m := 300) (by rw [← callK_eq]; kernel_rfl)
theorem scope_ev (a : Int) : DCall pE 172 [.i .i64 a] [] = some (.b (decide (1 ≤ a ∧ a ≤ 3)), []) := by
  rw [p_fun fn172 (by simp [c172])]
  simp only [DC_seq, DC_ret, DC_region, andThen_nrm, endR_ret, kc_some, e_nil, o_mv, p_call, setD, rd_t, rd_c, get_same, get_ne, resV, ansV_gen, froz_b, froz_i, frOf, frFrom, fzV_froz, ups_nil, List.all_nil, Option.bind_some, Option.map_some, List.map_cons, List.map_nil, List.all_cons, List.all_nil, Bool.and_self, reduceCtorEq, ne_eq, not_false_eq_true, Nat.reduceLT, c172, within_ev, dc169]
theorem len_rules : lenI tRules = some (.i .i64 1) := nr rfl
theorem gval_ev (m0 d0 m1 d1 cnt dd : Int) (e : Int) (h : DCall pE 173 [.agg (conC m0 d0 m1 d1 cnt dd)] [] = some (.i .i64 e, [])) : DCall pE 113 [.agg (conC m0 d0 m1 d1 cnt dd)] [] = some (.i .i64 e, []) := by
  rw [p_fun fn113 (by simp [c113])]
  obtain ⟨s1, v1⟩ := v_rules
  obtain ⟨s2, v2⟩ := v_c0
  obtain ⟨s3, v3⟩ := v_c1
  obtain ⟨s4, v4⟩ := v_c2
  obtain ⟨s5, v5⟩ := v_cr
  unfold conC tCosts tCredit at h ⊢
  simp only [Int.cast_ofNat_Int, wr64, Int.reduceAdd, Int.reduceNeg, DC_seq, DC_skip, DC_exit, DC_ret, DC_region, DC_block, p_cond, isB_b, isT_b, andThen_nrm, andThen_ext, outOf_nrm, outOf_ext, endR_ret, kv_some, ks_some, kc_some, e_nil, o_mv, o_alloc, o_box, p_bin, p_un, p_fa, faV_ptr, p_ia, iaV_sl, p_lenV, lenI_nil, lenI_sl, p_ld, ldV_vp, ldV_L, ldE_cells, p_st, stV_L, stB_box, p_call, setD, rd_t, rd_c, get_same, get_ne, getO_same, getO_ne, getO_nil, noEnt, resV, ansV_gen, froz_i, froz_nilsl, froz_agg, froz1_i, froz1_s, froz1_nilsl, froz1_sl, frOf, frFrom, fzV_froz, ups_nil, cells_agg, noTup_agg, splice, part_t, part_f, Nat.reduceAdd, List.all_nil, decide_true, bin_add, bin_neq, bin_lss, bin_gtr, un_not, Option.bind_some, Option.map_some, List.map_cons, List.map_nil, List.all_cons, List.all_nil, List.length_cons, List.length_nil, List.drop_zero, List.getElem?_cons_zero, List.getElem?_cons_succ, List.drop_succ_cons, List.take_succ_cons, List.take_zero, Bool.and_self, Bool.not_true, Bool.false_eq_true, if_true, if_false, ne_eq, not_false_eq_true, and_self, Nat.zero_add, Nat.add_zero, Nat.one_mul, Nat.zero_mul, Nat.reduceAdd, Nat.reduceMul, Nat.reduceLT, Nat.reduceLeDiff, Nat.reduceEqDiff, decide_true, decide_false, Nat.le_refl, Int.reduceToNat, Int.reduceLE, Int.reduceLT, DC_loop, c113, c113_L1, c113_L2, within_ev, scope_ev, v_consts, v1, v2, v3, v4, v5, h, dc169, dc170, dc171, dc55, dc172, dc173, froz1_rules, len_rules, froz_rules]
end Go.Proofs.YtfenhjpkomldcaaGreat
