/- The reference finds the contract of the built inputs valid. Conditions: none beyond the theorems' own. -/
import Derived.Test.YtfenhjpkomldcaaGreatTE
set_option maxRecDepth 100000
set_option maxHeartbeats 4000000
set_option linter.unusedSimpArgs false
set_option linter.unusedVariables false
namespace Go.Proofs.YtfenhjpkomldcaaGreat
open Go Go.Ev
theorem rwithin_ev (a b c : Int) : DCall pE 125 [.i .i64 a, .i .i64 b, .i .i64 c] [] = some (.b (decide (b ≤ a ∧ a ≤ c)), []) := by
  rw [p_fun fn125 (by simp [c125])]
  by_cases h1 : b ≤ a <;> simp only [DC_seq, DC_ret, DC_region, andThen_nrm, endR_ret, kv_some, e_nil, o_mv, p_pick, pickV_b, p_bin, g_passT, g_skipT, rd_t, rd_c, get_same, get_ne, resV, ansV_gen, froz_b, frOf, frFrom, fzV_froz, ups_nil, Nat.reduceAdd, decide_true, bin_leq, bin_geq, Option.bind_some, Option.map_some, Bool.false_eq_true, if_true, if_false, reduceCtorEq, ne_eq, not_false_eq_true, true_and, false_and, Nat.zero_add, Nat.reduceAdd, Nat.reduceLT, Nat.reduceEqDiff, decide_true, decide_false, c125, h1]
theorem rn_flying : DCall pE 126 [.s [102, 108, 121, 105, 110, 103]] [] = some (.b true, []) := dcall_of (m := 100) (by_callK (by kernel_rfl))
theorem rn_work : DCall pE 126 [.s [119, 111, 114, 107]] [] = some (.b true, []) := dcall_of (m := 100) (by_callK (by kernel_rfl))
theorem rn_free : DCall pE 126 [.s [102, 114, 101, 101]] [] = some (.b true, []) := dcall_of (m := 100) (by_callK (by kernel_rfl))
theorem rn_max : DCall pE 126 [.s [108, 101, 103, 115, 95, 109, 97, 120]] [] = some (.b true, []) := dcall_of (m := 100) (by_callK (by kernel_rfl))
theorem rk_block : DCall pE 196 [.s [98, 108, 111, 99, 107]] [] = some (.i .i64 2, []) := dcall_of (m := 100) (by_callK (by kernel_rfl))
theorem rk_duties : DCall pE 196 [.s [100, 117, 116, 105, 101, 115]] [] = some (.i .i64 1, []) := dcall_of (m := 100) (by_callK (by kernel_rfl))
def xR : T := (.agg [(.i .i64 17), (.i .i64 0), (.s []), (.sl [(.i .i64 8), (.i .i64 0), (.s []), (.sl [(.i .i64 6), (.i .i64 0), (.s [108, 101, 103, 115]), .nilsl, (.i .i64 6), (.i .i64 0), (.s [104, 101, 97, 100, 115]), .nilsl] 2 true), (.i .i64 1), (.i .i64 3), (.s []), .nilsl] 2 true)])
def xC0 : T := (.agg [(.i .i64 8), (.i .i64 0), (.s []), (.sl [(.i .i64 10), (.i .i64 0), (.s []), (.sl [(.i .i64 1), (.i .i64 10), (.s []), .nilsl, (.i .i64 6), (.i .i64 0), (.s [108, 101, 103, 115]), .nilsl] 2 true), (.i .i64 11), (.i .i64 0), (.s []), (.sl [(.i .i64 6), (.i .i64 0), (.s [98, 108, 111, 99, 107]), .nilsl, (.i .i64 2), (.i .i64 30), (.s []), .nilsl] 2 true)] 2 true)])
def xC1 : T := (.agg [(.i .i64 1), (.i .i64 5), (.s []), .nilsl])
def xC2 : T := (.agg [(.i .i64 1), (.i .i64 7), (.s []), .nilsl])
def xCr : T := (.agg [(.i .i64 13), (.i .i64 0), (.s []), (.sl [(.i .i64 6), (.i .i64 0), (.s [98, 108, 111, 99, 107]), .nilsl, (.i .i64 2), (.i .i64 120), (.s []), .nilsl] 2 false)])
theorem rv_r : ∃ s, DCall pE 59 [xR] [] = some (.i .i64 0, s) := dval_of (m := 300) (by rw [← callK_eq]; kernel_rfl)
theorem rv_c0 : ∃ s, DCall pE 59 [xC0] [] = some (.i .i64 0, s) := dval_of (m := 300) (by rw [← callK_eq]; kernel_rfl)
theorem rv_c1 : ∃ s, DCall pE 59 [xC1] [] = some (.i .i64 0, s) := dval_of (m := 300) (by rw [← callK_eq]; kernel_rfl)
theorem rv_c2 : ∃ s, DCall pE 59 [xC2] [] = some (.i .i64 0, s) := dval_of (m := 300) (by rw [← callK_eq]; kernel_rfl)
theorem rv_cr : ∃ s, DCall pE 59 [xCr] [] = some (.i .i64 0, s) := dval_of (m := 300) (by rw [← callK_eq]; kernel_rfl)
theorem rt_r : ∃ s, DCall pE 56 [.nilsl, .i .i64 1, xR] [] = some (.tup [.i .i64 4, .i .i64 0], s) := dval_of (m := 300) (by rw [← callK_eq]; kernel_rfl)
theorem rt_c0 : ∃ s, DCall pE 56 [.nilsl, .i .i64 1, xC0] [] = some (.tup [.i .i64 1, .i .i64 0], s) := dval_of (m := 300) (by rw [← callK_eq]; kernel_rfl)
theorem rt_c1 : ∃ s, DCall pE 56 [.nilsl, .i .i64 2, xC1] [] = some (.tup [.i .i64 1, .i .i64 0], s) := dval_of (m := 300) (by rw [← callK_eq]; kernel_rfl)
theorem rt_c2 : ∃ s, DCall pE 56 [.nilsl, .i .i64 3, xC2] [] = some (.tup [.i .i64 1, .i .i64 0], s) := dval_of (m := 300) (by rw [← callK_eq]; kernel_rfl)
theorem rt_cr : ∃ s, DCall pE 56 [.nilsl, .i .i64 1, xCr] [] = some (.tup [.i .i64 2, .i .i64 0], s) := dval_of (m := 300) (by rw [← callK_eq]; kernel_rfl)
theorem rwin_ev (m0 d0 m1 d1 cnt dd : Int) (h : conOk m0 d0 m1 d1 cnt dd) : DCall pE 127 [.agg (conC m0 d0 m1 d1 cnt dd)] [] = some (.i .i64 0, []) := by
  obtain ⟨⟨h1, h2⟩, ⟨h3, h4⟩, ⟨h5, h6⟩, ⟨h7, h8⟩, ⟨h9, h10⟩, ⟨h11, h12⟩⟩ := h
  rw [p_fun fn127 (by simp [c127])]
  unfold conC limC offC
  simp only [Int.cast_ofNat_Int, wr64, Int.reduceAdd, Int.reduceNeg, DC_seq, DC_skip, DC_exit, DC_ret, DC_region, DC_calm, DC_block, p_cond, isB_b, isT_b, andThen_nrm, andThen_ext, outOf_nrm, outOf_ext, endR_ret, kv_some, ks_some, kc_some, e_nil, o_mv, o_alloc, o_box, p_pick, pickV_b, p_bin, p_un, p_fa, faV_vp, faV_ptr, p_ia, iaV_sl, p_lenV, lenI_sl, p_ld, ldV_vp, ldV_L, ldE_cells, p_st, stV_L, stB_box, p_call, g_passF, setD, rd_t, rd_c, get_same, get_ne, getO_same, getO_ne, getO_nil, noEnt, resV, ansV_gen, froz_i, froz_s, frOf, frFrom, fzV_froz, ups_nil, cells_agg, noTup_agg, splice, part_t, part_f, backD, calmOp, Nat.reduceAdd, List.all_nil, decide_true, bin_add, bin_eql, bin_lss, bin_seql, un_not, Option.bind_some, Option.map_some, List.map_cons, List.map_nil, List.all_cons, List.all_nil, List.length_cons, List.length_nil, List.drop_zero, List.getElem?_cons_zero, List.getElem?_cons_succ, List.drop_succ_cons, List.take_succ_cons, List.take_zero, Bool.and_self, Bool.not_true, Bool.false_eq_true, if_true, if_false, reduceCtorEq, ne_eq, not_false_eq_true, and_self, and_true, and_false, Nat.zero_add, Nat.add_zero, Nat.one_mul, Nat.zero_mul, Nat.reduceAdd, Nat.reduceMul, Nat.reduceLT, Nat.reduceLeDiff, Nat.reduceEqDiff, decide_true, decide_false, Nat.le_refl, Nat.zero_le, Int.reduceToNat, Int.reduceLE, Int.reduceLT, Int.reduceEq, List.cons.injEq, Int.reduceEq, DC_loop, c127, c127_L1, c127_L2, c127_L3, c127_L4, c127_L5, rwithin_ev, rn_flying, rn_work, rn_free, rk_block, rk_duties, dc125, dc126, dc196, h1, h2, h3, h4, h5, h6, h7, h8, h9, h10, h11, h12]
theorem rval11_ev (m0 d0 m1 d1 cnt dd : Int) (e : Int) (h : DCall pE 127 [.agg (conC m0 d0 m1 d1 cnt dd)] [] = some (.i .i64 e, [])) : DCall pE 73 [.agg (conC m0 d0 m1 d1 cnt dd)] [] = some (.i .i64 e, []) := by
  rw [p_fun fn73 (by simp [c73])]
  obtain ⟨s1, v1⟩ := rv_r
  obtain ⟨s2, v2⟩ := rv_c0
  obtain ⟨s3, v3⟩ := rv_c1
  obtain ⟨s4, v4⟩ := rv_c2
  obtain ⟨s5, v5⟩ := rv_cr
  unfold xR at v1
  unfold xC0 at v2
  unfold xC1 at v3
  unfold xC2 at v4
  unfold xCr at v5
  unfold conC tRules tCosts tCredit at h ⊢
  simp only [Int.cast_ofNat_Int, wr64, Int.reduceAdd, Int.reduceNeg, DC_seq, DC_skip, DC_exit, DC_ret, DC_region, DC_block, p_cond, isB_b, isT_b, andThen_nrm, andThen_ext, outOf_nrm, outOf_ext, endR_ret, kv_some, ks_some, kc_some, e_nil, o_mv, o_alloc, o_box, p_pick, pickV_b, p_bin, p_un, p_fa, faV_vp, faV_ptr, p_ia, iaV_sl, p_lenV, lenI_nil, lenI_sl, p_ld, ldV_vp, ldV_L, ldE_cells, p_st, stV_L, stB_box, p_call, g_passF, setD, rd_t, rd_c, get_same, get_ne, getO_same, getO_ne, getO_nil, noEnt, resV, ansV_gen, froz_i, froz_s, froz_agg, froz1_i, froz1_s, froz1_nilsl, froz1_sl, frOf, frFrom, fzV_froz, ups_nil, cells_agg, noTup_agg, splice, part_t, part_f, Nat.reduceAdd, List.all_nil, decide_true, bin_add, bin_neq, bin_lss, bin_gtr, un_not, Option.bind_some, Option.map_some, List.map_cons, List.map_nil, List.all_cons, List.all_nil, List.length_cons, List.length_nil, List.drop_zero, List.getElem?_cons_zero, List.getElem?_cons_succ, List.drop_succ_cons, List.take_succ_cons, List.take_zero, Bool.and_self, Bool.not_true, Bool.false_eq_true, if_true, if_false, ne_eq, not_false_eq_true, and_self, Nat.zero_add, Nat.add_zero, Nat.one_mul, Nat.zero_mul, Nat.reduceAdd, Nat.reduceMul, Nat.reduceLT, Nat.reduceLeDiff, Nat.reduceEqDiff, decide_true, decide_false, Nat.le_refl, Nat.zero_le, Int.reduceToNat, Int.reduceLE, Int.reduceLT, DC_loop, c73, c73_L1, c73_L2, c73_L3, c73_L4, c73_L5, c73_L6, rwithin_ev, rn_max, v1, v2, v3, v4, v5, h, dc125, dc126, dc59, dc127]
end Go.Proofs.YtfenhjpkomldcaaGreat
