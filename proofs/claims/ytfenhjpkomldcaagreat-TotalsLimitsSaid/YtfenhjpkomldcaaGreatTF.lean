/- The contract of the built inputs has its types. Conditions: none beyond the theorems' own. -/
import Derived.Test.YtfenhjpkomldcaaGreatTE
set_option maxRecDepth 100000
set_option linter.unusedSimpArgs false
set_option linter.unusedVariables false
namespace Go.Proofs.YtfenhjpkomldcaaGreat
open Go Go.Ev
theorem nc_ev : ∃ s, DCall pE 96 [.nilsl] [] = some ((.vp [.nilsl, .vm [] [], .vm [] []]), s) := dval_of (m := 300) (by rw [← callK_eq]; kernel_rfl)
theorem x_r0 : ∃ s, DCall pE 115 [(.vp [.nilsl, .vm [] [], .vm [] []]), .i .i64 1, .i .i64 0, (.agg [(.i .i64 17), (.i .i64 0), (.s []), (.sl [(.i .i64 8), (.i .i64 0), (.s []), (.sl [(.i .i64 6), (.i .i64 0), (.s [108, 101, 103, 115]), .nilsl, (.i .i64 6), (.i .i64 0), (.s [104, 101, 97, 100, 115]), .nilsl] 2 true), (.i .i64 1), (.i .i64 3), (.s []), .nilsl] 2 true)]), .i .i64 4] [] = some (.i .i64 0, s) := dval_of (m := 300) (by rw [← callK_eq]; kernel_rfl)
theorem x_c0 : ∃ s, DCall pE 115 [(.vp [.nilsl, .vm [] [], .vm [] []]), .i .i64 1, .i .i64 0, (.agg [(.i .i64 8), (.i .i64 0), (.s []), (.sl [(.i .i64 10), (.i .i64 0), (.s []), (.sl [(.i .i64 1), (.i .i64 10), (.s []), .nilsl, (.i .i64 6), (.i .i64 0), (.s [108, 101, 103, 115]), .nilsl] 2 true), (.i .i64 11), (.i .i64 0), (.s []), (.sl [(.i .i64 6), (.i .i64 0), (.s [98, 108, 111, 99, 107]), .nilsl, (.i .i64 2), (.i .i64 30), (.s []), .nilsl] 2 true)] 2 true)]), .i .i64 1] [] = some (.i .i64 0, s) := dval_of (m := 300) (by rw [← callK_eq]; kernel_rfl)
theorem x_c1 : ∃ s, DCall pE 115 [(.vp [.nilsl, .vm [] [], .vm [] []]), .i .i64 2, .i .i64 0, (.agg [(.i .i64 1), (.i .i64 5), (.s []), .nilsl]), .i .i64 1] [] = some (.i .i64 0, s) := dval_of (m := 300) (by rw [← callK_eq]; kernel_rfl)
theorem x_c2 : ∃ s, DCall pE 115 [(.vp [.nilsl, .vm [] [], .vm [] []]), .i .i64 3, .i .i64 0, (.agg [(.i .i64 1), (.i .i64 7), (.s []), .nilsl]), .i .i64 1] [] = some (.i .i64 0, s) := dval_of (m := 300) (by rw [← callK_eq]; kernel_rfl)
theorem x_cr : ∃ s, DCall pE 115 [(.vp [.nilsl, .vm [] [], .vm [] []]), .i .i64 1, .i .i64 0, (.agg [(.i .i64 13), (.i .i64 0), (.s []), (.sl [(.i .i64 6), (.i .i64 0), (.s [98, 108, 111, 99, 107]), .nilsl, (.i .i64 2), (.i .i64 120), (.s []), .nilsl] 2 false)]), .i .i64 2] [] = some (.i .i64 0, s) := dval_of (m := 300) (by rw [← callK_eq]; kernel_rfl)
theorem tval_ev (m0 d0 m1 d1 cnt dd : Int) (e : Int) (he : e = 0 ∨ e = 5) (h : DCall pE 173 [.agg (conC m0 d0 m1 d1 cnt dd)] [] = some (.i .i64 e, [])) : DCall pE 62 [.agg (conC m0 d0 m1 d1 cnt dd)] [] = some (.i .i64 e, []) := by
  have hg := gval_ev m0 d0 m1 d1 cnt dd e h
  rw [p_fun fn62 (by simp [c62])]
  obtain ⟨s0, v0⟩ := nc_ev
  obtain ⟨s1, v1⟩ := x_r0
  obtain ⟨s2, v2⟩ := x_c0
  obtain ⟨s3, v3⟩ := x_c1
  obtain ⟨s4, v4⟩ := x_c2
  obtain ⟨s5, v5⟩ := x_cr
  unfold conC tRules tCosts tCredit at hg ⊢
  rcases he with rfl | rfl
  · simp only [Int.cast_ofNat_Int, wr64, Int.reduceAdd, Int.reduceNeg, DC_seq, DC_skip, DC_exit, DC_ret, DC_region, DC_block, p_cond, isB_b, isT_b, andThen_nrm, andThen_ext, outOf_nrm, outOf_ext, endR_ret, kv_some, ks_some, kc_some, e_nil, o_mv, o_alloc, o_box, p_bin, p_fa, faV_ptr, p_ia, iaV_sl, p_lenV, lenI_nil, lenI_sl, p_ld, ldV_vp, ldV_L, ldE_cells, p_st, stV_L, stB_box, p_call, setD, rd_t, rd_c, get_same, get_ne, getO_same, getO_ne, getO_nil, noEnt, resV, ansV_gen, froz_i, froz_nilsl, froz_vp, froz_agg, froz1_i, froz1_s, froz1_nilsl, froz1_sl, frOf, frFrom, fzV_froz, ups_nil, cells_agg, noTup_agg, splice, part_t, part_f, Nat.reduceAdd, List.all_nil, decide_true, bin_add, bin_neq, bin_lss, Option.bind_some, Option.map_some, List.map_cons, List.map_nil, List.all_cons, List.all_nil, List.length_cons, List.length_nil, List.drop_zero, List.getElem?_cons_zero, List.getElem?_cons_succ, List.drop_succ_cons, List.take_succ_cons, List.take_zero, Bool.and_self, Bool.not_true, Bool.false_eq_true, if_true, if_false, ne_eq, not_false_eq_true, and_self, Nat.zero_add, Nat.add_zero, Nat.one_mul, Nat.zero_mul, Nat.reduceAdd, Nat.reduceMul, Nat.reduceLT, Nat.reduceLeDiff, Nat.reduceEqDiff, decide_true, decide_false, Nat.le_refl, Int.reduceToNat, Int.reduceLE, Int.reduceLT, DC_loop, c62, c62_L1, c62_L2, c62_L3, c62_L4, c62_L5, hg, v0, v1, v2, v3, v4, v5, dc113, dc96, dc115]
  · simp only [DC_seq, DC_skip, DC_ret, DC_region, p_cond, isB_b, isT_b, andThen_nrm, andThen_ret, endR_ret, kv_some, kc_some, e_nil, o_mv, o_box, p_bin, p_ld, ldV_L, ldE_cells, p_call, setD, rd_t, rd_c, get_same, get_ne, getO_same, getO_nil, noEnt, resV, ansV_gen, froz_i, froz_agg, froz1_i, froz1_nilsl, froz1_sl, frOf, frFrom, fzV_froz, ups_nil, cells_agg, noTup_agg, part_t, Nat.reduceAdd, List.all_nil, bin_neq, Option.bind_some, Option.map_some, List.map_cons, List.map_nil, List.all_cons, List.all_nil, List.length_cons, List.length_nil, List.drop_zero, List.take_succ_cons, List.take_zero, Bool.and_self, Bool.not_false, if_true, ne_eq, not_false_eq_true, Nat.zero_add, Nat.reduceAdd, Nat.reduceLT, Nat.reduceEqDiff, decide_false, Nat.le_refl, Int.reduceEq, c62, hg, dc113]
end Go.Proofs.YtfenhjpkomldcaaGreat
