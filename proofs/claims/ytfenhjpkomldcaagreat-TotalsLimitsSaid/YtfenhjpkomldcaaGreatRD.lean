/- The reference: its checks, and whether a day is free. Conditions: none beyond the theorems' own. -/
import Derived.Test.YtfenhjpkomldcaaGreatRC
import Derived.Test.YtfenhjpkomldcaaGreatRV
import Derived.Test.YtfenhjpkomldcaaGreatTL
set_option maxRecDepth 100000
set_option maxHeartbeats 4000000
set_option linter.unusedSimpArgs false
set_option linter.unusedVariables false
namespace Go.Proofs.YtfenhjpkomldcaaGreat
open Go Go.Ev
theorem rexp_ev (m0 d0 m1 d1 cnt dd : Int) (sc ty : Int) (x y z w : T) (hf : [x, y, z, w].all froz1 = true) (hn : (noTup x && (noTup y && (noTup z && noTup w))) = true) (h : ∃ s, DCall pE 56 [.nilsl, .i .i64 sc, .agg [x, y, z, w]] [] = some (.tup [.i .i64 ty, .i .i64 0], s)) :
    DCall pE 75 [.agg (conC m0 d0 m1 d1 cnt dd), .i .i64 sc, .agg [x, y, z, w], .i .i64 ty] [] = some (.i .i64 0, []) := by
  obtain ⟨s, h⟩ := h
  rw [p_fun fn75 (by simp [c75])]
  unfold conC
  simp only [List.all_cons, List.all_nil, Bool.and_eq_true, and_true] at hf
  obtain ⟨f1, f2, f3, f4⟩ := hf
  simp only [DC_seq, DC_skip, DC_ret, DC_region, p_cond, isB_b, isT_b, andThen_nrm, endR_ret, kv_some, kc_some, e_nil, o_mv, o_box, p_pick, pickV_b, p_bin, p_fa, faV_ptr, p_ext, extV_tup, p_ld, ldV_L, ldE_cells, p_call, g_passT, setD, rd_t, rd_c, get_same, get_ne, getO_same, getO_ne, getO_nil, noEnt, resV, ansV_gen, froz_i, froz_nilsl, froz_agg, frOf, frFrom, fzV_froz, ups_nil, cells_agg, noTup_agg, part_t, part_f, Nat.reduceAdd, List.all_nil, decide_true, bin_eql, bin_neq, Option.bind_some, Option.map_some, List.map_cons, List.map_nil, List.all_cons, List.all_nil, List.length_cons, List.length_nil, List.drop_zero, List.getElem?_cons_zero, List.getElem?_cons_succ, List.take_succ_cons, List.take_zero, Bool.and_self, Bool.not_true, Bool.false_eq_true, if_true, if_false, ite_self, reduceCtorEq, ne_eq, not_false_eq_true, Nat.zero_add, Nat.reduceAdd, Nat.reduceLT, Nat.reduceEqDiff, decide_true, Nat.le_refl, c75, h, dc56, f1, f2, f3, f4]
theorem rchk_ev (m0 d0 m1 d1 cnt dd : Int) (h : conOk m0 d0 m1 d1 cnt dd) : DCall pE 40 [.agg (conC m0 d0 m1 d1 cnt dd)] [] = some (.i .i64 0, []) := by
  have hv := rval11_ev m0 d0 m1 d1 cnt dd 0 (rwin_ev m0 d0 m1 d1 cnt dd h)
  have e1 := rexp_ev m0 d0 m1 d1 cnt dd 1 4 _ _ _ _ rfl rfl rt_r
  have e2 := rexp_ev m0 d0 m1 d1 cnt dd 1 1 _ _ _ _ rfl rfl rt_c0
  have e3 := rexp_ev m0 d0 m1 d1 cnt dd 2 1 _ _ _ _ rfl rfl rt_c1
  have e4 := rexp_ev m0 d0 m1 d1 cnt dd 3 1 _ _ _ _ rfl rfl rt_c2
  have e5 := rexp_ev m0 d0 m1 d1 cnt dd 1 2 _ _ _ _ rfl rfl rt_cr
  rw [p_fun fn40 (by simp [c40])]
  unfold conC tRules tCosts tCredit at hv e1 e2 e3 e4 e5 ⊢
  simp only [Int.cast_ofNat_Int, wr64, Int.reduceAdd, Int.reduceNeg, DC_seq, DC_skip, DC_exit, DC_ret, DC_region, DC_block, p_cond, isB_b, isT_b, andThen_nrm, andThen_ext, outOf_nrm, outOf_ext, endR_ret, kv_some, kc_some, e_nil, o_mv, o_box, p_bin, p_fa, faV_vp, faV_ptr, p_ia, iaV_sl, p_lenV, lenI_nil, lenI_sl, p_ld, ldV_vp, ldV_L, ldE_cells, p_call, setD, rd_t, rd_c, get_same, get_ne, getO_same, getO_nil, noEnt, resV, ansV_gen, froz_i, froz_agg, froz1_i, froz1_s, froz1_nilsl, froz1_sl, frOf, frFrom, fzV_froz, ups_nil, cells_agg, noTup_agg, part_t, part_f, Nat.reduceAdd, List.all_nil, decide_true, bin_add, bin_neq, bin_lss, Option.bind_some, Option.map_some, List.map_cons, List.map_nil, List.all_cons, List.all_nil, List.length_cons, List.length_nil, List.drop_zero, List.nil_append, List.cons_append, List.getElem?_cons_zero, List.getElem?_cons_succ, List.drop_succ_cons, List.take_succ_cons, List.take_zero, Bool.and_self, Bool.not_true, Bool.not_false, Bool.false_eq_true, if_true, if_false, ne_eq, not_false_eq_true, and_self, Nat.zero_add, Nat.one_mul, Nat.zero_mul, Nat.reduceAdd, Nat.reduceMul, Nat.reduceLT, Nat.reduceLeDiff, Nat.reduceEqDiff, decide_true, decide_false, Nat.le_refl, Nat.zero_le, Int.reduceToNat, Int.reduceLE, Int.reduceLT, DC_drawsK, d_nil, d_pure, pure_mv, pure_fa, pure_ia, d_ld, ldLog_vp, ldLog_ptr, ke_some, meets_nil, meets_cons, apart_ff, apart1_nil, apart1_cons, has_nil, getL, DC_loop, c40, c40_L1, c40_L2, c40_L3, c40_L4, hv, e1, e2, e3, e4, e5, dc73, dc75, dd75]
theorem rready_ev (z : Zn) (hz : z.ok) (m0 d0 m1 d1 cnt dd : Int) (hc : conOk m0 d0 m1 d1 cnt dd) (l : T) (ss : List Sti) (hl : IsSl l ss.length (ss.flatMap stC)) (hs : ∀ s ∈ ss, s.ok) :
    DCall pE 70 [z.t, .agg (conC m0 d0 m1 d1 cnt dd), l] [] = some (.i .i64 (valSpec 2 ss), []) := by
  rw [p_fun fn70 (by simp [c70])]
  have h1 := rval_ev hz
  have h2 := rchk_ev m0 d0 m1 d1 cnt dd hc
  have h3 := rvs_ev l (.sl (limC m0 d0 m1 d1) 2 false) (conC m0 d0 m1 d1 cnt dd) ss 2 hl hs rfl rfl
  unfold Zn.t at h1 ⊢
  unfold conC at h2 h3 ⊢
  simp only [DC_seq, DC_skip, DC_ret, DC_region, p_cond, isB_b, isT_b, andThen_nrm, endR_ret, kv_some, kc_some, e_nil, o_mv, o_box, p_bin, p_ld, ldV_L, ldE_cells, p_call, setD, rd_t, rd_c, get_same, get_ne, getO_same, getO_ne, getO_nil, noEnt, resV, ansV_gen, froz_i, froz_agg, froz1_i, froz1_s, froz1_nilsl, froz1_sl, frOf, frFrom, fzV_froz, ups_nil, cells_agg, noTup_agg, part_t, Nat.reduceAdd, List.all_nil, decide_true, bin_neq, Option.bind_some, Option.map_some, List.map_cons, List.map_nil, List.all_cons, List.all_nil, List.length_cons, List.length_nil, List.drop_zero, List.take_succ_cons, List.take_zero, Bool.and_self, Bool.not_true, Bool.false_eq_true, if_true, if_false, reduceCtorEq, ne_eq, not_false_eq_true, Nat.zero_add, Nat.reduceAdd, Nat.reduceLT, Nat.reduceEqDiff, decide_true, Nat.le_refl, c70, h1, h2, h3, dc120, dc40, dc31, shT_f1, froz1_rules, froz1_costs, froz1_credit, hl.froz]
end Go.Proofs.YtfenhjpkomldcaaGreat
