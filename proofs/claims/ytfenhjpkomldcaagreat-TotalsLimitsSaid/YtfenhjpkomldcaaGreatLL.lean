/- Limits of the program and of the reference at any zone, contract and stints of the built kinds: the same breaches and error. Conditions: the theorems' own. -/
import Derived.Test.YtfenhjpkomldcaaGreatLP
import Derived.Test.YtfenhjpkomldcaaGreatSB
set_option maxRecDepth 100000
set_option maxHeartbeats 4000000
set_option linter.unusedSimpArgs false
set_option linter.unusedVariables false
namespace Go.Proofs.YtfenhjpkomldcaaGreat
open Go Go.Ev
def conBad (m0 d0 m1 d1 : Int) : Prop := (0 ≤ m0 ∧ m0 ≤ 599999) ∧ (1 ≤ d0 ∧ d0 ≤ 31) ∧ (0 ≤ m1 ∧ m1 ≤ 599999) ∧ (1 ≤ d1 ∧ d1 ≤ 31)
theorem win_bad (m0 d0 m1 d1 cnt : Int) (h : conBad m0 d0 m1 d1) : DCall pE 173 [.agg (conC m0 d0 m1 d1 cnt 0)] [] = some (.i .i64 5, []) := by
  obtain ⟨⟨h1, h2⟩, ⟨h3, h4⟩, ⟨h5, h6⟩, ⟨h7, h8⟩⟩ := h
  rw [p_fun fn173 (by simp [c173])]
  unfold conC limC offC
  have h0 : ¬ (1 : Int) ≤ 0 := by decide
  simp only [Int.cast_ofNat_Int, wr64, Int.reduceAdd, Int.reduceNeg, DC_seq, DC_skip, DC_exit, DC_ret, DC_region, DC_block, p_cond, isB_b, isT_b, andThen_nrm, andThen_ext, andThen_ret, outOf_nrm, outOf_ret, outOf_ext, endR_ret, kv_some, ks_some, kc_some, e_nil, o_mv, o_alloc, o_box, o_mkmap, p_pick, pickV_b, p_bin, p_un, p_fa, faV_ptr, p_ia, iaV_sl, p_lenV, lenI_sl, p_ld, ldV_vp, ldV_L, ldE_cells, p_st, stV_L, stB_box, notS_mp, p_lk, lkV, p_mu, muV, p_call, g_passF, g_skipF, setD, rd_t, rd_c, get_same, get_ne, getO_same, getO_ne, getO_nil, noEnt, resV, ansV_gen, froz_b, froz_i, froz_s, frOf, frFrom, fzV_froz, ups_nil, cells_agg, noTup_agg, splice, part_t, part_f, Nat.reduceAdd, List.all_nil, decide_true, bin_add, bin_eql, bin_lss, un_not, Option.bind_some, Option.map_some, Option.map_none, List.map_cons, List.map_nil, List.all_cons, List.all_nil, List.length_cons, List.length_nil, List.drop_zero, List.nil_append, List.cons_append, List.getElem?_cons_zero, List.getElem?_cons_succ, List.drop_succ_cons, List.take_succ_cons, List.take_zero, Bool.and_self, Bool.not_true, Bool.not_false, Bool.false_eq_true, if_true, if_false, reduceCtorEq, ne_eq, not_false_eq_true, and_self, and_true, and_false, Nat.zero_add, Nat.add_zero, Nat.one_mul, Nat.zero_mul, Nat.reduceAdd, Nat.reduceMul, Nat.reduceLT, Nat.reduceLeDiff, Nat.reduceEqDiff, decide_true, decide_false, Nat.le_refl, Int.reduceToNat, Int.reduceLE, Int.reduceLT, Int.reduceEq, eqT_s, key_s, find_nil, find_cons, findS_b, lkIn_eq, lkF_none, putK_eq, putF_none, lkE_map, muE_map, List.cons.injEq, Int.reduceEq, DC_loop, c173, c173_L1, c173_L2, within_ev, n_flying, n_work, n_free, k_block, k_duties, dc169, dc218, dc224, h1, h2, h3, h4, h5, h6, h7, h8, h0]
theorem rwin_bad (m0 d0 m1 d1 cnt : Int) (h : conBad m0 d0 m1 d1) : DCall pE 127 [.agg (conC m0 d0 m1 d1 cnt 0)] [] = some (.i .i64 5, []) := by
  obtain ⟨⟨h1, h2⟩, ⟨h3, h4⟩, ⟨h5, h6⟩, ⟨h7, h8⟩⟩ := h
  rw [p_fun fn127 (by simp [c127])]
  unfold conC limC offC
  have h0 : ¬ (1 : Int) ≤ 0 := by decide
  simp only [Int.cast_ofNat_Int, wr64, Int.reduceAdd, Int.reduceNeg, DC_seq, DC_skip, DC_exit, DC_ret, DC_region, DC_calm, DC_block, p_cond, isB_b, isT_b, andThen_nrm, andThen_ext, andThen_ret, outOf_nrm, outOf_ret, outOf_ext, endR_ret, kv_some, ks_some, kc_some, e_nil, o_mv, o_alloc, o_box, p_pick, pickV_b, p_bin, p_un, p_fa, faV_vp, faV_ptr, p_ia, iaV_sl, p_lenV, lenI_sl, p_ld, ldV_vp, ldV_L, ldE_cells, p_st, stV_L, stB_box, p_call, g_passF, g_skipF, setD, rd_t, rd_c, get_same, get_ne, getO_same, getO_ne, getO_nil, noEnt, resV, ansV_gen, froz_i, froz_s, frOf, frFrom, fzV_froz, ups_nil, cells_agg, noTup_agg, splice, part_t, part_f, backD, calmOp, Nat.reduceAdd, List.all_nil, decide_true, bin_add, bin_eql, bin_lss, bin_seql, un_not, Option.bind_some, Option.map_some, List.map_cons, List.map_nil, List.all_cons, List.all_nil, List.length_cons, List.length_nil, List.drop_zero, List.getElem?_cons_zero, List.getElem?_cons_succ, List.drop_succ_cons, List.take_succ_cons, List.take_zero, Bool.and_self, Bool.not_true, Bool.not_false, Bool.false_eq_true, if_true, if_false, reduceCtorEq, ne_eq, not_false_eq_true, and_self, and_true, and_false, Nat.zero_add, Nat.add_zero, Nat.one_mul, Nat.zero_mul, Nat.reduceAdd, Nat.reduceMul, Nat.reduceLT, Nat.reduceLeDiff, Nat.reduceEqDiff, decide_true, decide_false, Nat.le_refl, Nat.zero_le, Int.reduceToNat, Int.reduceLE, Int.reduceLT, Int.reduceEq, List.cons.injEq, Int.reduceEq, DC_loop, c127, c127_L1, c127_L2, c127_L3, c127_L4, c127_L5, rwithin_ev, rn_flying, rn_work, rn_free, rk_block, rk_duties, dc125, dc126, dc196, h1, h2, h3, h4, h5, h6, h7, h8, h0]
theorem rchk_bad (m0 d0 m1 d1 cnt : Int) (h : conBad m0 d0 m1 d1) : DCall pE 40 [.agg (conC m0 d0 m1 d1 cnt 0)] [] = some (.i .i64 5, []) := by
  have hv := rval11_ev m0 d0 m1 d1 cnt 0 5 (rwin_bad m0 d0 m1 d1 cnt h)
  rw [p_fun fn40 (by simp [c40])]
  unfold conC at hv ⊢
  simp only [DC_seq, DC_skip, DC_ret, DC_region, p_cond, isB_b, isT_b, andThen_nrm, andThen_ret, endR_ret, kv_some, kc_some, e_nil, o_mv, o_box, p_bin, p_ld, ldV_L, ldE_cells, p_call, setD, rd_t, rd_c, get_same, get_ne, getO_same, getO_nil, noEnt, resV, ansV_gen, froz_i, froz_agg, froz1_i, froz1_nilsl, froz1_sl, frOf, frFrom, fzV_froz, ups_nil, cells_agg, noTup_agg, part_t, Nat.reduceAdd, List.all_nil, bin_neq, Option.bind_some, Option.map_some, List.map_cons, List.map_nil, List.all_cons, List.all_nil, List.length_cons, List.length_nil, List.drop_zero, List.take_succ_cons, List.take_zero, Bool.and_self, Bool.not_false, if_true, ne_eq, not_false_eq_true, Nat.zero_add, Nat.reduceAdd, Nat.reduceLT, Nat.reduceEqDiff, decide_false, Nat.le_refl, Int.reduceEq, c40, hv, dc73, froz1_rules, froz1_costs, froz1_credit]
section
variable (z : Zn) (m0 d0 m1 d1 cnt dd : Int) (l : T) (ss : List Sti) (hl : IsSl l ss.length (ss.flatMap stC)) (hs : ∀ s ∈ ss, s.ok)
include hl hs
theorem chk_zone (hz : 840 < z.off) : DCall pE 68 [z.t, .agg (conC m0 d0 m1 d1 cnt dd), l] [] = some (.i .i64 5, []) := by
  have _ := hs
  have _ := hl
  rw [p_fun fn68 (by simp [c68])]
  have h1 := zbad_ev hz
  unfold Zn.t at h1 ⊢
  unfold conC
  simp only [DC_seq, DC_skip, DC_ret, DC_region, p_cond, isB_b, isT_b, andThen_nrm, andThen_ret, endR_ret, kv_some, kc_some, e_nil, o_mv, o_box, p_bin, p_ld, ldV_L, ldE_cells, p_call, setD, rd_t, rd_c, get_same, get_ne, getO_same, getO_ne, getO_nil, noEnt, resV, ansV_gen, froz_i, froz_agg, froz1_i, froz1_s, frOf, frFrom, fzV_froz, ups_nil, cells_agg, noTup_agg, part_t, Nat.reduceAdd, List.all_nil, bin_neq, Option.bind_some, Option.map_some, List.map_cons, List.map_nil, List.all_cons, List.all_nil, List.length_cons, List.length_nil, List.drop_zero, List.take_succ_cons, List.take_zero, Bool.and_self, Bool.not_false, if_true, reduceCtorEq, ne_eq, not_false_eq_true, Nat.zero_add, Nat.reduceAdd, Nat.reduceLT, Nat.reduceEqDiff, decide_false, Nat.le_refl, Int.reduceEq, c68, h1, dc116, shT_f1]
theorem chk_con (hz : z.ok) (hc : conBad m0 d0 m1 d1) : DCall pE 68 [z.t, .agg (conC m0 d0 m1 d1 cnt 0), l] [] = some (.i .i64 5, []) := by
  have _ := hs
  have _ := hl
  rw [p_fun fn68 (by simp [c68])]
  have h1 := zval_ev hz
  have h2 := tval_ev m0 d0 m1 d1 cnt 0 5 (Or.inr rfl) (win_bad m0 d0 m1 d1 cnt hc)
  unfold Zn.t at h1 ⊢
  unfold conC at h2 ⊢
  simp only [DC_seq, DC_skip, DC_ret, DC_region, p_cond, isB_b, isT_b, andThen_nrm, andThen_ret, endR_ret, kv_some, kc_some, e_nil, o_mv, o_box, p_bin, p_ld, ldV_L, ldE_cells, p_call, setD, rd_t, rd_c, get_same, get_ne, getO_same, getO_ne, getO_nil, noEnt, resV, ansV_gen, froz_i, froz_agg, froz1_i, froz1_s, froz1_nilsl, froz1_sl, frOf, frFrom, fzV_froz, ups_nil, cells_agg, noTup_agg, part_t, Nat.reduceAdd, List.all_nil, decide_true, bin_neq, Option.bind_some, Option.map_some, List.map_cons, List.map_nil, List.all_cons, List.all_nil, List.length_cons, List.length_nil, List.drop_zero, List.take_succ_cons, List.take_zero, Bool.and_self, Bool.not_true, Bool.not_false, Bool.false_eq_true, if_true, if_false, reduceCtorEq, ne_eq, not_false_eq_true, Nat.zero_add, Nat.reduceAdd, Nat.reduceLT, Nat.reduceEqDiff, decide_true, decide_false, Nat.le_refl, Int.reduceEq, c68, h1, h2, dc116, dc62, shT_f1, froz1_rules, froz1_costs, froz1_credit]
theorem chk_gen (hz : z.ok) (hc : conOk m0 d0 m1 d1 cnt dd) : DCall pE 68 [z.t, .agg (conC m0 d0 m1 d1 cnt dd), l] [] = some (.i .i64 (valSpec 2 ss), []) := by
  rw [p_fun fn68 (by simp [c68])]
  have h1 := zval_ev hz
  have h2 := tval_ev m0 d0 m1 d1 cnt dd 0 (Or.inl rfl) (windows_ev m0 d0 m1 d1 cnt dd hc)
  have h3 := val_ev l (.sl (limC m0 d0 m1 d1) 2 false) (conC m0 d0 m1 d1 cnt dd) ss 2 hl hs rfl rfl
  unfold Zn.t at h1 ⊢
  unfold conC at h2 h3 ⊢
  simp only [DC_seq, DC_skip, DC_ret, DC_region, p_cond, isB_b, isT_b, andThen_nrm, endR_ret, kv_some, kc_some, e_nil, o_mv, o_box, p_bin, p_ld, ldV_L, ldE_cells, p_call, setD, rd_t, rd_c, get_same, get_ne, getO_same, getO_ne, getO_nil, noEnt, resV, ansV_gen, froz_i, froz_agg, froz1_i, froz1_s, froz1_nilsl, froz1_sl, frOf, frFrom, fzV_froz, ups_nil, cells_agg, noTup_agg, part_t, Nat.reduceAdd, List.all_nil, decide_true, bin_neq, Option.bind_some, Option.map_some, List.map_cons, List.map_nil, List.all_cons, List.all_nil, List.length_cons, List.length_nil, List.drop_zero, List.take_succ_cons, List.take_zero, Bool.and_self, Bool.not_true, Bool.false_eq_true, if_true, if_false, reduceCtorEq, ne_eq, not_false_eq_true, Nat.zero_add, Nat.reduceAdd, Nat.reduceLT, Nat.reduceEqDiff, decide_true, Nat.le_refl, c68, h1, h2, h3, dc116, dc62, dc30, shT_f1, froz1_rules, froz1_costs, froz1_credit, hl.froz]
theorem rdy_zone (hz : 840 < z.off) : DCall pE 70 [z.t, .agg (conC m0 d0 m1 d1 cnt dd), l] [] = some (.i .i64 5, []) := by
  have _ := hs
  have _ := hl
  rw [p_fun fn70 (by simp [c70])]
  have h1 := rbad_ev hz
  unfold Zn.t at h1 ⊢
  unfold conC
  simp only [DC_seq, DC_skip, DC_ret, DC_region, p_cond, isB_b, isT_b, andThen_nrm, andThen_ret, endR_ret, kv_some, kc_some, e_nil, o_mv, o_box, p_bin, p_ld, ldV_L, ldE_cells, p_call, setD, rd_t, rd_c, get_same, get_ne, getO_same, getO_ne, getO_nil, noEnt, resV, ansV_gen, froz_i, froz_agg, froz1_i, froz1_s, frOf, frFrom, fzV_froz, ups_nil, cells_agg, noTup_agg, part_t, Nat.reduceAdd, List.all_nil, bin_neq, Option.bind_some, Option.map_some, List.map_cons, List.map_nil, List.all_cons, List.all_nil, List.length_cons, List.length_nil, List.drop_zero, List.take_succ_cons, List.take_zero, Bool.and_self, Bool.not_false, if_true, reduceCtorEq, ne_eq, not_false_eq_true, Nat.zero_add, Nat.reduceAdd, Nat.reduceLT, Nat.reduceEqDiff, decide_false, Nat.le_refl, Int.reduceEq, c70, h1, dc120, shT_f1]
theorem rdy_con (hz : z.ok) (hc : conBad m0 d0 m1 d1) : DCall pE 70 [z.t, .agg (conC m0 d0 m1 d1 cnt 0), l] [] = some (.i .i64 5, []) := by
  have _ := hs
  have _ := hl
  rw [p_fun fn70 (by simp [c70])]
  have h1 := rval_ev hz
  have h2 := rchk_bad m0 d0 m1 d1 cnt hc
  unfold Zn.t at h1 ⊢
  unfold conC at h2 ⊢
  simp only [DC_seq, DC_skip, DC_ret, DC_region, p_cond, isB_b, isT_b, andThen_nrm, andThen_ret, endR_ret, kv_some, kc_some, e_nil, o_mv, o_box, p_bin, p_ld, ldV_L, ldE_cells, p_call, setD, rd_t, rd_c, get_same, get_ne, getO_same, getO_ne, getO_nil, noEnt, resV, ansV_gen, froz_i, froz_agg, froz1_i, froz1_s, froz1_nilsl, froz1_sl, frOf, frFrom, fzV_froz, ups_nil, cells_agg, noTup_agg, part_t, Nat.reduceAdd, List.all_nil, decide_true, bin_neq, Option.bind_some, Option.map_some, List.map_cons, List.map_nil, List.all_cons, List.all_nil, List.length_cons, List.length_nil, List.drop_zero, List.take_succ_cons, List.take_zero, Bool.and_self, Bool.not_true, Bool.not_false, Bool.false_eq_true, if_true, if_false, reduceCtorEq, ne_eq, not_false_eq_true, Nat.zero_add, Nat.reduceAdd, Nat.reduceLT, Nat.reduceEqDiff, decide_true, decide_false, Nat.le_refl, Int.reduceEq, c70, h1, h2, dc120, dc40, shT_f1, froz1_rules, froz1_costs, froz1_credit]
theorem tlim_err (e : Int) (he : e ≠ 0) (hk : DCall pE 68 [z.t, .agg (conC m0 d0 m1 d1 cnt dd), l] [] = some (.i .i64 e, [])) : DCall pE 34 [z.t, .agg (conC m0 d0 m1 d1 cnt dd), l] [] = some (.tup [.nilsl, .i .i64 e], []) := by
  have _ := hs
  have _ := hl
  rw [p_funO fn34 (by simp [c34])]
  unfold Zn.t at hk ⊢
  unfold conC at hk ⊢
  simp only [DC_seq, DC_skip, DC_ret, DC_region, p_cond, isB_b, isT_b, andThen_nrm, andThen_ret, endO_ret, kv_some, kc_some, e_nil, o_mv, o_box, p_bin, p_ld, ldV_L, ldE_cells, p_call, setD, rd_t, rd_c, get_same, get_ne, getO_same, getO_ne, getO_nil, noEnt, resV, froz_agg, froz1_i, froz1_s, froz1_nilsl, froz1_sl, frOf, frFrom, cells_agg, noTup_agg, part_t, Nat.reduceAdd, List.all_nil, bin_neq, Option.bind_some, Option.map_some, List.map_cons, List.map_nil, List.all_cons, List.all_nil, List.length_cons, List.length_nil, List.drop_zero, List.take_succ_cons, List.take_zero, Bool.and_self, Bool.not_false, if_true, reduceCtorEq, ne_eq, not_false_eq_true, Nat.zero_add, Nat.reduceAdd, Nat.reduceLT, Nat.reduceEqDiff, decide_false, Nat.le_refl, c34, hk, he, dc68, shT_f1, froz1_rules, froz1_costs, froz1_credit, hl.froz, ansO_nil2]
theorem rlim_err (e : Int) (he : e ≠ 0) (hk : DCall pE 70 [z.t, .agg (conC m0 d0 m1 d1 cnt dd), l] [] = some (.i .i64 e, [])) : DCall pE 35 [z.t, .agg (conC m0 d0 m1 d1 cnt dd), l] [] = some (.tup [.nilsl, .i .i64 e], []) := by
  have _ := hs
  have _ := hl
  rw [p_fun fn35 (by simp [c35])]
  unfold Zn.t at hk ⊢
  unfold conC at hk ⊢
  simp only [DC_seq, DC_skip, DC_ret, DC_region, p_cond, isB_b, isT_b, andThen_nrm, andThen_ret, endR_ret, kv_some, kc_some, e_nil, o_mv, o_box, p_bin, p_ld, ldV_L, ldE_cells, p_call, setD, rd_t, rd_c, get_same, get_ne, getO_same, getO_ne, getO_nil, noEnt, resV, ansV_gen2, froz_agg, froz_tup, froz1_i, froz1_s, froz1_nilsl, froz1_sl, frOf, frFrom, fzV_froz, ups_nil, cells_agg, noTup_agg, part_t, Nat.reduceAdd, List.all_nil, bin_neq, Option.bind_some, Option.map_some, List.map_cons, List.map_nil, List.all_cons, List.all_nil, List.length_cons, List.length_nil, List.drop_zero, List.take_succ_cons, List.take_zero, Bool.and_self, Bool.not_false, if_true, reduceCtorEq, ne_eq, not_false_eq_true, Nat.zero_add, Nat.reduceAdd, Nat.reduceLT, Nat.reduceEqDiff, decide_false, Nat.le_refl, c35, c35_R1, hk, he, dc70, shT_f1, froz1_rules, froz1_costs, froz1_credit, hl.froz]
theorem both_lim (hz : z.ok ∨ 840 < z.off) (hc : conOk m0 d0 m1 d1 cnt dd ∨ (conBad m0 d0 m1 d1 ∧ dd = 0)) : ∃ (bs : List Br) (e : Int), bs.length < 1000000 ∧
    DCall pE 34 [z.t, .agg (conC m0 d0 m1 d1 cnt dd), l] [] = some (.tup [outT bs.length (bs.flatMap bC), .i .i64 e], []) ∧
    DCall pE 35 [z.t, .agg (conC m0 d0 m1 d1 cnt dd), l] [] = some (.tup [outT bs.length (bs.flatMap bC), .i .i64 e], []) := by
  rcases hz with hz | hz
  · rcases hc with hc | ⟨hc, rfl⟩
    · by_cases hv : valSpec 2 ss = 0
      · have hf := val_fit hv hs
        have h1 := tlim_ev z hz m0 d0 m1 d1 cnt dd hc l ss hl hf hv
        have h2 := rlim_ev z hz m0 d0 m1 d1 cnt dd hc l ss hl hf hs hv
        have hd : ∀ x ∈ lims2 m0 d0 m1 d1, 1 ≤ x.d ∧ x.d ≤ 31 := by
          obtain ⟨_, a, _, b, _⟩ := hc
          intro x hx
          simp only [lims2, List.mem_cons, List.not_mem_nil, or_false] at hx
          rcases hx with rfl | rfl
          · exact a
          · exact b
        rw [lim_ref z ss (lims2 m0 d0 m1 d1) (fun x hx => (hd x hx).1)] at h2
        have hul := br_len z ss hf.len (lims2 m0 d0 m1 d1) 0 (fun x hx => (hd x hx).2)
        refine ⟨(brAll z ss 0 (lims2 m0 d0 m1 d1)).map toL, 0, ?_, ?_, ?_⟩
        · rw [List.length_map]; simp only [lims2, List.length_cons, List.length_nil] at hul ⊢; omega
        · rw [h1, toL_cells, List.length_map]
        · rw [h2, toL_cells, List.length_map]
      · exact ⟨[], valSpec 2 ss, by simp, tlim_err z m0 d0 m1 d1 cnt dd l ss hl hs _ hv (chk_gen z m0 d0 m1 d1 cnt dd l ss hl hs hz hc), rlim_err z m0 d0 m1 d1 cnt dd l ss hl hs _ hv (rready_ev z hz m0 d0 m1 d1 cnt dd hc l ss hl hs)⟩
    · exact ⟨[], 5, by simp, tlim_err z m0 d0 m1 d1 cnt 0 l ss hl hs 5 (by decide) (chk_con z m0 d0 m1 d1 cnt l ss hl hs hz hc), rlim_err z m0 d0 m1 d1 cnt 0 l ss hl hs 5 (by decide) (rdy_con z m0 d0 m1 d1 cnt l ss hl hs hz hc)⟩
  · exact ⟨[], 5, by simp, tlim_err z m0 d0 m1 d1 cnt dd l ss hl hs 5 (by decide) (chk_zone z m0 d0 m1 d1 cnt dd l ss hl hs hz), rlim_err z m0 d0 m1 d1 cnt dd l ss hl hs 5 (by decide) (rdy_zone z m0 d0 m1 d1 cnt dd l ss hl hs hz)⟩
end
end Go.Proofs.YtfenhjpkomldcaaGreat
