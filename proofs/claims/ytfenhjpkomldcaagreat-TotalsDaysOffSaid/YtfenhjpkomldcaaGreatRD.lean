/- The reference: its checks, and whether a day is free. Conditions: none beyond the theorems' own. -/
import Derived.Test.YtfenhjpkomldcaaGreatRC
import Derived.Test.YtfenhjpkomldcaaGreatRV
import Derived.Test.YtfenhjpkomldcaaGreatTL
set_option maxRecDepth 100000
set_option maxHeartbeats 4000000
set_option linter.unusedSimpArgs false
set_option linter.unusedVariables false
namespace Go.Proofs.YtfenhjpkomldcaaGreat
open Go Go.Ev
theorem rexp_ev (m0 d0 m1 d1 cnt dd : Int) (sc ty : Int) (x y z w : T) (hf : [x, y, z, w].all froz1 = true) (hn : (noTup x && (noTup y && (noTup z && noTup w))) = true) (h : ∃ s, DCall pE 56 [.nilsl, .i .i64 sc, .agg [x, y, z, w]] [] = some (.tup [.i .i64 ty, .i .i64 0], s)) :
    DCall pE 75 [.agg (conC m0 d0 m1 d1 cnt dd), .i .i64 sc, .agg [x, y, z, w], .i .i64 ty] [] = some (.i .i64 0, []) := by
  obtain ⟨s, h⟩ := h
  rw [p_fun fn75 (by simp [c75])]
  unfold conC
  simp only [List.all_cons, List.all_nil, Bool.and_eq_true, and_true] at hf
  obtain ⟨f1, f2, f3, f4⟩ := hf
  simp only [DC_seq, DC_skip, DC_ret, DC_region, p_cond, isB_b, isT_b, andThen_nrm, endR_ret, kv_some, kc_some, e_nil, o_mv, o_box, p_pick, pickV_b, p_bin, p_fa, faV_ptr, p_ext, extV_tup, p_ld, ldV_L, ldE_cells, p_call, g_passT, setD, rd_t, rd_c, get_same, get_ne, getO_same, getO_ne, getO_nil, noEnt, resV, ansV_gen, froz_i, froz_nilsl, froz_agg, frOf, frFrom, fzV_froz, ups_nil, cells_agg, noTup_agg, part_t, part_f, Nat.reduceAdd, List.all_nil, decide_true, bin_eql, bin_neq, Option.bind_some, Option.map_some, List.map_cons, List.map_nil, List.all_cons, List.all_nil, List.length_cons, List.length_nil, List.drop_zero, List.getElem?_cons_zero, List.getElem?_cons_succ, List.take_succ_cons, List.take_zero, Bool.and_self, Bool.not_true, Bool.false_eq_true, if_true, if_false, ite_self, reduceCtorEq, ne_eq, not_false_eq_true, Nat.zero_add, Nat.reduceAdd, Nat.reduceLT, Nat.reduceEqDiff, decide_true, Nat.le_refl, c75, h, dc56, f1, f2, f3, f4]
theorem rchk_ev (m0 d0 m1 d1 cnt dd : Int) (h : conOk m0 d0 m1 d1 cnt dd) : DCall pE 40 [.agg (conC m0 d0 m1 d1 cnt dd)] [] = some (.i .i64 0, []) := by
  have hv := rval11_ev m0 d0 m1 d1 cnt dd 0 (rwin_ev m0 d0 m1 d1 cnt dd h)
  have e1 := rexp_ev m0 d0 m1 d1 cnt dd 1 4 _ _ _ _ rfl rfl rt_r
  have e2 := rexp_ev m0 d0 m1 d1 cnt dd 1 1 _ _ _ _ rfl rfl rt_c0
  have e3 := rexp_ev m0 d0 m1 d1 cnt dd 2 1 _ _ _ _ rfl rfl rt_c1
  have e4 := rexp_ev m0 d0 m1 d1 cnt dd 3 1 _ _ _ _ rfl rfl rt_c2
  have e5 := rexp_ev m0 d0 m1 d1 cnt dd 1 2 _ _ _ _ rfl rfl rt_cr
  rw [p_fun fn40 (by simp [c40])]
  unfold conC tRules tCosts tCredit at hv e1 e2 e3 e4 e5 ⊢
  simp only [Int.cast_ofNat_Int, wr64, Int.reduceAdd, Int.reduceNeg, DC_seq, DC_skip, DC_exit, DC_ret, DC_region, DC_block, p_cond, isB_b, isT_b, andThen_nrm, andThen_ext, outOf_nrm, outOf_ext, endR_ret, kv_some, kc_some, e_nil, o_mv, o_box, p_bin, p_fa, faV_vp, faV_ptr, p_ia, iaV_sl, p_lenV, lenI_nil, lenI_sl, p_ld, ldV_vp, ldV_L, ldE_cells, p_call, setD, rd_t, rd_c, get_same, get_ne, getO_same, getO_nil, noEnt, resV, ansV_gen, froz_i, froz_agg, froz1_i, froz1_s, froz1_nilsl, froz1_sl, frOf, frFrom, fzV_froz, ups_nil, cells_agg, noTup_agg, part_t, part_f, Nat.reduceAdd, List.all_nil, decide_true, bin_add, bin_neq, bin_lss, Option.bind_some, Option.map_some, List.map_cons, List.map_nil, List.all_cons, List.all_nil, List.length_cons, List.length_nil, List.drop_zero, List.nil_append, List.cons_append, List.getElem?_cons_zero, List.getElem?_cons_succ, List.drop_succ_cons, List.take_succ_cons, List.take_zero, Bool.and_self, Bool.not_true, Bool.not_false, Bool.false_eq_true, if_true, if_false, ne_eq, not_false_eq_true, and_self, Nat.zero_add, Nat.one_mul, Nat.zero_mul, Nat.reduceAdd, Nat.reduceMul, Nat.reduceLT, Nat.reduceLeDiff, Nat.reduceEqDiff, decide_true, decide_false, Nat.le_refl, Nat.zero_le, Int.reduceToNat, Int.reduceLE, Int.reduceLT, DC_drawsK, d_nil, d_pure, pure_mv, pure_fa, pure_ia, d_ld, ldLog_vp, ldLog_ptr, ke_some, meets_nil, meets_cons, apart_ff, apart1_nil, apart1_cons, has_nil, getL, DC_loop, c40, c40_L1, c40_L2, c40_L3, c40_L4, hv, e1, e2, e3, e4, e5, dc73, dc75, dd75]
theorem rready_ev (z : Zn) (hz : z.ok) (m0 d0 m1 d1 cnt dd : Int) (hc : conOk m0 d0 m1 d1 cnt dd) (l : T) (ss : List Sti) (hl : IsSl l ss.length (ss.flatMap stC)) (hs : ∀ s ∈ ss, s.ok) :
    DCall pE 70 [z.t, .agg (conC m0 d0 m1 d1 cnt dd), l] [] = some (.i .i64 (valSpec 2 ss), []) := by
  rw [p_fun fn70 (by simp [c70])]
  have h1 := rval_ev hz
  have h2 := rchk_ev m0 d0 m1 d1 cnt dd hc
  have h3 := rvs_ev l (.sl (limC m0 d0 m1 d1) 2 false) (conC m0 d0 m1 d1 cnt dd) ss 2 hl hs rfl rfl
  unfold Zn.t at h1 ⊢
  unfold conC at h2 h3 ⊢
  simp only [DC_seq, DC_skip, DC_ret, DC_region, p_cond, isB_b, isT_b, andThen_nrm, endR_ret, kv_some, kc_some, e_nil, o_mv, o_box, p_bin, p_ld, ldV_L, ldE_cells, p_call, setD, rd_t, rd_c, get_same, get_ne, getO_same, getO_ne, getO_nil, noEnt, resV, ansV_gen, froz_i, froz_agg, froz1_i, froz1_s, froz1_nilsl, froz1_sl, frOf, frFrom, fzV_froz, ups_nil, cells_agg, noTup_agg, part_t, Nat.reduceAdd, List.all_nil, decide_true, bin_neq, Option.bind_some, Option.map_some, List.map_cons, List.map_nil, List.all_cons, List.all_nil, List.length_cons, List.length_nil, List.drop_zero, List.take_succ_cons, List.take_zero, Bool.and_self, Bool.not_true, Bool.false_eq_true, if_true, if_false, reduceCtorEq, ne_eq, not_false_eq_true, Nat.zero_add, Nat.reduceAdd, Nat.reduceLT, Nat.reduceEqDiff, decide_true, Nat.le_refl, c70, h1, h2, h3, dc120, dc40, dc31, shT_f1, froz1_rules, froz1_costs, froz1_credit, hl.froz]
theorem busy_cons (z : Zn) (s : Sti) (ss : List Sti) (d : Int) : busyB z (s :: ss) d = (decide (z.day s.a ≤ d ∧ d ≤ z.day (s.b - 1)) || busyB z ss d) := rfl
/-- Is a day free? -/
theorem RF (z : Zn) (hz : z.ok) (l : T) (ss : List Sti) (hl : IsSl l ss.length (ss.flatMap stC)) (hn : ss.length ≤ 200) (hsp : ∀ s ∈ ss, 0 ≤ s.a ∧ s.a < s.b ∧ s.b ≤ 52596000) (d : Int) (lh : Tri Ent) (sh : List Ent) (hO : getO lh 3 = ⟨1, .cells [.s [108, 111, 99, 97, 108], .i .i64 z.off, shT z.sh] 0 true⟩) : ∀ (m k : Nat) (fr : Fr), ss.length - k = m → k ≤ ss.length →
    getF fr 1 = l → getF fr 2 = .i .i64 d → getF fr 3 = .ptr .L 3 1 0 → getF fr 7 = .i .i64 (k : Int) →
    ∃ fr', DC pE 36 (.loop c79_L1) ⟨fr, lh, sh⟩ = some (if busyB z (ss.drop k) d then .ret else .ext 0, ⟨fr', lh, sh⟩) ∧ (busyB z (ss.drop k) d = true → getF fr' 6 = .b false)
  | 0, k, fr, hm, hk, h1, h2, h3, h7 => by
    have : k = ss.length := by omega
    subst this
    rw [DC_loop]
    generalize hK : DC pE 36 (.loop c79_L1) = K
    simp only [DC_seq, DC_skip, DC_exit, DC_region, p_cond, isB_b, isT_b, andThen_nrm, andThen_ext, kv_some, e_nil, o_mv, p_bin, p_lenV, rd_t, get_same, get_ne, bin_lss, Option.map_some, Bool.false_eq_true, if_false, ne_eq, not_false_eq_true, Nat.reduceLT, Nat.reduceEqDiff, decide_false, c79_L1, h1, h7, hl.lenI, Int.lt_irrefl]
    simp [busyB]
  | m + 1, k, fr, hm, hk, h1, h2, h3, h7 => by
    have hlt : k < ss.length := by omega
    have hlt' : (k : Int) < ss.length := by omega
    have hdr : ss.drop k = ss[k] :: ss.drop (k + 1) := List.drop_eq_getElem_cons hlt
    have hia : ∀ kk, iaV l (.i kk (k : Int)) 3 = some (.vp (.i .i64 ss[k].a :: .i .i64 ss[k].b :: ss[k].v :: (ss.drop (k + 1)).flatMap stC)) := fun kk => by
      rw [hl.ia (sz := 3) (flat_len (f := stC) (fun _ => rfl) ss) hlt, flat_drop (f := stC) (fun _ => rfl) ss k hlt]; rfl
    have hw : wr .i64 ((k : Int) + 1) = ((k + 1 : Nat) : Int) := by rw [wr64 (by omega)]; omega
    obtain ⟨a1, a2, a3⟩ := hsp ss[k] (List.getElem_mem hlt)
    have hd := rdays_ev hz a1 a2 a3
    unfold Zn.t at hd
    rw [DC_loop, hdr]
    generalize hK : DC pE 36 (.loop c79_L1) = K
    by_cases c1 : z.day ss[k].a ≤ d
    · by_cases c2 : d ≤ z.day (ss[k].b - 1)
      · have hb : busyB z (ss[k] :: ss.drop (k + 1)) d = true := by rw [busy_cons, decide_eq_true ⟨c1, c2⟩]; rfl
        simp only [forall_const, DC_seq, DC_skip, DC_exit, DC_ret, DC_region, DC_block, p_cond, isB_b, isT_b, andThen_nrm, andThen_ret, outOf_ret, kv_some, kc_some, e_nil, o_mv, p_pick, pickV_b, p_bin, p_fa, faV_vp, p_ia, p_ext, extV_tup, p_lenV, p_ld, ldV_vp, ldV_L, ldE_cells, p_call, g_passT, setD, rd_t, rd_c, get_same, get_ne, froz_agg, froz1_i, froz1_s, part_t, Nat.reduceAdd, List.all_nil, decide_true, bin_lss, bin_leq, Option.bind_some, Option.map_some, List.map_cons, List.map_nil, List.all_cons, List.all_nil, List.length_cons, List.length_nil, List.drop_zero, List.nil_append, List.cons_append, List.getElem?_cons_zero, List.getElem?_cons_succ, List.take_succ_cons, List.take_zero, Bool.and_self, Bool.not_false, if_true, ne_eq, not_false_eq_true, Nat.zero_add, Nat.reduceAdd, Nat.reduceLT, Nat.reduceLeDiff, Nat.reduceEqDiff, decide_true, Nat.le_refl, Nat.zero_le, DC_drawsK, d_nil, d_pure, pure_mv, pure_fa, pure_ia, pure_ext, d_ld, ldLog_vp, ldLog_ptr, ke_some, meets_nil, meets_cons, apart_ff, apart1_nil, apart1_cons, has_nil, getL, c79_L1, h1, h2, h3, h7, hl.lenI, hO, hlt', hia, hd, dc129, dd129, shT_f1, c1, c2, hb]
        exact ⟨_, rfl, by simp only [get_same]⟩
      · have hb : busyB z (ss[k] :: ss.drop (k + 1)) d = busyB z (ss.drop (k + 1)) d := by rw [busy_cons, decide_eq_false (fun h => c2 h.2)]; rfl
        rw [hb]
        simp only [DC_seq, DC_skip, DC_exit, DC_ret, DC_region, DC_block, p_cond, isB_b, isT_b, andThen_nrm, outOf_nrm, kv_some, kc_some, e_nil, o_mv, p_pick, pickV_b, p_bin, p_fa, faV_vp, p_ia, p_ext, extV_tup, p_lenV, p_ld, ldV_vp, ldV_L, ldE_cells, p_call, g_passT, setD, rd_t, rd_c, get_same, get_ne, froz_agg, froz1_i, froz1_s, part_t, Nat.reduceAdd, List.all_nil, decide_true, bin_add, bin_lss, bin_leq, Option.bind_some, Option.map_some, List.map_cons, List.map_nil, List.all_cons, List.all_nil, List.length_cons, List.length_nil, List.drop_zero, List.nil_append, List.cons_append, List.getElem?_cons_zero, List.getElem?_cons_succ, List.take_succ_cons, List.take_zero, Bool.and_self, Bool.not_false, Bool.false_eq_true, if_true, if_false, ite_self, ne_eq, not_false_eq_true, Nat.zero_add, Nat.reduceAdd, Nat.reduceLT, Nat.reduceLeDiff, Nat.reduceEqDiff, decide_true, decide_false, Nat.le_refl, Nat.zero_le, DC_drawsK, d_nil, d_pure, pure_mv, pure_fa, pure_ia, pure_ext, d_ld, ldLog_vp, ldLog_ptr, ke_some, meets_nil, meets_cons, apart_ff, apart1_nil, apart1_cons, has_nil, getL, c79_L1, h1, h2, h3, h7, hl.lenI, hO, hlt', hia, hd, dc129, dd129, shT_f1, c1, c2, hw]
        rw [← hK]
        refine RF z hz l ss hl hn hsp d lh sh hO m (k + 1) _ (by omega) (by omega) ?_ ?_ ?_ ?_ <;> simp only [get_same, get_ne, ne_eq, not_false_eq_true, Nat.reduceEqDiff, h1, h2, h3]
    · have hb : busyB z (ss[k] :: ss.drop (k + 1)) d = busyB z (ss.drop (k + 1)) d := by rw [busy_cons, decide_eq_false (fun h => c1 h.1)]; rfl
      rw [hb]
      simp only [DC_seq, DC_skip, DC_exit, DC_ret, DC_region, DC_block, p_cond, isB_b, isT_b, andThen_nrm, outOf_nrm, kv_some, kc_some, e_nil, o_mv, p_pick, pickV_b, p_bin, p_fa, faV_vp, p_ia, p_ext, extV_tup, p_lenV, p_ld, ldV_vp, ldV_L, ldE_cells, p_call, g_skipT, setD, rd_t, rd_c, get_same, get_ne, froz_agg, froz1_i, froz1_s, part_t, Nat.reduceAdd, List.all_nil, decide_true, bin_add, bin_lss, bin_leq, Option.bind_some, Option.map_some, List.map_cons, List.map_nil, List.all_cons, List.all_nil, List.length_cons, List.length_nil, List.drop_zero, List.nil_append, List.cons_append, List.getElem?_cons_zero, List.getElem?_cons_succ, List.take_succ_cons, List.take_zero, Bool.and_self, Bool.not_false, Bool.false_eq_true, if_true, if_false, ne_eq, not_false_eq_true, Nat.zero_add, Nat.reduceAdd, Nat.reduceLT, Nat.reduceLeDiff, Nat.reduceEqDiff, decide_true, decide_false, Nat.le_refl, Nat.zero_le, DC_drawsK, d_nil, d_pure, pure_mv, pure_fa, pure_ia, pure_ext, d_ld, ldLog_vp, ldLog_ptr, ke_some, meets_nil, meets_cons, apart_ff, apart1_nil, apart1_cons, has_nil, getL, c79_L1, h1, h2, h3, h7, hl.lenI, hO, hlt', hia, hd, dc129, dd129, shT_f1, c1, hw]
      rw [← hK]
      refine RF z hz l ss hl hn hsp d lh sh hO m (k + 1) _ (by omega) (by omega) ?_ ?_ ?_ ?_ <;> simp only [get_same, get_ne, ne_eq, not_false_eq_true, Nat.reduceEqDiff, h1, h2, h3]
theorem free_ev (z : Zn) (hz : z.ok) (l : T) (ss : List Sti) (hl : IsSl l ss.length (ss.flatMap stC)) (hn : ss.length ≤ 200) (hsp : ∀ s ∈ ss, 0 ≤ s.a ∧ s.a < s.b ∧ s.b ≤ 52596000) (d : Int) :
    DCall pE 79 [z.t, l, .i .i64 d] [] = some (.b (!busyB z ss d), []) := by
  rw [p_fun fn79 (by simp [c79])]
  have hR := fun fr lh sh hO h1 h2 h3 (h7 : getF fr 7 = .i .i64 0) => loop_fix (RF z hz l ss hl hn hsp d lh sh hO ss.length 0 fr (by omega) (by omega) h1 h2 h3 h7)
  simp only [List.drop_zero] at hR
  unfold Zn.t
  cases hb : busyB z ss d with
  | true =>
    rw [hb] at hR
    simp (maxDischargeDepth := 6) only [DC_seq, DC_region, DC_block, andThen_nrm, andThen_ret, outOf_ret, endR_ret, e_nil, o_mv, o_box, rd_t, rd_c, get_same, get_ne, getO_same, getO_nil, noEnt, resV, ansV_gen, froz_b, frOf, frFrom, fzV_froz, ups_nil, cells_agg, noTup_agg, Nat.reduceAdd, Option.bind_some, Option.map_some, Bool.not_true, if_true, reduceCtorEq, ne_eq, not_false_eq_true, Nat.zero_add, Nat.reduceAdd, Nat.reduceLT, Nat.reduceEqDiff, c79, (hR _ _ _ _ _ _ _ _).1, (hR _ _ _ _ _ _ _ _).2, Bool.not_true]
  | false =>
    rw [hb] at hR
    simp (maxDischargeDepth := 6) only [DC_seq, DC_ret, DC_region, DC_block, andThen_nrm, outOf_ext, endR_ret, e_nil, o_mv, o_box, rd_t, rd_c, get_same, get_ne, getO_same, getO_nil, noEnt, resV, ansV_gen, froz_b, frOf, frFrom, fzV_froz, ups_nil, cells_agg, noTup_agg, Nat.reduceAdd, Option.bind_some, Option.map_some, Bool.not_false, Bool.false_eq_true, if_true, if_false, reduceCtorEq, ne_eq, not_false_eq_true, Nat.zero_add, Nat.reduceAdd, Nat.reduceLT, Nat.reduceEqDiff, c79, (hR _ _ _ _ _ _ _ _).1, Bool.not_false]
theorem hor_ev (a b : Int) (ha : -100000 ≤ a ∧ a ≤ 100000) : DCall pE 78 [.i .i64 a, .i .i64 b] [] = some (.b (decide (-1 ≤ a ∧ a ≤ 36525 ∧ a ≤ b ∧ b ≤ a + 366)), []) := by
  rw [p_fun fn78 (by simp [c78])]
  have w : wr .i64 (a + 366) = a + 366 := wr64 (by omega)
  by_cases h1 : -1 ≤ a
  · by_cases h2 : a ≤ 36525
    · by_cases h3 : a ≤ b
      · simp only [Int.reduceNeg, DC_seq, DC_ret, DC_region, andThen_nrm, endR_ret, kv_some, e_nil, o_mv, p_pick, pickV_b, p_bin, g_passT, rd_t, rd_c, get_same, get_ne, resV, ansV_gen, froz_b, frOf, frFrom, fzV_froz, ups_nil, decide_true, bin_add, bin_leq, bin_geq, Option.bind_some, Option.map_some, if_true, reduceCtorEq, ne_eq, not_false_eq_true, true_and, Nat.zero_add, Nat.reduceLT, Nat.reduceEqDiff, decide_true, c78, h1, h2, h3, w]
      · simp only [Int.reduceNeg, DC_seq, DC_ret, DC_region, andThen_nrm, endR_ret, kv_some, e_nil, o_mv, p_pick, pickV_b, p_bin, g_passT, g_skipT, rd_t, rd_c, get_same, get_ne, resV, ansV_gen, froz_b, frOf, frFrom, fzV_froz, ups_nil, decide_true, bin_leq, bin_geq, Option.bind_some, Option.map_some, Bool.false_eq_true, if_true, if_false, ite_self, reduceCtorEq, ne_eq, not_false_eq_true, and_false, false_and, Nat.zero_add, Nat.reduceLT, Nat.reduceEqDiff, decide_true, decide_false, c78, h1, h2, h3]
    · simp only [Int.reduceNeg, DC_seq, DC_ret, DC_region, andThen_nrm, endR_ret, kv_some, e_nil, o_mv, p_pick, pickV_b, p_bin, g_passT, g_skipT, rd_t, rd_c, get_same, get_ne, resV, ansV_gen, froz_b, frOf, frFrom, fzV_froz, ups_nil, decide_true, bin_leq, bin_geq, Option.bind_some, Option.map_some, Bool.false_eq_true, if_false, ite_self, reduceCtorEq, ne_eq, not_false_eq_true, and_false, false_and, Nat.zero_add, Nat.reduceLT, Nat.reduceEqDiff, decide_true, decide_false, c78, h1, h2]
  · simp only [Int.reduceNeg, DC_seq, DC_ret, DC_region, andThen_nrm, endR_ret, kv_some, e_nil, o_mv, p_pick, pickV_b, p_bin, g_skipT, rd_t, rd_c, get_same, get_ne, resV, ansV_gen, froz_b, frOf, frFrom, fzV_froz, ups_nil, bin_geq, Option.bind_some, Option.map_some, Bool.false_eq_true, if_false, reduceCtorEq, ne_eq, not_false_eq_true, false_and, Nat.zero_add, Nat.reduceLT, Nat.reduceEqDiff, decide_false, c78, h1]
end Go.Proofs.YtfenhjpkomldcaaGreat
