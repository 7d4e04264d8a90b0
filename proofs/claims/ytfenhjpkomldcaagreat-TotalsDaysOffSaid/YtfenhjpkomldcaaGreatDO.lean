/- DaysOff of the program and of the reference at any stints and days: the same breaches and error. Conditions: the theorems' own. -/
import Derived.Test.YtfenhjpkomldcaaGreatOP
import Derived.Test.YtfenhjpkomldcaaGreatSB
set_option maxRecDepth 100000
set_option maxHeartbeats 4000000
set_option linter.unusedSimpArgs false
set_option linter.unusedVariables false
namespace Go.Proofs.YtfenhjpkomldcaaGreat
open Go Go.Ev
section
variable (z : Zn) (hz : z.ok) (m0 d0 m1 d1 cnt : Int) (D : Nat) (hc : conOk m0 d0 m1 d1 cnt (D : Int)) (l : T) (ss : List Sti) (hl : IsSl l ss.length (ss.flatMap stC)) (hs : ∀ s ∈ ss, s.ok)
include hz hc hl hs
theorem check_gen : DCall pE 68 [z.t, .agg (conC m0 d0 m1 d1 cnt (D : Int)), l] [] = some (.i .i64 (valSpec 2 ss), []) := by
  rw [p_fun fn68 (by simp [c68])]
  have h1 := zval_ev hz
  have h2 := tval_ev m0 d0 m1 d1 cnt (D : Int) 0 (Or.inl rfl) (windows_ev m0 d0 m1 d1 cnt (D : Int) hc)
  have h3 := val_ev l (.sl (limC m0 d0 m1 d1) 2 false) (conC m0 d0 m1 d1 cnt (D : Int)) ss 2 hl hs rfl rfl
  unfold Zn.t at h1 ⊢
  unfold conC at h2 h3 ⊢
  simp only [DC_seq, DC_skip, DC_ret, DC_region, p_cond, isB_b, isT_b, andThen_nrm, endR_ret, kv_some, kc_some, e_nil, o_mv, o_box, p_bin, p_ld, ldV_L, ldE_cells, p_call, setD, rd_t, rd_c, get_same, get_ne, getO_same, getO_ne, getO_nil, noEnt, resV, ansV_gen, froz_i, froz_agg, froz1_i, froz1_s, froz1_nilsl, froz1_sl, frOf, frFrom, fzV_froz, ups_nil, cells_agg, noTup_agg, part_t, Nat.reduceAdd, List.all_nil, decide_true, bin_neq, Option.bind_some, Option.map_some, List.map_cons, List.map_nil, List.all_cons, List.all_nil, List.length_cons, List.length_nil, List.drop_zero, List.take_succ_cons, List.take_zero, Bool.and_self, Bool.not_true, Bool.false_eq_true, if_true, if_false, reduceCtorEq, ne_eq, not_false_eq_true, Nat.zero_add, Nat.reduceAdd, Nat.reduceLT, Nat.reduceEqDiff, decide_true, Nat.le_refl, c68, h1, h2, h3, dc116, dc62, dc30, shT_f1, froz1_rules, froz1_costs, froz1_credit, hl.froz]
theorem toff_err (hv : valSpec 2 ss ≠ 0) (a b : Int) : DCall pE 41 [z.t, .agg (conC m0 d0 m1 d1 cnt (D : Int)), l, .i .i64 a, .i .i64 b] [] = some (.tup [.nilsl, .i .i64 (valSpec 2 ss)], []) := by
  rw [p_funO fn41 (by simp [c41])]
  have hk := check_gen z hz m0 d0 m1 d1 cnt D hc l ss hl hs
  unfold Zn.t at hk ⊢
  unfold conC at hk ⊢
  simp only [DC_seq, DC_skip, DC_ret, DC_region, p_cond, isB_b, isT_b, andThen_nrm, andThen_ret, endO_ret, kv_some, kc_some, e_nil, o_mv, o_box, p_bin, p_ld, ldV_L, ldE_cells, p_call, setD, rd_t, rd_c, get_same, get_ne, getO_same, getO_ne, getO_nil, noEnt, resV, froz_agg, froz1_i, froz1_s, froz1_nilsl, froz1_sl, frOf, frFrom, cells_agg, noTup_agg, part_t, Nat.reduceAdd, List.all_nil, bin_neq, Option.bind_some, Option.map_some, List.map_cons, List.map_nil, List.all_cons, List.all_nil, List.length_cons, List.length_nil, List.drop_zero, List.take_succ_cons, List.take_zero, Bool.and_self, Bool.not_false, if_true, reduceCtorEq, ne_eq, not_false_eq_true, Nat.zero_add, Nat.reduceAdd, Nat.reduceLT, Nat.reduceEqDiff, decide_false, Nat.le_refl, c41, hk, hv, dc68, shT_f1, froz1_rules, froz1_costs, froz1_credit, hl.froz, ansO_nil2]
theorem roff_err (hv : valSpec 2 ss ≠ 0) (a b : Int) : DCall pE 42 [z.t, .agg (conC m0 d0 m1 d1 cnt (D : Int)), l, .i .i64 a, .i .i64 b] [] = some (.tup [.nilsl, .i .i64 (valSpec 2 ss)], []) := by
  rw [p_fun fn42 (by simp [c42])]
  have hk := rready_ev z hz m0 d0 m1 d1 cnt (D : Int) hc l ss hl hs
  unfold Zn.t at hk ⊢
  unfold conC at hk ⊢
  simp only [DC_seq, DC_skip, DC_ret, DC_region, p_cond, isB_b, isT_b, andThen_nrm, andThen_ret, endR_ret, kv_some, kc_some, e_nil, o_mv, o_box, p_bin, p_ld, ldV_L, ldE_cells, p_call, setD, rd_t, rd_c, get_same, get_ne, getO_same, getO_ne, getO_nil, noEnt, resV, ansV_gen2, froz_agg, froz_tup, froz1_i, froz1_s, froz1_nilsl, froz1_sl, frOf, frFrom, fzV_froz, ups_nil, cells_agg, noTup_agg, part_t, Nat.reduceAdd, List.all_nil, bin_neq, Option.bind_some, Option.map_some, List.map_cons, List.map_nil, List.all_cons, List.all_nil, List.length_cons, List.length_nil, List.drop_zero, List.take_succ_cons, List.take_zero, Bool.and_self, Bool.not_false, if_true, reduceCtorEq, ne_eq, not_false_eq_true, Nat.zero_add, Nat.reduceAdd, Nat.reduceLT, Nat.reduceEqDiff, decide_false, Nat.le_refl, c42, hk, hv, dc70, shT_f1, froz1_rules, froz1_costs, froz1_credit, hl.froz]
theorem vdays_gen (a b : Int) (ha : -100000 ≤ a ∧ a ≤ 100000) : DCall pE 76 [.i .i64 a, .i .i64 b] [] = some (.b (decide (-1 ≤ a ∧ a ≤ 36525 ∧ a ≤ b ∧ b ≤ a + 366)), []) := by
  have _ := hz
  have _ := hc
  have _ := hl
  have _ := hs
  rw [p_fun fn76 (by simp [c76])]
  have w : wr .i64 (a + 366) = a + 366 := wr64 (by omega)
  by_cases h1 : -1 ≤ a
  · by_cases h2 : a ≤ 36525
    · by_cases h3 : a ≤ b
      · simp only [Int.reduceNeg, DC_seq, DC_ret, DC_region, andThen_nrm, endR_ret, kv_some, e_nil, o_mv, p_pick, pickV_b, p_bin, g_passT, rd_t, rd_c, get_same, get_ne, resV, ansV_gen, froz_b, frOf, frFrom, fzV_froz, ups_nil, decide_true, bin_add, bin_leq, bin_geq, Option.bind_some, Option.map_some, if_true, reduceCtorEq, ne_eq, not_false_eq_true, true_and, Nat.zero_add, Nat.reduceLT, Nat.reduceEqDiff, decide_true, c76, h1, h2, h3, w]
      · simp only [Int.reduceNeg, DC_seq, DC_ret, DC_region, andThen_nrm, endR_ret, kv_some, e_nil, o_mv, p_pick, pickV_b, p_bin, g_passT, g_skipT, rd_t, rd_c, get_same, get_ne, resV, ansV_gen, froz_b, frOf, frFrom, fzV_froz, ups_nil, decide_true, bin_leq, bin_geq, Option.bind_some, Option.map_some, Bool.false_eq_true, if_true, if_false, ite_self, reduceCtorEq, ne_eq, not_false_eq_true, and_false, false_and, Nat.zero_add, Nat.reduceLT, Nat.reduceEqDiff, decide_true, decide_false, c76, h1, h2, h3]
    · simp only [Int.reduceNeg, DC_seq, DC_ret, DC_region, andThen_nrm, endR_ret, kv_some, e_nil, o_mv, p_pick, pickV_b, p_bin, g_passT, g_skipT, rd_t, rd_c, get_same, get_ne, resV, ansV_gen, froz_b, frOf, frFrom, fzV_froz, ups_nil, decide_true, bin_leq, bin_geq, Option.bind_some, Option.map_some, Bool.false_eq_true, if_false, ite_self, reduceCtorEq, ne_eq, not_false_eq_true, and_false, false_and, Nat.zero_add, Nat.reduceLT, Nat.reduceEqDiff, decide_true, decide_false, c76, h1, h2]
  · simp only [Int.reduceNeg, DC_seq, DC_ret, DC_region, andThen_nrm, endR_ret, kv_some, e_nil, o_mv, p_pick, pickV_b, p_bin, g_skipT, rd_t, rd_c, get_same, get_ne, resV, ansV_gen, froz_b, frOf, frFrom, fzV_froz, ups_nil, bin_geq, Option.bind_some, Option.map_some, Bool.false_eq_true, if_false, reduceCtorEq, ne_eq, not_false_eq_true, false_and, Nat.zero_add, Nat.reduceLT, Nat.reduceEqDiff, decide_false, c76, h1]
theorem toff_bad (hv : valSpec 2 ss = 0) (a b : Int) (ha : -100000 ≤ a ∧ a ≤ 100000) (hb : ¬ (-1 ≤ a ∧ a ≤ 36525 ∧ a ≤ b ∧ b ≤ a + 366)) : DCall pE 41 [z.t, .agg (conC m0 d0 m1 d1 cnt (D : Int)), l, .i .i64 a, .i .i64 b] [] = some (.tup [.nilsl, .i .i64 5], []) := by
  rw [p_funO fn41 (by simp [c41])]
  have hk := check_gen z hz m0 d0 m1 d1 cnt D hc l ss hl hs
  rw [hv] at hk
  have hd := vdays_gen z hz m0 d0 m1 d1 cnt D hc l ss hl hs a b ha
  rw [decide_eq_false hb] at hd
  unfold Zn.t at hk ⊢
  unfold conC at hk ⊢
  simp only [DC_seq, DC_skip, DC_ret, DC_region, p_cond, isB_b, isT_b, andThen_nrm, andThen_ret, endO_ret, kv_some, kc_some, e_nil, o_mv, o_box, p_bin, p_un, p_ld, ldV_L, ldE_cells, p_call, setD, rd_t, rd_c, get_same, get_ne, getO_same, getO_ne, getO_nil, noEnt, resV, froz_i, froz_agg, froz1_i, froz1_s, froz1_nilsl, froz1_sl, frOf, frFrom, cells_agg, noTup_agg, part_t, Nat.reduceAdd, List.all_nil, decide_true, bin_neq, un_not, Option.bind_some, Option.map_some, List.map_cons, List.map_nil, List.all_cons, List.all_nil, List.length_cons, List.length_nil, List.drop_zero, List.take_succ_cons, List.take_zero, Bool.and_self, Bool.not_true, Bool.not_false, Bool.false_eq_true, if_true, if_false, reduceCtorEq, ne_eq, not_false_eq_true, Nat.zero_add, Nat.reduceAdd, Nat.reduceLT, Nat.reduceEqDiff, decide_true, Nat.le_refl, c41, hk, hd, dc68, dc76, shT_f1, froz1_rules, froz1_costs, froz1_credit, hl.froz, ansO_nil2]
theorem roff_bad (hv : valSpec 2 ss = 0) (a b : Int) (ha : -100000 ≤ a ∧ a ≤ 100000) (hb : ¬ (-1 ≤ a ∧ a ≤ 36525 ∧ a ≤ b ∧ b ≤ a + 366)) : DCall pE 42 [z.t, .agg (conC m0 d0 m1 d1 cnt (D : Int)), l, .i .i64 a, .i .i64 b] [] = some (.tup [.nilsl, .i .i64 5], []) := by
  rw [p_fun fn42 (by simp [c42])]
  have hk := rready_ev z hz m0 d0 m1 d1 cnt (D : Int) hc l ss hl hs
  rw [hv] at hk
  have hd := hor_ev a b ha
  rw [decide_eq_false hb] at hd
  unfold Zn.t at hk ⊢
  unfold conC at hk ⊢
  simp only [DC_seq, DC_skip, DC_ret, DC_region, p_cond, isB_b, isT_b, andThen_nrm, andThen_ret, endR_ret, kv_some, kc_some, e_nil, o_mv, o_box, p_bin, p_un, p_ld, ldV_L, ldE_cells, p_call, setD, rd_t, rd_c, get_same, get_ne, getO_same, getO_ne, getO_nil, noEnt, resV, ansV_gen2, froz_i, froz_agg, froz_tup, froz1_i, froz1_s, froz1_nilsl, froz1_sl, frOf, frFrom, fzV_froz, ups_nil, cells_agg, noTup_agg, part_t, Nat.reduceAdd, List.all_nil, decide_true, bin_neq, un_not, Option.bind_some, Option.map_some, List.map_cons, List.map_nil, List.all_cons, List.all_nil, List.length_cons, List.length_nil, List.drop_zero, List.take_succ_cons, List.take_zero, Bool.and_self, Bool.not_true, Bool.not_false, Bool.false_eq_true, if_true, if_false, reduceCtorEq, ne_eq, not_false_eq_true, Nat.zero_add, Nat.reduceAdd, Nat.reduceLT, Nat.reduceEqDiff, decide_true, Nat.le_refl, c42, hk, hd, dc70, dc78, shT_f1, froz1_rules, froz1_costs, froz1_credit, hl.froz]
theorem both_off (a b : Int) (ha : -100000 ≤ a ∧ a ≤ 100000) : ∃ (bs : List Br) (e : Int), bs.length < 1000000 ∧
    DCall pE 41 [z.t, .agg (conC m0 d0 m1 d1 cnt (D : Int)), l, .i .i64 a, .i .i64 b] [] = some (.tup [outT bs.length (bs.flatMap bC), .i .i64 e], []) ∧
    DCall pE 42 [z.t, .agg (conC m0 d0 m1 d1 cnt (D : Int)), l, .i .i64 a, .i .i64 b] [] = some (.tup [outT bs.length (bs.flatMap bC), .i .i64 e], []) := by
  by_cases hv : valSpec 2 ss = 0
  · by_cases hb : -1 ≤ a ∧ a ≤ 36525 ∧ a ≤ b ∧ b ≤ a + 366
    · obtain ⟨b1, b2, b3, b4⟩ := hb
      obtain ⟨n, hn⟩ : ∃ n : Nat, b - a = n := ⟨(b - a).toNat, by omega⟩
      have hD : 1 ≤ D ∧ D ≤ 31 := by obtain ⟨_, _, _, _, a, _⟩ := hc; omega
      have hf := val_fit hv hs
      have h1 := toff_ev z hz m0 d0 m1 d1 cnt D hc l ss hl hf hv a b n hn b1 b2 (by omega)
      have h2 := roff_ev z hz l ss hl hf.len hf.span m0 d0 m1 d1 cnt D hD hc hs hv a b (n + 1 - D) b1 b2 b3 b4 (by omega) (by omega)
      rw [off_ref z ss a cnt n D hD.1] at h1
      have hle : (refL z ss D cnt (n + 1 - D) a).length ≤ n := by
        rw [← off_ref z ss a cnt n D hD.1]
        have : ∀ (bs : List Bool) (D : Nat) (cnt from_ : Int) (m k : Nat), (offL bs D cnt from_ k m).length ≤ m := by
          intro bs D cnt from_ m
          induction m with
          | zero => intro k; simp [offL]
          | succ m ih =>
            intro k
            unfold offL
            rw [List.length_append]
            have := ih (k + 1)
            split <;> simp <;> omega
        exact this _ _ _ _ _ _
      refine ⟨(refL z ss D cnt (n + 1 - D) a).map toO, 0, by rw [List.length_map]; omega, ?_, ?_⟩
      · rw [h1, toO_cells, List.length_map]
      · rw [h2, toO_cells, List.length_map]
    · exact ⟨[], 5, by simp, toff_bad z hz m0 d0 m1 d1 cnt D hc l ss hl hs hv a b ha hb, roff_bad z hz m0 d0 m1 d1 cnt D hc l ss hl hs hv a b ha hb⟩
  · exact ⟨[], valSpec 2 ss, by simp, toff_err z hz m0 d0 m1 d1 cnt D hc l ss hl hs hv a b, roff_err z hz m0 d0 m1 d1 cnt D hc l ss hl hs hv a b⟩
end
end Go.Proofs.YtfenhjpkomldcaaGreat
