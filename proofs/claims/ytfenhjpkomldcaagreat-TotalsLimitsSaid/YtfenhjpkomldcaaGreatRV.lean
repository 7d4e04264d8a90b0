/- The reference's ValidateStints. Conditions: none beyond the theorems' own. -/
import Derived.Test.YtfenhjpkomldcaaGreatTV
set_option maxRecDepth 100000
set_option linter.unusedSimpArgs false
set_option linter.unusedVariables false
namespace Go.Proofs.YtfenhjpkomldcaaGreat
open Go Go.Ev
theorem W1 (l : T) (ss : List Sti) (hl : IsSl l ss.length (ss.flatMap stC)) (j : Nat) (hj : j < ss.length) (hv : IsSl ss[j].v ss[j].xs.length (ints ss[j].xs)) (hb : ss[j].xs.length < 4611686018427387904) (lh : Tri Ent) (sh : List Ent) : ∀ (m k : Nat) (fr : Fr), ss[j].xs.length - k = m → k ≤ ss[j].xs.length →
    getF fr 1 = l → getF fr 5 = .i .i64 (j : Int) → getF fr 6 = .i .i64 (k : Int) →
    ∃ fr', DC pE 81 (.loop c31_L1) ⟨fr, lh, sh⟩ = some (if (ss[j].xs.drop k).all okN then .ext 2 else .ret, ⟨fr', lh, sh⟩) ∧ ((ss[j].xs.drop k).all okN = false → getF fr' 4 = .i .i64 5)
  | 0, k, fr, hm, hk, h1, h5, h6 => by
    have : k = ss[j].xs.length := by omega
    subst this
    have hia : ∀ kk, iaV l (.i kk (j : Int)) 3 = some (.vp (.i .i64 ss[j].a :: .i .i64 ss[j].b :: ss[j].v :: (ss.drop (j + 1)).flatMap stC)) := fun kk => by
      rw [hl.ia (sz := 3) (flat_len (f := stC) (fun _ => rfl) ss) hj, flat_drop (f := stC) (fun _ => rfl) ss j hj]; rfl
    rw [DC_loop]
    generalize hK : DC pE 81 (.loop c31_L1) = K
    simp only [Int.reduceNeg, DC_seq, DC_skip, DC_exit, DC_region, p_cond, isB_b, isT_b, andThen_nrm, andThen_ext, kv_some, e_nil, o_mv, p_bin, p_fa, faV_vp, p_ia, p_lenV, p_ld, ldV_vp, rd_t, get_same, get_ne, part_f, bin_lss, Option.map_some, List.length_cons, List.drop_zero, List.getElem?_cons_zero, List.drop_succ_cons, Bool.false_eq_true, if_true, if_false, ne_eq, not_false_eq_true, Nat.reduceLT, Nat.reduceLeDiff, Nat.reduceEqDiff, decide_false, c31_L1, h1, h5, h6, hia, hv.lenI, Int.lt_irrefl]
    simp
  | m + 1, k, fr, hm, hk, h1, h5, h6 => by
    have hlt : k < ss[j].xs.length := by omega
    have hlt' : (k : Int) < ss[j].xs.length := by omega
    have hia : ∀ kk, iaV l (.i kk (j : Int)) 3 = some (.vp (.i .i64 ss[j].a :: .i .i64 ss[j].b :: ss[j].v :: (ss.drop (j + 1)).flatMap stC)) := fun kk => by
      rw [hl.ia (sz := 3) (flat_len (f := stC) (fun _ => rfl) ss) hj, flat_drop (f := stC) (fun _ => rfl) ss j hj]; rfl
    have hiv : ∀ kk, iaV ss[j].v (.i kk (k : Int)) 1 = some (.vp (T.i .i64 ss[j].xs[k] :: (ints ss[j].xs).drop (k + 1))) := fun kk => by rw [hv.ia (sz := 1) (by rw [ints_len]; omega) hlt, Nat.mul_one, ints_drop ss[j].xs k hlt]
    have hw : wr .i64 ((k : Int) + 1) = ((k + 1 : Nat) : Int) := by rw [wr64 (by omega)]; omega
    have hdr : ss[j].xs.drop k = ss[j].xs[k] :: ss[j].xs.drop (k + 1) := List.drop_eq_getElem_cons hlt
    rw [DC_loop]
    generalize hK : DC pE 81 (.loop c31_L1) = K
    by_cases c1 : ss[j].xs[k] < -1099511627776
    · have hno : okN ss[j].xs[k] = false := by simp [okN]; omega
      simp only [Int.reduceNeg, forall_const, DC_seq, DC_skip, DC_exit, DC_ret, DC_region, DC_block, p_cond, isB_b, isT_b, andThen_nrm, andThen_ret, outOf_ret, kv_some, e_nil, o_mv, p_pick, pickV_b, p_bin, p_fa, faV_vp, p_ia, p_lenV, p_ld, ldV_vp, g_skipF, rd_t, rd_c, get_same, get_ne, part_f, decide_true, bin_lss, Option.map_some, List.all_cons, List.length_cons, List.drop_zero, List.getElem?_cons_zero, List.drop_succ_cons, Bool.false_and, Bool.false_eq_true, if_true, if_false, ne_eq, not_false_eq_true, Nat.reduceLT, Nat.reduceLeDiff, Nat.reduceEqDiff, decide_true, c31_L1, h1, h5, h6, hv.lenI, hlt', hia, hiv, c1, hdr, hno]
      exact ⟨_, rfl, by simp only [get_same]⟩
    · by_cases c2 : 1099511627776 < ss[j].xs[k]
      · have hno : okN ss[j].xs[k] = false := by simp [okN]; omega
        simp only [Int.reduceNeg, forall_const, DC_seq, DC_skip, DC_exit, DC_ret, DC_region, DC_block, p_cond, isB_b, isT_b, andThen_nrm, andThen_ret, outOf_ret, kv_some, e_nil, o_mv, p_pick, pickV_b, p_bin, p_fa, faV_vp, p_ia, p_lenV, p_ld, ldV_vp, g_passF, rd_t, rd_c, get_same, get_ne, part_f, decide_true, bin_lss, bin_gtr, Option.map_some, List.all_cons, List.length_cons, List.drop_zero, List.getElem?_cons_zero, List.drop_succ_cons, Bool.false_and, Bool.false_eq_true, if_true, if_false, ite_self, ne_eq, not_false_eq_true, Nat.reduceLT, Nat.reduceLeDiff, Nat.reduceEqDiff, decide_true, decide_false, c31_L1, h1, h5, h6, hv.lenI, hlt', hia, hiv, c1, c2, hdr, hno]
        exact ⟨_, rfl, by simp only [get_same]⟩
      · have hno : okN ss[j].xs[k] = true := by simp [okN]; omega
        simp only [Int.reduceNeg, DC_seq, DC_skip, DC_exit, DC_ret, DC_region, DC_block, p_cond, isB_b, isT_b, andThen_nrm, outOf_nrm, kv_some, e_nil, o_mv, p_pick, pickV_b, p_bin, p_fa, faV_vp, p_ia, p_lenV, p_ld, ldV_vp, g_passF, rd_t, rd_c, get_same, get_ne, part_f, decide_true, bin_add, bin_lss, bin_gtr, Option.map_some, List.all_cons, List.length_cons, List.drop_zero, List.getElem?_cons_zero, List.drop_succ_cons, Bool.true_and, Bool.false_eq_true, if_true, if_false, ne_eq, not_false_eq_true, Nat.reduceLT, Nat.reduceLeDiff, Nat.reduceEqDiff, decide_true, decide_false, c31_L1, h1, h5, h6, hv.lenI, hlt', hia, hiv, c1, c2, hdr, hno, hw]
        rw [← hK]
        refine W1 l ss hl j hj hv hb lh sh m (k + 1) _ (by omega) (by omega) ?_ ?_ ?_ <;> simp only [get_same, get_ne, ne_eq, not_false_eq_true, Nat.reduceEqDiff, h1, h5]
theorem W1' (l : T) (ss : List Sti) (hl : IsSl l ss.length (ss.flatMap stC)) (j : Nat) (hj : j < ss.length) (hv : IsSl ss[j].v ss[j].xs.length (ints ss[j].xs)) (hb : ss[j].xs.length < 4611686018427387904) (fr : Fr) (lh : Tri Ent) (sh : List Ent)
    (h1 : getF fr 1 = l) (h5 : getF fr 5 = .i .i64 (j : Int)) (h6 : getF fr 6 = .i .i64 0) :
    DC pE 81 (.loop c31_L1) ⟨fr, lh, sh⟩ = some (if ss[j].xs.all okN then .ext 2 else .ret, ⟨frL pE 81 c31_L1 fr lh sh, lh, sh⟩) ∧ (ss[j].xs.all okN = false → getF (frL pE 81 c31_L1 fr lh sh) 4 = .i .i64 5) := by
  have := loop_fix (W1 l ss hl j hj hv hb lh sh ss[j].xs.length 0 fr (by omega) (by omega) h1 h5 h6)
  simpa using this
theorem W2 (l lim : T) (cc : List T) (ss : List Sti) (nl : Nat) (hl : IsSl l ss.length (ss.flatMap stC)) (hs : ∀ s ∈ ss, s.ok) (hn : ss.length ≤ 200) (hcc : cc[11]? = some lim) (hlim : lenT lim = some nl) (lh : Tri Ent) (sh : List Ent) : ∀ (m k : Nat) (fr : Fr), ss.length - k = m → k ≤ ss.length →
    getF fr 1 = l → getF fr 2 = .ptr .L 2 1 0 → getF fr 5 = .i .i64 k → getO lh 2 = ⟨1, .cells cc 0 true⟩ →
    ∃ fr', DC pE 81 (.loop c31_L2) ⟨fr, lh, sh⟩ = some (if valFrom nl (prevB ss k) (ss.drop k) = 0 then .ext 0 else .ret, ⟨fr', lh, sh⟩) ∧ (valFrom nl (prevB ss k) (ss.drop k) ≠ 0 → getF fr' 4 = .i .i64 (valFrom nl (prevB ss k) (ss.drop k)))
  | 0, k, fr, hm, hk, h1, h2, h5, hO => by
    have : k = ss.length := by omega
    subst this
    rw [DC_loop]
    generalize hK : DC pE 81 (.loop c31_L2) = K
    simp only [DC_seq, DC_skip, DC_exit, DC_region, p_cond, isB_b, isT_b, andThen_nrm, andThen_ext, kv_some, e_nil, o_mv, p_bin, p_lenV, rd_t, get_same, get_ne, bin_lss, Option.map_some, Bool.false_eq_true, if_false, ne_eq, not_false_eq_true, Nat.reduceLT, Nat.reduceEqDiff, decide_false, c31_L2, h1, h5, hl.lenI, Int.lt_irrefl]
    simp [valFrom]
  | m + 1, k, fr, hm, hk, h1, h2, h5, hO => by
    have hlt : k < ss.length := by omega
    have hlt' : (k : Int) < ss.length := by omega
    have hdr : ss.drop k = ss[k] :: ss.drop (k + 1) := List.drop_eq_getElem_cons hlt
    obtain ⟨hv, hxb0⟩ := hs ss[k] (List.getElem_mem hlt)
    have hxb : ss[k].xs.length < 4611686018427387904 := by omega
    have hia : ∀ kk, iaV l (.i kk (k : Int)) 3 = some (.vp (.i .i64 ss[k].a :: .i .i64 ss[k].b :: ss[k].v :: (ss.drop (k + 1)).flatMap stC)) := fun kk => by
      rw [hl.ia (sz := 3) (flat_len (f := stC) (fun _ => rfl) ss) hlt, flat_drop (f := stC) (fun _ => rfl) ss k hlt]; rfl
    have hw : wr .i64 ((k : Int) + 1) = ((k + 1 : Nat) : Int) := by rw [wr64 (by omega)]; omega
    have hsp := span_ev ss[k].a ss[k].b
    rw [DC_loop, hdr]
    generalize hK : DC pE 81 (.loop c31_L2) = K
    by_cases c1 : 0 ≤ ss[k].a ∧ ss[k].a < ss[k].b ∧ ss[k].b ≤ 52596000
    case neg =>
      have c1' : ss[k].a < 0 ∨ ss[k].b ≤ ss[k].a ∨ 52596000 < ss[k].b := by omega
      have hval : valFrom nl (prevB ss k) (ss[k] :: ss.drop (k + 1)) = 5 := by simp [valFrom, valStep, c1']
      rw [decide_eq_false c1] at hsp
      simp only [forall_const, DC_seq, DC_skip, DC_exit, DC_ret, DC_region, DC_block, p_cond, isB_b, isT_b, andThen_nrm, andThen_ret, outOf_ret, kv_some, kc_some, e_nil, o_mv, p_bin, p_un, p_fa, faV_vp, p_ia, p_lenV, p_ld, ldV_vp, p_call, setD, rd_t, rd_c, get_same, get_ne, froz_agg, froz1_i, part_t, List.all_nil, decide_true, bin_lss, un_not, Option.bind_some, Option.map_some, List.map_cons, List.map_nil, List.all_cons, List.all_nil, List.length_cons, List.drop_zero, List.take_succ_cons, List.take_zero, Bool.and_self, Bool.not_false, if_true, if_false, ne_eq, not_false_eq_true, Nat.zero_add, Nat.reduceLT, Nat.reduceLeDiff, Nat.reduceEqDiff, decide_true, Nat.zero_le, Int.reduceEq, c31_L2, h1, h5, hl.lenI, hlt', hia, hsp, dc67, hval]
      exact ⟨_, rfl, by simp only [get_same]⟩
    have c1' : ¬ (ss[k].a < 0 ∨ ss[k].b ≤ ss[k].a ∨ 52596000 < ss[k].b) := by omega
    rw [decide_eq_true c1] at hsp
    by_cases c4 : ss[k].xs.length = nl
    case neg =>
      have c4' : ¬ ((ss[k].xs.length : Nat) : Int) = (nl : Int) := by omega
      have hval : valFrom nl (prevB ss k) (ss[k] :: ss.drop (k + 1)) = 12 := by simp [valFrom, valStep, c1', c4]
      simp only [forall_const, DC_seq, DC_skip, DC_exit, DC_ret, DC_region, DC_calm, DC_block, p_cond, isB_b, isT_b, andThen_nrm, andThen_ret, outOf_ret, kv_some, kc_some, e_nil, o_mv, p_bin, p_un, p_fa, faV_vp, faV_ptr, p_ia, p_lenV, p_ld, ldV_vp, ldV_L, ldE_cells, p_call, setD, rd_t, rd_c, get_same, get_ne, froz_agg, froz1_i, part_t, part_f, backD, calmOp, Nat.reduceAdd, List.all_nil, decide_true, bin_neq, bin_lss, un_not, Option.bind_some, Option.map_some, List.map_cons, List.map_nil, List.all_cons, List.all_nil, List.length_cons, List.drop_zero, List.getElem?_cons_zero, List.drop_succ_cons, List.take_succ_cons, List.take_zero, Bool.and_self, Bool.not_true, Bool.not_false, Bool.false_eq_true, if_true, if_false, ne_eq, not_false_eq_true, Nat.zero_add, Nat.reduceAdd, Nat.reduceLT, Nat.reduceLeDiff, Nat.reduceEqDiff, decide_true, decide_false, Nat.zero_le, Int.reduceEq, c31_L2, h1, h2, h5, hl.lenI, hO, hlt', hia, hsp, dc67, c4', hval, hv.lenI, hcc, lenI_of hlim]
      exact ⟨_, rfl, by simp only [get_same]⟩
    have hV := W1' l ss hl k hlt hv hxb
    cases c5 : ss[k].xs.all okN with
    | false =>
      have hval : valFrom nl (prevB ss k) (ss[k] :: ss.drop (k + 1)) = 5 := by simp [valFrom, valStep, c1', c4, c5]
      simp only [forall_const, DC_seq, DC_skip, DC_exit, DC_ret, DC_region, DC_calm, DC_block, p_cond, isB_b, isT_b, andThen_nrm, andThen_ret, outOf_ret, kv_some, kc_some, e_nil, o_mv, p_bin, p_un, p_fa, faV_vp, faV_ptr, p_ia, p_lenV, p_ld, ldV_vp, ldV_L, ldE_cells, p_call, setD, rd_t, rd_c, get_same, get_ne, froz_agg, froz1_i, part_t, part_f, backD, calmOp, Nat.reduceAdd, List.all_nil, decide_true, bin_neq, bin_lss, un_not, Option.bind_some, Option.map_some, List.map_cons, List.map_nil, List.all_cons, List.all_nil, List.length_cons, List.drop_zero, List.getElem?_cons_zero, List.drop_succ_cons, List.take_succ_cons, List.take_zero, Bool.and_self, Bool.not_true, Bool.false_eq_true, if_true, if_false, ne_eq, not_false_eq_true, Nat.zero_add, Nat.reduceAdd, Nat.reduceLT, Nat.reduceLeDiff, Nat.reduceEqDiff, decide_true, Nat.zero_le, Int.reduceEq, c31_L2, h1, h2, h5, hl.lenI, hO, hlt', hia, hsp, dc67, c4, hval, hv.lenI, hcc, lenI_of hlim, c5, (hV _ _ _ _ _ _).1]
      refine ⟨_, rfl, (hV _ _ _ ?_ ?_ ?_).2 c5⟩ <;> simp only [get_same, get_ne, ne_eq, not_false_eq_true, Nat.reduceEqDiff, h1, h5]
    | true =>
      by_cases c6 : k = 0
      · have c6' : ¬ (0 : Int) < (k : Int) := by omega
        have hval : valFrom nl (prevB ss k) (ss[k] :: ss.drop (k + 1)) = valFrom nl (prevB ss (k + 1)) (ss.drop (k + 1)) := by
          have hp : prevB ss k = none := by rw [c6]; rfl
          rw [hp]; simp [valFrom, valStep, c1', c4, c5, prevB, hlt]
        rw [hval]
        simp only [frL_presM, Nat.reduceShiftRight, Nat.reduceMod, DC_seq, DC_skip, DC_exit, DC_ret, DC_region, DC_calm, DC_block, p_cond, isB_b, isT_b, andThen_nrm, outOf_nrm, outOf_ext, kv_some, kc_some, e_nil, o_mv, p_pick, pickV_b, p_bin, p_un, p_fa, faV_vp, faV_ptr, p_ia, p_lenV, p_ld, ldV_vp, ldV_L, ldE_cells, p_call, g_skipT, setD, rd_t, rd_c, get_same, get_ne, froz_agg, froz1_i, part_t, part_f, backD, calmOp, Nat.reduceAdd, List.all_nil, decide_true, bin_add, bin_neq, bin_lss, bin_gtr, un_not, Option.bind_some, Option.map_some, List.map_cons, List.map_nil, List.all_cons, List.all_nil, List.length_cons, List.drop_zero, List.getElem?_cons_zero, List.drop_succ_cons, List.take_succ_cons, List.take_zero, Bool.and_self, Bool.not_true, Bool.false_eq_true, if_true, if_false, ne_eq, not_false_eq_true, Nat.zero_add, Nat.reduceAdd, Nat.reduceLT, Nat.reduceLeDiff, Nat.reduceEqDiff, decide_true, decide_false, Nat.zero_le, c31_L2, h1, h2, h5, hl.lenI, hO, hlt', hia, hsp, dc67, c4, hv.lenI, hcc, lenI_of hlim, c5, c6', (hV _ _ _ _ _ _).1, c31_L1_w, hw]
        rw [← hK]
        refine W2 l lim cc ss nl hl hs hn hcc hlim lh sh m (k + 1) _ (by omega) (by omega) ?_ ?_ ?_ hO <;> simp only [frL_presM, Nat.reduceShiftRight, Nat.reduceMod, get_same, get_ne, ne_eq, not_false_eq_true, Nat.reduceEqDiff, h1, h2, c31_L1_w]
      · have c6' : (0 : Int) < (k : Int) := by omega
        have hw1 : wr .i64 ((k : Int) - 1) = ((k - 1 : Nat) : Int) := by rw [wr64 (by omega)]; omega
        have hlt1 : k - 1 < ss.length := by omega
        have hia' : ∀ kk, iaV l (.i kk ((k - 1 : Nat) : Int)) 3 = some (.vp (.i .i64 ss[k - 1].a :: .i .i64 ss[k - 1].b :: ss[k - 1].v :: (ss.drop (k - 1 + 1)).flatMap stC)) := fun kk => by
          rw [hl.ia (sz := 3) (flat_len (f := stC) (fun _ => rfl) ss) hlt1, flat_drop (f := stC) (fun _ => rfl) ss (k - 1) hlt1]; rfl
        have hp : prevB ss k = some ss[k - 1].b := by
          cases k with
          | zero => exact absurd rfl c6
          | succ j => simp [prevB]; exact ⟨_, List.getElem?_eq_getElem (by omega), rfl⟩
        by_cases c7 : ss[k].a < ss[k - 1].b
        · have hval : valFrom nl (prevB ss k) (ss[k] :: ss.drop (k + 1)) = 8 := by rw [hp]; simp [valFrom, valStep, c1', c4, c5, c7]
          simp only [frL_presM, Nat.reduceShiftRight, Nat.reduceMod, forall_const, DC_seq, DC_skip, DC_exit, DC_ret, DC_region, DC_calm, DC_block, p_cond, isB_b, isT_b, andThen_nrm, andThen_ret, outOf_ret, outOf_ext, kv_some, kc_some, e_nil, o_mv, p_pick, pickV_b, p_bin, p_un, p_fa, faV_vp, faV_ptr, p_ia, p_lenV, p_ld, ldV_vp, ldV_L, ldE_cells, p_call, g_passT, setD, rd_t, rd_c, get_same, get_ne, froz_agg, froz1_i, part_t, part_f, backD, calmOp, Nat.reduceAdd, List.all_nil, decide_true, bin_sub, bin_neq, bin_lss, bin_gtr, un_not, Option.bind_some, Option.map_some, List.map_cons, List.map_nil, List.all_cons, List.all_nil, List.length_cons, List.drop_zero, List.getElem?_cons_zero, List.drop_succ_cons, List.take_succ_cons, List.take_zero, Bool.and_self, Bool.not_true, Bool.false_eq_true, if_true, if_false, ne_eq, not_false_eq_true, Nat.zero_add, Nat.reduceAdd, Nat.reduceLT, Nat.reduceLeDiff, Nat.reduceEqDiff, decide_true, Nat.zero_le, Int.reduceEq, c31_L2, h1, h2, h5, hl.lenI, hO, hlt', hia, hia', hsp, dc67, c4, hv.lenI, hcc, lenI_of hlim, c5, c6', c7, hw1, (hV _ _ _ _ _ _).1, c31_L1_w, hval]
          exact ⟨_, rfl, by simp only [get_same]⟩
        · have hval : valFrom nl (prevB ss k) (ss[k] :: ss.drop (k + 1)) = valFrom nl (prevB ss (k + 1)) (ss.drop (k + 1)) := by rw [hp]; simp [valFrom, valStep, c1', c4, c5, c7, prevB, hlt]
          rw [hval]
          simp only [frL_presM, Nat.reduceShiftRight, Nat.reduceMod, DC_seq, DC_skip, DC_exit, DC_ret, DC_region, DC_calm, DC_block, p_cond, isB_b, isT_b, andThen_nrm, outOf_nrm, outOf_ext, kv_some, kc_some, e_nil, o_mv, p_pick, pickV_b, p_bin, p_un, p_fa, faV_vp, faV_ptr, p_ia, p_lenV, p_ld, ldV_vp, ldV_L, ldE_cells, p_call, g_passT, setD, rd_t, rd_c, get_same, get_ne, froz_agg, froz1_i, part_t, part_f, backD, calmOp, Nat.reduceAdd, List.all_nil, decide_true, bin_add, bin_sub, bin_neq, bin_lss, bin_gtr, un_not, Option.bind_some, Option.map_some, List.map_cons, List.map_nil, List.all_cons, List.all_nil, List.length_cons, List.drop_zero, List.getElem?_cons_zero, List.drop_succ_cons, List.take_succ_cons, List.take_zero, Bool.and_self, Bool.not_true, Bool.false_eq_true, if_true, if_false, ite_self, ne_eq, not_false_eq_true, Nat.zero_add, Nat.reduceAdd, Nat.reduceLT, Nat.reduceLeDiff, Nat.reduceEqDiff, decide_true, decide_false, Nat.zero_le, c31_L2, h1, h2, h5, hl.lenI, hO, hlt', hia, hia', hsp, dc67, c4, hv.lenI, hcc, lenI_of hlim, c5, c6', c7, hw1, (hV _ _ _ _ _ _).1, c31_L1_w, hw]
          rw [← hK]
          refine W2 l lim cc ss nl hl hs hn hcc hlim lh sh m (k + 1) _ (by omega) (by omega) ?_ ?_ ?_ hO <;> simp only [frL_presM, Nat.reduceShiftRight, Nat.reduceMod, get_same, get_ne, ne_eq, not_false_eq_true, Nat.reduceEqDiff, h1, h2, c31_L1_w]
theorem W2' (l lim : T) (cc : List T) (ss : List Sti) (nl : Nat) (hl : IsSl l ss.length (ss.flatMap stC)) (hs : ∀ s ∈ ss, s.ok) (hn : ss.length ≤ 200) (hcc : cc[11]? = some lim) (hlim : lenT lim = some nl) (fr : Fr) (lh : Tri Ent) (sh : List Ent)
    (h1 : getF fr 1 = l) (h2 : getF fr 2 = .ptr .L 2 1 0) (h5 : getF fr 5 = .i .i64 0) (hO : getO lh 2 = ⟨1, .cells cc 0 true⟩) :
    DC pE 81 (.loop c31_L2) ⟨fr, lh, sh⟩ = some (if valFrom nl none ss = 0 then .ext 0 else .ret, ⟨frL pE 81 c31_L2 fr lh sh, lh, sh⟩) ∧ (valFrom nl none ss ≠ 0 → getF (frL pE 81 c31_L2 fr lh sh) 4 = .i .i64 (valFrom nl none ss)) :=
  loop_fix (W2 l lim cc ss nl hl hs hn hcc hlim lh sh ss.length 0 fr (by omega) (by omega) h1 h2 h5 hO)
theorem rvs_ev (l lim : T) (cc : List T) (ss : List Sti) (nl : Nat) (hl : IsSl l ss.length (ss.flatMap stC)) (hs : ∀ s ∈ ss, s.ok) (hcc : cc[11]? = some lim) (hlim : lenT lim = some nl) :
    DCall pE 31 [.agg cc, l] [] = some (.i .i64 (valSpec nl ss), []) := by
  rw [p_fun fn31 (by simp [c31])]
  unfold valSpec
  by_cases c1 : 200 < ss.length
  · have c1' : (200 : Int) < ss.length := by omega
    simp only [DC_seq, DC_skip, DC_ret, DC_region, p_cond, isB_b, isT_b, andThen_nrm, andThen_ret, endR_ret, kv_some, e_nil, o_mv, o_box, p_bin, p_lenV, rd_t, rd_c, get_same, get_ne, getO_nil, noEnt, resV, ansV_gen, froz_i, frOf, frFrom, fzV_froz, ups_nil, cells_agg, noTup_agg, decide_true, bin_gtr, Option.bind_some, Option.map_some, if_true, reduceCtorEq, ne_eq, not_false_eq_true, Nat.zero_add, Nat.reduceLT, Nat.reduceEqDiff, decide_true, c31, hl.lenI, c1, c1']
  · have c1' : ¬ (200 : Int) < ss.length := by omega
    have hV := W2' l lim cc ss nl hl hs (by omega) hcc hlim
    by_cases c2 : valFrom nl none ss = 0
    · simp only [DC_seq, DC_skip, DC_ret, DC_region, DC_block, p_cond, isB_b, isT_b, andThen_nrm, outOf_ext, endR_ret, kv_some, e_nil, o_mv, o_box, p_bin, p_lenV, rd_t, rd_c, get_same, get_ne, getO_same, getO_nil, noEnt, resV, ansV_gen, froz_i, frOf, frFrom, fzV_froz, ups_nil, cells_agg, noTup_agg, bin_gtr, Option.bind_some, Option.map_some, Bool.false_eq_true, if_true, if_false, reduceCtorEq, ne_eq, not_false_eq_true, Nat.zero_add, Nat.reduceLT, Nat.reduceEqDiff, decide_false, c31, hl.lenI, c1, c1', (hV _ _ _ _ _ _ _).1, c2]
    · simp only [DC_seq, DC_skip, DC_ret, DC_region, DC_block, p_cond, isB_b, isT_b, andThen_nrm, andThen_ret, outOf_ret, endR_ret, kv_some, e_nil, o_mv, o_box, p_bin, p_lenV, rd_t, rd_c, get_same, get_ne, getO_same, getO_nil, noEnt, resV, ansV_gen, froz_i, frOf, frFrom, fzV_froz, ups_nil, cells_agg, noTup_agg, bin_gtr, Option.bind_some, Option.map_some, Bool.false_eq_true, if_false, reduceCtorEq, ne_eq, not_false_eq_true, Nat.zero_add, Nat.reduceLT, Nat.reduceEqDiff, decide_false, c31, hl.lenI, c1, c1', (hV _ _ _ _ _ _ _).1, (hV _ _ _ _ _ _ _).2, c2]
end Go.Proofs.YtfenhjpkomldcaaGreat
