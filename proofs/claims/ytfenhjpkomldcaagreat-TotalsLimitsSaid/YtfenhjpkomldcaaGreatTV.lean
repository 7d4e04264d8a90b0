/- ValidateStints. Conditions: none beyond the theorems' own. -/
import Derived.Test.YtfenhjpkomldcaaGreatTD
set_option maxRecDepth 100000
set_option linter.unusedSimpArgs false
set_option linter.unusedVariables false
namespace Go.Proofs.YtfenhjpkomldcaaGreat
open Go Go.Ev
theorem span_ev (a b : Int) : DCall pE 67 [.agg [.i .i64 a, .i .i64 b]] [] = some (.b (decide (0 ≤ a ∧ a < b ∧ b ≤ 52596000)), []) := by
  rw [p_fun fn67 (by simp [c67])]
  by_cases h1 : 0 ≤ a
  · by_cases h2 : a < b
    · simp only [DC_seq, DC_ret, DC_region, andThen_nrm, endR_ret, kv_some, e_nil, o_mv, o_box, p_pick, pickV_b, p_bin, p_fa, faV_ptr, p_ld, ldV_L, ldE_cells, g_passT, rd_t, rd_c, get_same, get_ne, getO_same, getO_nil, noEnt, resV, ansV_gen, froz_b, frOf, frFrom, fzV_froz, ups_nil, cells_agg, noTup_agg, part_f, decide_true, bin_lss, bin_leq, bin_geq, Option.bind_some, Option.map_some, List.getElem?_cons_zero, List.getElem?_cons_succ, if_true, ne_eq, not_false_eq_true, true_and, Nat.zero_add, Nat.add_zero, Nat.reduceLT, Nat.reduceEqDiff, decide_true, c67, h1, h2]
    · simp only [DC_seq, DC_ret, DC_region, andThen_nrm, endR_ret, kv_some, e_nil, o_mv, o_box, p_pick, pickV_b, p_bin, p_fa, faV_ptr, p_ld, ldV_L, ldE_cells, g_passT, g_skipT, rd_t, rd_c, get_same, get_ne, getO_same, getO_nil, noEnt, resV, ansV_gen, froz_b, frOf, frFrom, fzV_froz, ups_nil, cells_agg, noTup_agg, part_f, decide_true, bin_lss, bin_geq, Option.bind_some, Option.map_some, List.getElem?_cons_zero, List.getElem?_cons_succ, Bool.false_eq_true, if_true, if_false, ite_self, ne_eq, not_false_eq_true, and_false, false_and, Nat.zero_add, Nat.add_zero, Nat.reduceLT, Nat.reduceEqDiff, decide_true, decide_false, c67, h1, h2]
  · simp only [DC_seq, DC_ret, DC_region, andThen_nrm, endR_ret, kv_some, e_nil, o_mv, o_box, p_pick, pickV_b, p_bin, p_fa, faV_ptr, p_ld, ldV_L, ldE_cells, g_skipT, rd_t, rd_c, get_same, get_ne, getO_same, getO_nil, noEnt, resV, ansV_gen, froz_b, frOf, frFrom, fzV_froz, ups_nil, cells_agg, noTup_agg, part_f, bin_geq, Option.bind_some, Option.map_some, List.getElem?_cons_zero, Bool.false_eq_true, if_true, if_false, ne_eq, not_false_eq_true, false_and, Nat.zero_add, Nat.add_zero, Nat.reduceLT, Nat.reduceEqDiff, decide_false, c67, h1]

def okN (n : Int) : Bool := decide (-1099511627776 ≤ n ∧ n ≤ 1099511627776)
theorem V1 (lh : Tri Ent) (sh : List Ent) (v : T) (xs : List Int) (hv : IsSl v xs.length (ints xs)) (hb : xs.length < 4611686018427387904) : ∀ (m k : Nat) (fr : Fr), xs.length - k = m → k ≤ xs.length →
    getF fr 46 = v → getF fr 47 = .i .i64 xs.length → getF fr 48 = .i .i64 k →
    ∃ fr', DC pE 75 (.loop c30_L1) ⟨fr, lh, sh⟩ = some (if (xs.drop k).all okN then .ext 2 else .ret, ⟨fr', lh, sh⟩) ∧ ((xs.drop k).all okN = false → getF fr' 4 = .i .i64 5)
  | 0, k, fr, hm, hk, h46, h47, h48 => by
    have : k = xs.length := by omega
    subst this
    rw [DC_loop]
    generalize hK : DC pE 75 (.loop c30_L1) = K
    simp only [Int.reduceNeg, DC_seq, DC_skip, DC_exit, DC_region, p_cond, isB_b, isT_b, andThen_nrm, andThen_ext, kv_some, e_nil, p_bin, rd_t, get_same, bin_lss, Option.map_some, Bool.false_eq_true, if_false, Nat.reduceLT, decide_false, c30_L1, h47, h48, Int.lt_irrefl]
    simp
  | m + 1, k, fr, hm, hk, h46, h47, h48 => by
    have hlt : k < xs.length := by omega
    have hlt' : (k : Int) < xs.length := by omega
    have hia : ∀ kk, iaV v (.i kk (k : Int)) 1 = some (.vp (T.i .i64 xs[k] :: (ints xs).drop (k + 1))) := fun kk => by rw [hv.ia (sz := 1) (by rw [ints_len]; omega) hlt, Nat.mul_one, ints_drop xs k hlt]
    have hw : wr .i64 ((k : Int) + 1) = ((k + 1 : Nat) : Int) := by rw [wr64 (by omega)]; omega
    have hdr : xs.drop k = xs[k] :: xs.drop (k + 1) := List.drop_eq_getElem_cons hlt
    rw [DC_loop]
    generalize hK : DC pE 75 (.loop c30_L1) = K
    by_cases h1 : xs[k] < -1099511627776
    · have hno : okN xs[k] = false := by simp [okN]; omega
      simp only [Int.reduceNeg, forall_const, DC_seq, DC_skip, DC_exit, DC_ret, DC_region, DC_block, p_cond, isB_b, isT_b, andThen_nrm, andThen_ret, outOf_ret, kv_some, e_nil, o_mv, p_pick, pickV_b, p_bin, p_ia, p_ld, ldV_vp, g_skipF, rd_t, rd_c, get_same, get_ne, part_f, decide_true, bin_lss, Option.map_some, List.all_cons, List.getElem?_cons_zero, Bool.false_and, Bool.false_eq_true, if_true, if_false, ne_eq, not_false_eq_true, Nat.reduceLT, Nat.reduceEqDiff, decide_true, c30_L1, h46, h47, h48, hlt', hia, h1, hdr, hno]
      exact ⟨_, rfl, by simp only [get_same]⟩
    · by_cases h2 : 1099511627776 < xs[k]
      · have hno : okN xs[k] = false := by simp [okN]; omega
        simp only [Int.reduceNeg, forall_const, DC_seq, DC_skip, DC_exit, DC_ret, DC_region, DC_block, p_cond, isB_b, isT_b, andThen_nrm, andThen_ret, outOf_ret, kv_some, e_nil, o_mv, p_pick, pickV_b, p_bin, p_ia, p_ld, ldV_vp, g_passF, rd_t, rd_c, get_same, get_ne, part_f, decide_true, bin_lss, bin_gtr, Option.map_some, List.all_cons, List.getElem?_cons_zero, Bool.false_and, Bool.false_eq_true, if_true, if_false, ite_self, ne_eq, not_false_eq_true, Nat.reduceLT, Nat.reduceEqDiff, decide_true, decide_false, c30_L1, h46, h47, h48, hlt', hia, h1, h2, hdr, hno]
        exact ⟨_, rfl, by simp only [get_same]⟩
      · have hno : okN xs[k] = true := by simp [okN]; omega
        simp only [Int.reduceNeg, DC_seq, DC_skip, DC_exit, DC_ret, DC_region, DC_block, p_cond, isB_b, isT_b, andThen_nrm, outOf_nrm, kv_some, e_nil, o_mv, p_pick, pickV_b, p_bin, p_ia, p_ld, ldV_vp, g_passF, rd_t, rd_c, get_same, get_ne, part_f, decide_true, bin_add, bin_lss, bin_gtr, Option.map_some, List.all_cons, List.getElem?_cons_zero, Bool.true_and, Bool.false_eq_true, if_true, if_false, ne_eq, not_false_eq_true, Nat.reduceLT, Nat.reduceEqDiff, decide_true, decide_false, c30_L1, h46, h47, h48, hlt', hia, h1, h2, hdr, hno, hw]
        rw [← hK]
        refine V1 lh sh v xs hv hb m (k + 1) _ (by omega) (by omega) ?_ ?_ ?_ <;> simp only [get_same, get_ne, ne_eq, not_false_eq_true, Nat.reduceEqDiff, h46, h47]
theorem V1' (v : T) (xs : List Int) (hv : IsSl v xs.length (ints xs)) (hb : xs.length < 4611686018427387904) (fr : Fr) (lh : Tri Ent) (sh : List Ent)
    (h46 : getF fr 46 = v) (h47 : getF fr 47 = .i .i64 xs.length) (h48 : getF fr 48 = .i .i64 0) :
    DC pE 75 (.loop c30_L1) ⟨fr, lh, sh⟩ = some (if xs.all okN then .ext 2 else .ret, ⟨frL pE 75 c30_L1 fr lh sh, lh, sh⟩) ∧ (xs.all okN = false → getF (frL pE 75 c30_L1 fr lh sh) 4 = .i .i64 5) := by
  have := loop_fix (V1 lh sh v xs hv hb xs.length 0 fr (by omega) (by omega) h46 h47 h48)
  simpa using this
def valStep (nl : Nat) (p : Option Int) (s : Sti) : Int :=
  if s.a < 0 ∨ s.b ≤ s.a ∨ 52596000 < s.b then 5 else if s.xs.length ≠ nl then 12 else if s.xs.all okN = false then 5 else match p with | some p => if s.a < p then 8 else 0 | none => 0
def valFrom (nl : Nat) : Option Int → List Sti → Int
  | _, [] => 0
  | p, s :: ss => if valStep nl p s = 0 then valFrom nl (some s.b) ss else valStep nl p s
def valSpec (nl : Nat) (ss : List Sti) : Int := if 200 < ss.length then 10 else valFrom nl none ss
def prevB (ss : List Sti) (k : Nat) : Option Int := match k with | 0 => none | k + 1 => ss[k]?.map (·.b)
theorem V2 (l lim : T) (cc : List T) (ss : List Sti) (nl : Nat) (hl : IsSl l ss.length (ss.flatMap stC)) (hs : ∀ s ∈ ss, s.ok) (hn : ss.length ≤ 200) (hcc : cc[11]? = some lim) (hlim : lenT lim = some nl) (sh : List Ent) : ∀ (m k : Nat) (fr : Fr) (lh : Tri Ent), ss.length - k = m → k ≤ ss.length →
    getF fr 1 = l → getF fr 2 = .ptr .L 2 1 0 → getF fr 12 = l → getF fr 13 = .i .i64 ss.length → getF fr 14 = .i .i64 k → getO lh 2 = ⟨1, .cells cc 0 true⟩ →
    ∃ fr' lh', DC pE 75 (.loop c30_L2) ⟨fr, lh, sh⟩ = some (if valFrom nl (prevB ss k) (ss.drop k) = 0 then .ext 0 else .ret, ⟨fr', lh', sh⟩) ∧ (valFrom nl (prevB ss k) (ss.drop k) ≠ 0 → getF fr' 4 = .i .i64 (valFrom nl (prevB ss k) (ss.drop k)))
  | 0, k, fr, lh, hm, hk, h1, h2, h12, h13, h14, hO => by
    have : k = ss.length := by omega
    subst this
    rw [DC_loop]
    generalize hK : DC pE 75 (.loop c30_L2) = K
    simp only [DC_seq, DC_skip, DC_exit, DC_region, p_cond, isB_b, isT_b, andThen_nrm, andThen_ext, kv_some, e_nil, p_bin, rd_t, get_same, bin_lss, Option.map_some, Bool.false_eq_true, if_false, ne_eq, Nat.reduceLT, decide_false, c30_L2, h13, h14, Int.lt_irrefl]
    simp [valFrom]
  | m + 1, k, fr, lh, hm, hk, h1, h2, h12, h13, h14, hO => by
    have hlt : k < ss.length := by omega
    have hlt' : (k : Int) < ss.length := by omega
    have hdr : ss.drop k = ss[k] :: ss.drop (k + 1) := List.drop_eq_getElem_cons hlt
    obtain ⟨hv, hxb0⟩ := hs ss[k] (List.getElem_mem hlt)
    have hxb : ss[k].xs.length < 4611686018427387904 := by omega
    have hia : ∀ kk, iaV l (.i kk (k : Int)) 3 = some (.vp (.i .i64 ss[k].a :: .i .i64 ss[k].b :: ss[k].v :: (ss.drop (k + 1)).flatMap stC)) := fun kk => by
      rw [hl.ia (sz := 3) (flat_len (f := stC) (fun _ => rfl) ss) hlt, flat_drop (f := stC) (fun _ => rfl) ss k hlt]; rfl
    have hw : wr .i64 ((k : Int) + 1) = ((k + 1 : Nat) : Int) := by rw [wr64 (by omega)]; omega
    rw [DC_loop, hdr]
    generalize hK : DC pE 75 (.loop c30_L2) = K
    by_cases c1 : ss[k].a < 0
    · have hval : valFrom nl (prevB ss k) (ss[k] :: ss.drop (k + 1)) = 5 := by simp [valFrom, valStep, c1]
      simp only [forall_const, DC_seq, DC_skip, DC_exit, DC_ret, DC_region, DC_block, p_cond, isB_b, isT_b, andThen_nrm, andThen_ret, outOf_ret, kv_some, ks_some, e_nil, o_mv, o_alloc, p_pick, pickV_b, p_bin, p_fa, faV_ptr, p_ia, p_ld, ldV_vp, ldV_L, ldE_cells, p_st, stV_L, stB_box, g_skipF, rd_t, rd_c, get_same, get_ne, getO_same, cells_agg, noTup_agg, splice, part_t, part_f, Nat.reduceAdd, decide_true, bin_lss, Option.map_some, List.length_cons, List.length_nil, List.drop_zero, List.getElem?_cons_zero, List.take_succ_cons, List.take_zero, if_true, if_false, ne_eq, not_false_eq_true, and_self, Nat.zero_add, Nat.add_zero, Nat.reduceAdd, Nat.reduceLT, Nat.reduceLeDiff, Nat.reduceEqDiff, decide_true, Nat.le_refl, Int.reduceEq, c30_L2, h12, h13, h14, hlt', hia, c1, hval]
      exact ⟨_, _, rfl, by simp only [get_same]⟩
    by_cases c2 : ss[k].b ≤ ss[k].a
    · have hval : valFrom nl (prevB ss k) (ss[k] :: ss.drop (k + 1)) = 5 := by simp [valFrom, valStep, c2]
      simp only [forall_const, DC_seq, DC_skip, DC_exit, DC_ret, DC_region, DC_block, p_cond, isB_b, isT_b, andThen_nrm, andThen_ret, outOf_ret, kv_some, ks_some, e_nil, o_mv, o_alloc, p_pick, pickV_b, p_bin, p_fa, faV_ptr, p_ia, p_ld, ldV_vp, ldV_L, ldE_cells, p_st, stV_L, stB_box, g_passF, g_skipF, rd_t, rd_c, get_same, get_ne, getO_same, cells_agg, noTup_agg, splice, part_t, part_f, Nat.reduceAdd, decide_true, bin_lss, bin_geq, Option.map_some, List.length_cons, List.length_nil, List.drop_zero, List.getElem?_cons_zero, List.getElem?_cons_succ, List.take_succ_cons, List.take_zero, Bool.false_eq_true, if_true, if_false, ite_self, ne_eq, not_false_eq_true, and_self, Nat.zero_add, Nat.add_zero, Nat.reduceAdd, Nat.reduceLT, Nat.reduceLeDiff, Nat.reduceEqDiff, decide_true, decide_false, Nat.le_refl, Int.reduceEq, c30_L2, h12, h13, h14, hlt', hia, c1, c2, hval]
      exact ⟨_, _, rfl, by simp only [get_same]⟩
    by_cases c3 : 52596000 < ss[k].b
    · have hval : valFrom nl (prevB ss k) (ss[k] :: ss.drop (k + 1)) = 5 := by simp [valFrom, valStep, c3]
      simp only [forall_const, DC_seq, DC_skip, DC_exit, DC_ret, DC_region, DC_block, p_cond, isB_b, isT_b, andThen_nrm, andThen_ret, outOf_ret, kv_some, ks_some, e_nil, o_mv, o_alloc, p_pick, pickV_b, p_bin, p_fa, faV_ptr, p_ia, p_ld, ldV_vp, ldV_L, ldE_cells, p_st, stV_L, stB_box, g_passF, rd_t, rd_c, get_same, get_ne, getO_same, cells_agg, noTup_agg, splice, part_t, part_f, Nat.reduceAdd, decide_true, bin_lss, bin_gtr, bin_geq, Option.map_some, List.length_cons, List.length_nil, List.drop_zero, List.getElem?_cons_zero, List.getElem?_cons_succ, List.take_succ_cons, List.take_zero, Bool.false_eq_true, if_true, if_false, ite_self, ne_eq, not_false_eq_true, and_self, Nat.zero_add, Nat.add_zero, Nat.reduceAdd, Nat.reduceLT, Nat.reduceLeDiff, Nat.reduceEqDiff, decide_true, decide_false, Nat.le_refl, Int.reduceEq, c30_L2, h12, h13, h14, hlt', hia, c1, c2, c3, hval]
      exact ⟨_, _, rfl, by simp only [get_same]⟩
    by_cases c4 : ss[k].xs.length = nl
    case neg =>
      have c4' : ¬ ((ss[k].xs.length : Nat) : Int) = (nl : Int) := by omega
      have hval : valFrom nl (prevB ss k) (ss[k] :: ss.drop (k + 1)) = 12 := by simp [valFrom, valStep, c1, c2, c3, c4]
      simp only [forall_const, DC_seq, DC_skip, DC_exit, DC_ret, DC_region, DC_block, p_cond, isB_b, isT_b, andThen_nrm, andThen_ret, outOf_ret, kv_some, ks_some, e_nil, o_mv, o_alloc, p_pick, pickV_b, p_bin, p_fa, faV_ptr, p_ia, p_lenV, p_ld, ldV_vp, ldV_L, ldE_cells, p_st, stV_L, stB_box, g_passF, rd_t, rd_c, get_same, get_ne, getO_same, getO_ne, cells_agg, noTup_agg, splice, part_t, part_f, Nat.reduceAdd, decide_true, bin_neq, bin_lss, bin_gtr, bin_geq, Option.map_some, List.length_cons, List.length_nil, List.drop_zero, List.getElem?_cons_zero, List.getElem?_cons_succ, List.take_succ_cons, List.take_zero, Bool.not_false, Bool.false_eq_true, if_true, if_false, ne_eq, not_false_eq_true, and_self, Nat.zero_add, Nat.add_zero, Nat.reduceAdd, Nat.reduceLT, Nat.reduceLeDiff, Nat.reduceEqDiff, decide_true, decide_false, Nat.le_refl, Int.reduceEq, c30_L2, h2, h12, h13, h14, hO, hlt', hia, c1, c2, c3, c4', hval, hv.lenI, hcc, lenI_of hlim]
      exact ⟨_, _, rfl, by simp only [get_same]⟩
    have hV := V1' _ _ hv hxb
    cases c5 : ss[k].xs.all okN with
    | false =>
      have hval : valFrom nl (prevB ss k) (ss[k] :: ss.drop (k + 1)) = 5 := by simp [valFrom, valStep, c1, c2, c3, c4, c5]
      simp only [forall_const, DC_seq, DC_skip, DC_exit, DC_ret, DC_region, DC_block, p_cond, isB_b, isT_b, andThen_nrm, andThen_ret, outOf_ret, kv_some, ks_some, e_nil, o_mv, o_alloc, p_pick, pickV_b, p_bin, p_fa, faV_ptr, p_ia, p_lenV, p_ld, ldV_vp, ldV_L, ldE_cells, p_st, stV_L, stB_box, g_passF, rd_t, rd_c, get_same, get_ne, getO_same, getO_ne, cells_agg, noTup_agg, splice, part_t, part_f, Nat.reduceAdd, decide_true, bin_neq, bin_lss, bin_gtr, bin_geq, Option.map_some, List.length_cons, List.length_nil, List.drop_zero, List.getElem?_cons_zero, List.getElem?_cons_succ, List.take_succ_cons, List.take_zero, Bool.not_true, Bool.false_eq_true, if_true, if_false, ne_eq, not_false_eq_true, and_self, Nat.zero_add, Nat.add_zero, Nat.reduceAdd, Nat.reduceLT, Nat.reduceLeDiff, Nat.reduceEqDiff, decide_true, decide_false, Nat.le_refl, Int.reduceEq, c30_L2, h2, h12, h13, h14, hO, hlt', hia, c1, c2, c3, c4, hval, hv.lenI, hcc, lenI_of hlim, c5, (hV _ _ _ _ _ _).1]
      refine ⟨_, _, rfl, (hV _ _ _ ?_ ?_ ?_).2 c5⟩ <;> simp only [get_same, get_ne, ne_eq, not_false_eq_true, Nat.reduceEqDiff, c4]
    | true =>
      by_cases c6 : k = 0
      · have c6' : ¬ (0 : Int) < (k : Int) := by omega
        have hval : valFrom nl (prevB ss k) (ss[k] :: ss.drop (k + 1)) = valFrom nl (prevB ss (k + 1)) (ss.drop (k + 1)) := by
          have hp : prevB ss k = none := by rw [c6]; rfl
          rw [hp]; simp [valFrom, valStep, c1, c2, c3, c4, c5, prevB, hlt]
        rw [hval]
        simp only [frL_presM, Nat.reduceShiftRight, Nat.reduceMod, DC_seq, DC_skip, DC_exit, DC_ret, DC_region, DC_calm, DC_block, p_cond, isB_b, isT_b, andThen_nrm, outOf_nrm, outOf_ext, kv_some, ks_some, e_nil, o_mv, o_alloc, p_pick, pickV_b, p_bin, p_fa, faV_ptr, p_ia, p_lenV, p_ld, ldV_vp, ldV_L, ldE_cells, p_st, stV_L, stB_box, g_passF, g_skipT, rd_t, rd_c, get_same, get_ne, getO_same, getO_ne, cells_agg, noTup_agg, splice, part_t, part_f, backD, calmOp, Nat.reduceAdd, List.all_nil, decide_true, bin_add, bin_neq, bin_lss, bin_gtr, bin_geq, Option.map_some, List.map_cons, List.map_nil, List.all_cons, List.all_nil, List.length_cons, List.length_nil, List.drop_zero, List.getElem?_cons_zero, List.getElem?_cons_succ, List.take_succ_cons, List.take_zero, Bool.and_self, Bool.not_true, Bool.false_eq_true, if_true, if_false, ne_eq, not_false_eq_true, and_self, Nat.zero_add, Nat.add_zero, Nat.reduceAdd, Nat.reduceLT, Nat.reduceLeDiff, Nat.reduceEqDiff, decide_true, decide_false, Nat.le_refl, c30_L2, h2, h12, h13, h14, hO, hlt', hia, c1, c2, c3, c4, hv.lenI, hcc, lenI_of hlim, c5, c6', (hV _ _ _ _ _ _).1, c30_L1_w, hw]
        rw [← hK]
        refine V2 l lim cc ss nl hl hs hn hcc hlim sh m (k + 1) _ _ (by omega) (by omega) ?_ ?_ ?_ ?_ ?_ ?_ <;> simp only [frL_presM, Nat.reduceShiftRight, Nat.reduceMod, get_same, get_ne, getO_ne, ne_eq, not_false_eq_true, Nat.reduceEqDiff, h1, h2, h12, h13, hO, c30_L1_w]
      · have c6' : (0 : Int) < (k : Int) := by omega
        have hw1 : wr .i64 ((k : Int) - 1) = ((k - 1 : Nat) : Int) := by rw [wr64 (by omega)]; omega
        have hlt1 : k - 1 < ss.length := by omega
        have hia' : ∀ kk, iaV l (.i kk ((k - 1 : Nat) : Int)) 3 = some (.vp (.i .i64 ss[k - 1].a :: .i .i64 ss[k - 1].b :: ss[k - 1].v :: (ss.drop (k - 1 + 1)).flatMap stC)) := fun kk => by
          rw [hl.ia (sz := 3) (flat_len (f := stC) (fun _ => rfl) ss) hlt1, flat_drop (f := stC) (fun _ => rfl) ss (k - 1) hlt1]; rfl
        have hp : prevB ss k = some ss[k - 1].b := by
          cases k with
          | zero => exact absurd rfl c6
          | succ j => simp [prevB]; exact ⟨_, List.getElem?_eq_getElem (by omega), rfl⟩
        by_cases c7 : ss[k].a < ss[k - 1].b
        · have hval : valFrom nl (prevB ss k) (ss[k] :: ss.drop (k + 1)) = 8 := by rw [hp]; simp [valFrom, valStep, c1, c2, c3, c4, c5, c7]
          simp only [frL_presM, Nat.reduceShiftRight, Nat.reduceMod, forall_const, DC_seq, DC_skip, DC_exit, DC_ret, DC_region, DC_calm, DC_block, p_cond, isB_b, isT_b, andThen_nrm, andThen_ret, outOf_ret, outOf_ext, kv_some, ks_some, e_nil, o_mv, o_alloc, p_pick, pickV_b, p_bin, p_fa, faV_vp, faV_ptr, p_ia, p_lenV, p_ld, ldV_vp, ldV_L, ldE_cells, p_st, stV_L, stB_box, g_passT, g_passF, rd_t, rd_c, get_same, get_ne, getO_same, getO_ne, cells_agg, noTup_agg, splice, part_t, part_f, backD, calmOp, Nat.reduceAdd, List.all_nil, decide_true, bin_sub, bin_neq, bin_lss, bin_gtr, bin_geq, Option.map_some, List.map_cons, List.map_nil, List.all_cons, List.all_nil, List.length_cons, List.length_nil, List.drop_zero, List.getElem?_cons_zero, List.getElem?_cons_succ, List.drop_succ_cons, List.take_succ_cons, List.take_zero, Bool.and_self, Bool.not_true, Bool.false_eq_true, if_true, if_false, ne_eq, not_false_eq_true, and_self, Nat.zero_add, Nat.add_zero, Nat.reduceAdd, Nat.reduceLT, Nat.reduceLeDiff, Nat.reduceEqDiff, decide_true, decide_false, Nat.le_refl, Nat.zero_le, Int.reduceEq, c30_L2, h1, h2, h12, h13, h14, hO, hlt', hia, hia', c1, c2, c3, c4, hv.lenI, hcc, lenI_of hlim, c5, c6', c7, hw1, (hV _ _ _ _ _ _).1, c30_L1_w, hval]
          exact ⟨_, _, rfl, by simp only [get_same]⟩
        · have hval : valFrom nl (prevB ss k) (ss[k] :: ss.drop (k + 1)) = valFrom nl (prevB ss (k + 1)) (ss.drop (k + 1)) := by rw [hp]; simp [valFrom, valStep, c1, c2, c3, c4, c5, c7, prevB, hlt]
          rw [hval]
          simp only [frL_presM, Nat.reduceShiftRight, Nat.reduceMod, DC_seq, DC_skip, DC_exit, DC_ret, DC_region, DC_calm, DC_block, p_cond, isB_b, isT_b, andThen_nrm, outOf_nrm, outOf_ext, kv_some, ks_some, e_nil, o_mv, o_alloc, p_pick, pickV_b, p_bin, p_fa, faV_vp, faV_ptr, p_ia, p_lenV, p_ld, ldV_vp, ldV_L, ldE_cells, p_st, stV_L, stB_box, g_passT, g_passF, rd_t, rd_c, get_same, get_ne, getO_same, getO_ne, cells_agg, noTup_agg, splice, part_t, part_f, backD, calmOp, Nat.reduceAdd, List.all_nil, decide_true, bin_add, bin_sub, bin_neq, bin_lss, bin_gtr, bin_geq, Option.map_some, List.map_cons, List.map_nil, List.all_cons, List.all_nil, List.length_cons, List.length_nil, List.drop_zero, List.getElem?_cons_zero, List.getElem?_cons_succ, List.drop_succ_cons, List.take_succ_cons, List.take_zero, Bool.and_self, Bool.not_true, Bool.false_eq_true, if_true, if_false, ite_self, ne_eq, not_false_eq_true, and_self, Nat.zero_add, Nat.add_zero, Nat.reduceAdd, Nat.reduceLT, Nat.reduceLeDiff, Nat.reduceEqDiff, decide_true, decide_false, Nat.le_refl, Nat.zero_le, c30_L2, h1, h2, h12, h13, h14, hO, hlt', hia, hia', c1, c2, c3, c4, hv.lenI, hcc, lenI_of hlim, c5, c6', c7, hw1, (hV _ _ _ _ _ _).1, c30_L1_w, hw]
          rw [← hK]
          refine V2 l lim cc ss nl hl hs hn hcc hlim sh m (k + 1) _ _ (by omega) (by omega) ?_ ?_ ?_ ?_ ?_ ?_ <;> simp only [frL_presM, Nat.reduceShiftRight, Nat.reduceMod, get_same, get_ne, getO_ne, ne_eq, not_false_eq_true, Nat.reduceEqDiff, h1, h2, h12, h13, hO, c30_L1_w]
theorem V2' (l lim : T) (cc : List T) (ss : List Sti) (nl : Nat) (hl : IsSl l ss.length (ss.flatMap stC)) (hs : ∀ s ∈ ss, s.ok) (hn : ss.length ≤ 200) (hcc : cc[11]? = some lim) (hlim : lenT lim = some nl) (fr : Fr) (lh : Tri Ent) (sh : List Ent)
    (h1 : getF fr 1 = l) (h2 : getF fr 2 = .ptr .L 2 1 0) (h12 : getF fr 12 = l) (h13 : getF fr 13 = .i .i64 ss.length) (h14 : getF fr 14 = .i .i64 0) (hO : getO lh 2 = ⟨1, .cells cc 0 true⟩) :
    DC pE 75 (.loop c30_L2) ⟨fr, lh, sh⟩ = some (if valFrom nl none ss = 0 then .ext 0 else .ret, ⟨frL pE 75 c30_L2 fr lh sh, lhL pE 75 c30_L2 fr lh sh, sh⟩) ∧ (valFrom nl none ss ≠ 0 → getF (frL pE 75 c30_L2 fr lh sh) 4 = .i .i64 (valFrom nl none ss)) :=
  loop_fix2 (V2 l lim cc ss nl hl hs hn hcc hlim sh ss.length 0 fr lh (by omega) (by omega) h1 h2 h12 h13 h14 hO)
theorem val_ev (l lim : T) (cc : List T) (ss : List Sti) (nl : Nat) (hl : IsSl l ss.length (ss.flatMap stC)) (hs : ∀ s ∈ ss, s.ok) (hcc : cc[11]? = some lim) (hlim : lenT lim = some nl) :
    DCall pE 30 [.agg cc, l] [] = some (.i .i64 (valSpec nl ss), []) := by
  rw [p_fun fn30 (by simp [c30])]
  unfold valSpec
  by_cases c1 : 200 < ss.length
  · have c1' : (200 : Int) < ss.length := by omega
    simp only [DC_seq, DC_skip, DC_ret, DC_region, p_cond, isB_b, isT_b, andThen_nrm, andThen_ret, endR_ret, kv_some, e_nil, o_mv, o_box, p_bin, p_lenV, rd_t, rd_c, get_same, get_ne, getO_nil, noEnt, resV, ansV_gen, froz_i, frOf, frFrom, fzV_froz, ups_nil, cells_agg, noTup_agg, decide_true, bin_gtr, Option.bind_some, Option.map_some, if_true, reduceCtorEq, ne_eq, not_false_eq_true, Nat.zero_add, Nat.reduceLT, Nat.reduceEqDiff, decide_true, c30, hl.lenI, c1, c1']
  · have c1' : ¬ (200 : Int) < ss.length := by omega
    have hV := V2' l lim cc ss nl hl hs (by omega) hcc hlim
    by_cases c2 : valFrom nl none ss = 0
    · simp only [DC_seq, DC_skip, DC_ret, DC_region, DC_block, p_cond, isB_b, isT_b, andThen_nrm, outOf_ext, endR_ret, kv_some, e_nil, o_mv, o_box, p_bin, p_lenV, rd_t, rd_c, get_same, get_ne, getO_same, getO_nil, noEnt, resV, ansV_gen, froz_i, frOf, frFrom, fzV_froz, ups_nil, cells_agg, noTup_agg, bin_gtr, Option.bind_some, Option.map_some, Bool.false_eq_true, if_true, if_false, reduceCtorEq, ne_eq, not_false_eq_true, Nat.zero_add, Nat.reduceLT, Nat.reduceEqDiff, decide_false, c30, hl.lenI, c1, c1', (hV _ _ _ _ _ _ _ _ _).1, c2]
    · simp only [DC_seq, DC_skip, DC_ret, DC_region, DC_block, p_cond, isB_b, isT_b, andThen_nrm, andThen_ret, outOf_ret, endR_ret, kv_some, e_nil, o_mv, o_box, p_bin, p_lenV, rd_t, rd_c, get_same, get_ne, getO_same, getO_nil, noEnt, resV, ansV_gen, froz_i, frOf, frFrom, fzV_froz, ups_nil, cells_agg, noTup_agg, bin_gtr, Option.bind_some, Option.map_some, Bool.false_eq_true, if_false, reduceCtorEq, ne_eq, not_false_eq_true, Nat.zero_add, Nat.reduceLT, Nat.reduceEqDiff, decide_false, c30, hl.lenI, c1, c1', (hV _ _ _ _ _ _ _ _ _).1, (hV _ _ _ _ _ _ _ _ _).2, c2]
end Go.Proofs.YtfenhjpkomldcaaGreat
