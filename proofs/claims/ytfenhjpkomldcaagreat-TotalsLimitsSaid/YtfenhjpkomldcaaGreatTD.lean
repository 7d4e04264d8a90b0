/- The built stints. Conditions: none beyond the theorems' own. -/
import Derived.Test.YtfenhjpkomldcaaGreatTC
set_option maxRecDepth 100000
set_option linter.unusedSimpArgs false
set_option linter.unusedVariables false
namespace Go.Proofs.YtfenhjpkomldcaaGreat
open Go Go.Ev
structure Sti where
  a : Int
  b : Int
  v : T
  xs : List Int
def stC (s : Sti) : List T := [.i .i64 s.a, .i .i64 s.b, s.v]
def Sti.ok (s : Sti) : Prop := IsSl s.v s.xs.length (ints s.xs) ∧ s.xs.length < 1000
theorem stC_len (ss : List Sti) : (ss.flatMap stC).length = ss.length * 3 := flat_len (f := stC) (fun _ => rfl) ss
def gap (k : Int) : Int := [(0 : Int), 300, 700, 1440, 2000, 90, 4000, 600].getD (k % 8).toNat 0
theorem gap_lt (k : Int) : 0 ≤ gap k ∧ gap k ≤ 4000 := by
  have h : k % 8 = 0 ∨ k % 8 = 1 ∨ k % 8 = 2 ∨ k % 8 = 3 ∨ k % 8 = 4 ∨ k % 8 = 5 ∨ k % 8 = 6 ∨ k % 8 = 7 := by omega
  unfold gap
  rcases h with h | h | h | h | h | h | h | h <;> rw [h] <;> decide
theorem gap_get (k : Int) : [T.i .i64 0, T.i .i64 300, T.i .i64 700, T.i .i64 1440, T.i .i64 2000, T.i .i64 90, T.i .i64 4000, T.i .i64 600][(k % 8).toNat]? = some (.i .i64 (gap k)) := by
  have h : k % 8 = 0 ∨ k % 8 = 1 ∨ k % 8 = 2 ∨ k % 8 = 3 ∨ k % 8 = 4 ∨ k % 8 = 5 ∨ k % 8 = 6 ∨ k % 8 = 7 := by omega
  unfold gap
  rcases h with h | h | h | h | h | h | h | h <;> rw [h] <;> rfl
def stOf (t k : Int) : Sti := ⟨t + gap k, t + gap k + 60 + k / 8 % 512, .sl (ints [k / 16 % 512, k / 32 % 512]) 2 false, [k / 16 % 512, k / 32 % 512]⟩
def stGen (xs : List Int) : Nat → Nat → Int → List Sti
  | 0, _, _ => []
  | n + 1, i, t => stOf t (atV xs (1 + i)) :: stGen xs n (i + 1) (stOf t (atV xs (1 + i))).b
theorem stGen_len (xs : List Int) : ∀ (n i : Nat) (t : Int), (stGen xs n i t).length = n
  | 0, _, _ => rfl
  | n + 1, i, t => by simp [stGen, stGen_len xs n]
def OutS (lh : Tri Ent) (v : T) (k sz n : Nat) (cs : List T) : Prop :=
  (n = 0 ∧ v = .nilsl ∧ cs = []) ∨ (∃ g wm, v = .isl .L k g 0 n sz ∧ getO lh k = ⟨g, .cells cs wm false⟩ ∧ cs.length = n * sz ∧ 0 < n)
theorem st_b (t k : Int) (i : Nat) (h1 : 12960360 ≤ t) (h2 : t ≤ 12960360 + (i : Int) * 5000) : 12960360 ≤ t + gap k + 60 + k / 8 % 512 ∧ t + gap k + 60 + k / 8 % 512 ≤ 12960360 + ((i + 1 : Nat) : Int) * 5000 := by
  have hg := gap_lt k
  omega
theorem st_w (t k : Int) (i : Nat) (h1 : 12960360 ≤ t) (h2 : t ≤ 12960360 + (i : Int) * 5000) (h3 : i ≤ 7) : wr .i64 (t + gap k) = t + gap k ∧ wr .i64 (t + gap k + 60) = t + gap k + 60 ∧ wr .i64 (t + gap k + 60 + k / 8 % 512) = t + gap k + 60 + k / 8 % 512 := by
  have hg := gap_lt k
  refine ⟨wr64 ?_, wr64 ?_, wr64 ?_⟩ <;> omega
theorem S0 (lim : T) (cc : List T) (hcc : cc[11]? = some lim) (hlim : lenI lim = some (.i .i64 2)) (k : Int) (x y : T) (g : Nat) (fr : Fr) (lh : Tri Ent) (sh : List Ent)
    (h2 : getF fr 2 = .ptr .L 2 1 0) (h8 : getF fr 8 = .i .i64 k) (h9 : getF fr 9 = .ptr .L 9 g 0) (h10 : getF fr 10 = .i .i64 0) (hO : getO lh 2 = ⟨1, .cells cc 0 true⟩) (hO9 : getO lh 9 = ⟨g, .cells [x, y, .nilsl] 0 true⟩) :
    ∃ fr' lh', DC pE 64 (.loop c28_L1) ⟨fr, lh, sh⟩ = some (.ext 2, ⟨fr', lh', sh⟩) ∧ (getO lh' 9 = ⟨g, .cells [x, y, .isl .L 57 ((getO lh 57).g + 1 + 1) 0 2 1] 0 true⟩ ∧ getO lh' 57 = ⟨(getO lh 57).g + 1 + 1, .cells [.i .i64 (k / 16 % 512), .i .i64 (k / 32 % 512)] 0 false⟩ ∧ getO lh' 2 = ⟨1, .cells cc 0 true⟩ ∧ getO lh' 62 = getO lh 62) := by
  simp only [and_511, shr_4, shr_5, wr64, wru64, Int.reduceAdd, Int.reduceNeg, DC_seq, DC_skip, DC_exit, DC_region, DC_block, p_cond, isB_b, isT_b, andThen_nrm, andThen_ext, outOf_nrm, map_ite, kv_some, ks_some, ka_some, kc_some, e_nil, o_mv, p_bin, p_cvi, cviV_i, p_fa, faV_ptr, p_lenV, p_ld, ldV_L, ldE_cells, p_st, stV_L, stB_box, p_app, appW, slC_sl, appE_cells, appV_nil, appV_isl, notS_nilsl, notS_isl, p_bsl, bslV, setD, rd_t, rd_c, get_same, get_ne, getO_same, getO_ne, bslW, froz_i, fzV_froz, fzL_nil, fzL_cons, ups_nil, cells_i, cells_isl, noTup_i, noTup_isl, splice, part_f, fills, repl, Nat.reduceAdd, List.all_nil, decide_true, bin_add, bin_lss, Option.bind_some, Option.map_some, Option.map_none, List.map_cons, List.map_nil, List.all_cons, List.all_nil, List.length_cons, List.length_nil, List.append_nil, List.nil_append, List.cons_append, List.getElem?_cons_zero, List.getElem?_cons_succ, List.zip_cons_cons, List.zip_nil_left, Bool.and_self, Bool.false_eq_true, if_true, if_false, ne_eq, not_false_eq_true, and_self, Nat.zero_add, Nat.mul_one, Nat.one_mul, Nat.reduceAdd, Nat.reduceMul, Nat.reduceLT, Nat.reduceLeDiff, Nat.reduceEqDiff, decide_true, decide_false, Nat.le_refl, Nat.zero_le, Int.reduceLE, Int.reduceLT, DC_loop, c28_L1, h2, h8, h9, h10, hO, hO9, hcc, hlim, roomy]
  exact ⟨_, _, rfl, by simp only [getO_same, getO_ne, ne_eq, not_false_eq_true, and_self, Nat.reduceEqDiff, hO]⟩
theorem S1 (l lim : T) (cc : List T) (xs : List Int) (hl : IsSl l xs.length (ints xs)) (hcc : cc[11]? = some lim) (hlim : lenI lim = some (.i .i64 2)) (sh : List Ent) : ∀ (m i : Nat) (t : Int) (cs : List T) (fr : Fr) (lh : Tri Ent),
    (i : Int) + m = atV xs 0 % 7 → 12960360 ≤ t → t ≤ 12960360 + i * 5000 →
    getF fr 1 = l → getF fr 2 = .ptr .L 2 1 0 → getF fr 6 = .i .i64 t → getF fr 7 = .i .i64 (i : Int) → getO lh 2 = ⟨1, .cells cc 0 true⟩ → OutS lh (getF fr 5) 62 3 i cs →
    ∃ fr' lh', DC pE 64 (.loop c28_L2) ⟨fr, lh, sh⟩ = some (.ext 0, ⟨fr', lh', sh⟩) ∧ OutS lh' (getF fr' 5) 62 3 (i + m) (cs ++ (stGen xs m i t).flatMap stC)
  | 0, i, t, cs, fr, lh, hm, ht1, ht2, h1, h2, h6, h7, hO, hs => by
    have hat := at_ev l xs hl 0 (by omega)
    have hat' : DCall pE 66 [l, .i .i64 0] [] = some (.i .i64 (atV xs 0), []) := hat
    have e1 : (atV xs 0).tmod 7 = atV xs 0 % 7 := tmod_nn (atV_nn xs 0)
    have hlt : ¬ (i : Int) < atV xs 0 % 7 := by omega
    rw [DC_loop]
    generalize hK : DC pE 64 (.loop c28_L2) = K
    simp only [DC_seq, DC_skip, DC_exit, DC_region, p_cond, isB_b, isT_b, andThen_nrm, andThen_ext, kv_some, kc_some, e_nil, o_mv, p_bin, p_call, setD, rd_t, rd_c, get_same, get_ne, froz_i, List.all_nil, bin_rem, bin_lss, Option.bind_some, Option.map_some, List.map_cons, List.map_nil, List.all_cons, List.all_nil, Bool.and_self, Bool.false_eq_true, if_false, ne_eq, not_false_eq_true, Nat.add_zero, Nat.reduceLT, Nat.reduceEqDiff, decide_false, Int.reduceEq, c28_L2, h1, h7, hat', dc66, hl.froz, e1, hlt]
    exact ⟨_, _, rfl, by simpa [stGen, get_ne] using hs⟩
  | m + 1, i, t, cs, fr, lh, hm, ht1, ht2, h1, h2, h6, h7, hO, hs => by
    have hat : DCall pE 66 [l, .i .i64 0] [] = some (.i .i64 (atV xs 0), []) := at_ev l xs hl 0 (by omega)
    have hm7 : atV xs 0 % 7 < 7 := by omega
    have hm' : ((i + 1 : Nat) : Int) + m = atV xs 0 % 7 := by omega
    have hi7 : i ≤ 7 := by omega
    have hat1 : DCall pE 66 [l, .i .i64 ((1 + i : Nat) : Int)] [] = some (.i .i64 (atV xs (1 + i)), []) := at_ev l xs hl (1 + i) (by omega)
    have e1 : (atV xs 0).tmod 7 = atV xs 0 % 7 := tmod_nn (atV_nn xs 0)
    have hlt : (i : Int) < atV xs 0 % 7 := by omega
    have w5 : wr .i64 ((i : Int) + 1) = ((i + 1 : Nat) : Int) := by rw [wr64 (by omega)]; omega
    have w1 : wr .i64 (1 + (i : Int)) = ((1 + i : Nat) : Int) := by rw [wr64 (by omega)]; omega
    have hk0 := atV_nn xs (1 + i)
    have hk1 := atV_lt xs (1 + i)
    generalize hk : atV xs (1 + i) = k at *
    obtain ⟨hb1, hb2⟩ := st_b t k i ht1 ht2
    obtain ⟨w2, w3, w4⟩ := st_w t k i ht1 ht2 hi7
    have b1 : 0 ≤ k % 8 := by omega
    have b2 : (k % 8).toNat < 8 := by omega
    have b3 : (k % 8).toNat + 1 ≤ 8 := by omega
    have hgen : stGen xs (m + 1) i t = stOf t k :: stGen xs m (i + 1) (t + gap k + 60 + k / 8 % 512) := by rw [stGen, hk]; rfl
    have hbig : (i + 1) * 40 ≤ 1099511627776 := Nat.le_trans (Nat.mul_le_mul_right 40 (Nat.succ_le_succ hi7)) (by decide)
    rw [DC_loop, hgen]
    generalize hK : DC pE 64 (.loop c28_L2) = K
    generalize hlh_ : lh = lh_ at *
    have hS := fun fr lh sh h2 h8 h9 h10 hO hO9 => loop_fix2 (S0 lim cc hcc hlim k (.i .i64 (t + gap k)) (.i .i64 (t + gap k + 60 + k / 8 % 512)) ((getO lh_ 9).g + 1) fr lh sh h2 h8 h9 h10 hO hO9)
    rcases hs with ⟨h0, h5, hc⟩ | ⟨g, wm, h5, hO5, hc, hpos⟩
    · subst hc
      simp only [and_7, and_511, shr_3, frL_presM, Nat.reduceShiftRight, Nat.reduceMod, DC_seq, DC_skip, DC_exit, DC_region, DC_block, p_cond, isB_b, isT_b, andThen_nrm, outOf_nrm, outOf_ext, map_ite, kv_some, ks_some, ka_some, kc_some, e_nil, o_mv, o_alloc, p_bin, p_build, buildV, p_fa, faV_ptr, p_ia, iaV_sl, p_ld, ldV_vp, ldV_L, ldE_cells, p_st, stV_L, stB_box, p_app, appW, slC_sl, appV_nil, notS_nilsl, p_bsl, bslV, p_call, setD, rd_t, rd_c, get_same, get_ne, getO_same, getO_ne, fzW_froz1, fzW_isl, fzWL_nil, fzWL_cons, fzV_aggK, bslW, froz_i, froz1_i, fzV_froz, fzL_nil, fzL_cons, islV_cells, ups_nil, ups_L, cells_agg, cells_i, noTup_agg, noTup_i, splice, part_t, part_f, fills, repl, Nat.reduceAdd, List.all_nil, decide_true, bin_add, bin_rem, bin_lss, Option.bind_some, Option.map_some, Option.map_none, List.map_cons, List.map_nil, List.all_cons, List.all_nil, List.length_cons, List.length_nil, List.drop_zero, List.append_nil, List.nil_append, List.cons_append, List.getElem?_cons_zero, List.getElem?_cons_succ, List.take_succ_cons, List.take_zero, List.zip_cons_cons, List.zip_nil_left, Bool.and_self, if_true, if_false, ne_eq, not_false_eq_true, and_self, Nat.zero_add, Nat.add_zero, Nat.mul_one, Nat.one_mul, Nat.zero_mul, Nat.reduceAdd, Nat.reduceLT, Nat.reduceLeDiff, Nat.reduceEqDiff, decide_true, Nat.le_refl, Int.reduceEq, c28_L2, h1, h2, h5, h6, h7, hat, hat1, dc66, hl.froz, e1, hlt, w1, w2, w3, w4, w5, b1, b2, b3, gap_get, List.getElem?_drop, hO, roomy, (hS _ _ _ _ _ _ _ _ _).1, (hS _ _ _ _ _ _ _ _ _).2.1, (hS _ _ _ _ _ _ _ _ _).2.2.1, (hS _ _ _ _ _ _ _ _ _).2.2.2.2, c28_L1_w]
      rw [← hK]
      refine ex2_mono (S1 l lim cc xs hl hcc hlim sh m (i + 1) (t + gap k + 60 + k / 8 % 512) ([] ++ stC (stOf t k)) _ _ hm' hb1 hb2 ?_ ?_ ?_ ?_ ?_ ?_) (fun fr' lh' ho => ?_)
      · simp only [frL_presM, Nat.reduceShiftRight, Nat.reduceMod, get_ne, ne_eq, not_false_eq_true, Nat.reduceEqDiff, h1, c28_L1_w]
      · simp only [frL_presM, Nat.reduceShiftRight, Nat.reduceMod, get_ne, ne_eq, not_false_eq_true, Nat.reduceEqDiff, h2, c28_L1_w]
      · simp only [frL_presM, Nat.reduceShiftRight, Nat.reduceMod, get_same, get_ne, ne_eq, not_false_eq_true, Nat.reduceEqDiff, c28_L1_w]
      · simp only [get_same]
      · simp only [get_same, get_ne, getO_same, getO_ne, ne_eq, not_false_eq_true, Nat.reduceEqDiff, h2, hO, (hS _ _ _ _ _ _ _ _ _).2.2.2.1]
      · refine Or.inr ⟨(getO lh_ 62).g + 1, 0, ?_, ?_, ?_, by omega⟩
        · simp only [Int.cast_ofNat_Int, get_same, get_ne, ne_eq, not_false_eq_true, Nat.zero_add, Nat.add_zero, Nat.reduceEqDiff, h0]
        · simp only [getO_same, List.nil_append]
          rfl
        · simp [stC, h0]
      · rw [show i + (m + 1) = i + 1 + m by omega, List.flatMap_cons]
        exact ho
    · have hc' : i * 3 = cs.length := hc.symm
      simp only [and_7, and_511, shr_3, frL_presM, Nat.reduceShiftRight, Nat.reduceMod, DC_seq, DC_skip, DC_exit, DC_region, DC_block, p_cond, isB_b, isT_b, andThen_nrm, outOf_nrm, outOf_ext, map_ite, kv_some, ks_some, ka_some, kc_some, e_nil, o_mv, o_alloc, p_bin, p_build, buildV, p_fa, faV_ptr, p_ia, iaV_sl, p_ld, ldV_vp, ldV_L, ldE_cells, p_st, stV_L, stB_box, p_app, appW, slC_sl, appE_cells, appV_isl, notS_isl, p_bsl, bslV, p_call, setD, rd_t, rd_c, get_same, get_ne, getO_same, getO_ne, fzW_froz1, fzW_isl, fzWL_nil, fzWL_cons, fzV_aggK, bslW, froz_i, froz1_i, fzV_froz, fzL_nil, fzL_cons, islV_cells, ups_nil, ups_L, cells_agg, cells_i, noTup_agg, noTup_i, splice, part_t, part_f, fills, repl, Nat.reduceAdd, List.all_nil, decide_true, bin_add, bin_rem, bin_lss, Option.bind_some, Option.map_some, Option.map_none, List.map_cons, List.map_nil, List.all_cons, List.all_nil, List.length_cons, List.length_nil, List.drop_zero, List.append_nil, List.nil_append, List.cons_append, List.getElem?_cons_zero, List.getElem?_cons_succ, List.take_succ_cons, List.take_zero, List.zip_cons_cons, List.zip_nil_left, Bool.and_self, if_true, if_false, ne_eq, not_false_eq_true, and_self, Nat.zero_add, Nat.add_zero, Nat.mul_one, Nat.one_mul, Nat.zero_mul, Nat.reduceAdd, Nat.reduceLT, Nat.reduceLeDiff, Nat.reduceEqDiff, decide_true, Nat.le_refl, Int.reduceEq, c28_L2, h1, h2, h5, h6, h7, hat, hat1, dc66, hl.froz, e1, hlt, w1, w2, w3, w4, w5, b1, b2, b3, gap_get, List.getElem?_drop, hO, hO5, hc', hbig, roomy, (hS _ _ _ _ _ _ _ _ _).1, (hS _ _ _ _ _ _ _ _ _).2.1, (hS _ _ _ _ _ _ _ _ _).2.2.1, (hS _ _ _ _ _ _ _ _ _).2.2.2.2, c28_L1_w]
      rw [← hK]
      refine ex2_mono (S1 l lim cc xs hl hcc hlim sh m (i + 1) (t + gap k + 60 + k / 8 % 512) (cs ++ stC (stOf t k)) _ _ hm' hb1 hb2 ?_ ?_ ?_ ?_ ?_ ?_) (fun fr' lh' ho => ?_)
      · simp only [frL_presM, Nat.reduceShiftRight, Nat.reduceMod, get_ne, ne_eq, not_false_eq_true, Nat.reduceEqDiff, h1, c28_L1_w]
      · simp only [frL_presM, Nat.reduceShiftRight, Nat.reduceMod, get_ne, ne_eq, not_false_eq_true, Nat.reduceEqDiff, h2, c28_L1_w]
      · simp only [frL_presM, Nat.reduceShiftRight, Nat.reduceMod, get_same, get_ne, ne_eq, not_false_eq_true, Nat.reduceEqDiff, c28_L1_w]
      · simp only [get_same]
      · simp only [get_same, get_ne, getO_same, getO_ne, ne_eq, not_false_eq_true, Nat.reduceEqDiff, h2, hO, (hS _ _ _ _ _ _ _ _ _).2.2.2.1]
      · refine Or.inr ⟨g + 1, wm, ?_, ?_, ?_, by omega⟩
        · simp only [get_same, get_ne, ne_eq, not_false_eq_true, Nat.reduceEqDiff]
        · simp only [getO_same]
          rfl
        · simp [stC, hc]; omega
      · rw [show i + (m + 1) = i + 1 + m by omega, List.flatMap_cons, ← List.append_assoc]
        exact ho
def outT (n : Nat) (cs : List T) : T := if n = 0 then .nilsl else .sl cs n false
theorem outT_isl {n : Nat} {cs : List T} (h : n = 0 → cs = []) : IsSl (outT n cs) n cs := by
  unfold outT
  by_cases hn : n = 0
  · rw [if_pos hn]; exact Or.inl ⟨rfl, hn, h hn⟩
  · rw [if_neg hn]; exact Or.inr ⟨false, rfl⟩
theorem OutS.ansO {lh : Tri Ent} {v : T} {k sz n : Nat} {cs : List T} (sh : List Ent) (h : OutS lh v k sz n cs) : ansO lh sh 0 [v] = some (outT n cs, sh) := by
  rcases h with ⟨h0, h1, h2⟩ | ⟨g, wm, h1, h2, h3, h4⟩
  · subst h0 h1 h2; rfl
  · subst h1
    unfold outT
    rw [if_neg (by omega)]
    exact ansO_isl h2 h3 (by omega)
def stAll (xs : List Int) : List Sti := stGen xs (atV xs 0 % 7).toNat 0 12960360
theorem OutS.ansT {lh : Tri Ent} {v : T} {k sz n : Nat} {cs : List T} (sh : List Ent) (h : OutS lh v k sz n cs) : ansV lh sh true [v] = some (outT n cs, sh) := by
  rw [ansV_gen]
  rcases h with ⟨h0, h1, h2⟩ | ⟨g, wm, h1, h2, h3, h4⟩
  · subst h0 h1 h2; rfl
  · subst h1
    rw [fzV_isl, h2, islV_cells, if_pos ⟨rfl, by omega⟩]
    have e : (cs.drop 0).take (n * sz) = cs := by rw [List.drop_zero, ← h3]; exact List.take_length
    rw [e]
    unfold outT
    rw [if_neg (by omega)]
    rfl
theorem stS_ev (sh : List Ent) (l lim : T) (cc : List T) (xs : List Int) (hl : IsSl l xs.length (ints xs)) (hcc : cc[11]? = some lim) (hlim : lenI lim = some (.i .i64 2)) :
    DCall pE 28 [.agg cc, l] sh = some (outT (stAll xs).length ((stAll xs).flatMap stC), sh) := by
  rw [p_fun fn28 (by simp [c28])]
  have h0 : 0 ≤ atV xs 0 % 7 := by omega
  have hS := fun fr lh sh h1 h2 (h5 : getF fr 5 = .nilsl) h6 (h7 : getF fr 7 = .i .i64 0) hO => loop_fix2 (S1 l lim cc xs hl hcc hlim sh (atV xs 0 % 7).toNat 0 12960360 [] fr lh (by omega) (by omega) (by omega) h1 h2 h6 h7 hO (Or.inl ⟨rfl, h5, rfl⟩))
  have hlen : 0 + (atV xs 0 % 7).toNat = (stAll xs).length := by unfold stAll; rw [stGen_len]; omega
  rw [hlen] at hS
  have e2 : [] ++ List.flatMap stC (stGen xs (atV xs 0 % 7).toNat 0 12960360) = (stAll xs).flatMap stC := rfl
  rw [e2] at hS
  have hA := fun fr lh sh h1 h2 h5 h6 h7 hO => OutS.ansT (sh := sh) (hS fr lh sh h1 h2 h5 h6 h7 hO).2
  simp only [DC_seq, DC_ret, DC_region, DC_block, andThen_nrm, outOf_ext, endR_ret, e_nil, o_mv, o_box, rd_t, rd_c, get_same, get_ne, getO_same, getO_nil, noEnt, resV, frOf, frFrom, cells_agg, noTup_agg, Option.bind_some, Option.map_some, if_true, reduceCtorEq, ne_eq, not_false_eq_true, Nat.zero_add, Nat.reduceLT, Nat.reduceEqDiff, c28, (hS _ _ _ _ _ _ _ _ _).1, hA]
end Go.Proofs.YtfenhjpkomldcaaGreat
