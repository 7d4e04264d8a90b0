/- The reference's Limits. Conditions: the theorems' own. -/
import Derived.Test.YtfenhjpkomldcaaGreatRM
import Derived.Test.YtfenhjpkomldcaaGreatVF
set_option maxRecDepth 100000
set_option maxHeartbeats 4000000
set_option linter.unusedSimpArgs false
set_option linter.unusedVariables false
namespace Go.Proofs.YtfenhjpkomldcaaGreat
open Go Go.Ev
def lowD (z : Zn) (ss : List Sti) : Int := lowL (ss.map fun s => z.day s.a) (((ss.map fun s => z.day s.a)[0]?).getD 0)
def highD (z : Zn) (ss : List Sti) : Int := highL (ss.map fun s => z.day s.a) (((ss.map fun s => z.day s.a)[0]?).getD 0)
def refAll (z : Zn) (ss : List Sti) : Nat → List Lm → List (Int × Int)
  | _, [] => []
  | i, x :: xs => refB x.d x.most i (dvs z ss i) (highD z ss - lowD z ss + x.d).toNat (lowD z ss - x.d + 1) ++ refAll z ss (i + 1) xs
theorem lowL_b (a b : Int) : ∀ (ds : List Int) (x : Int), (∀ d ∈ ds, a ≤ d ∧ d ≤ b) → a ≤ x ∧ x ≤ b → a ≤ lowL ds x ∧ lowL ds x ≤ x
  | [], x, _, hx => by simp [lowL]; exact hx.1
  | d :: ds, x, h, hx => by
    have hd := h d List.mem_cons_self
    have := lowL_b a b ds (if d < x then d else x) (fun e he => h e (List.mem_cons_of_mem _ he)) (by split <;> omega)
    show a ≤ lowL ds (if d < x then d else x) ∧ lowL ds (if d < x then d else x) ≤ x
    split at this <;> rename_i hc <;> simp only [hc, if_true, if_false] <;> omega
theorem highL_b (a b : Int) : ∀ (ds : List Int) (x : Int), (∀ d ∈ ds, a ≤ d ∧ d ≤ b) → a ≤ x ∧ x ≤ b → x ≤ highL ds x ∧ highL ds x ≤ b
  | [], x, _, hx => by simp [highL]; exact hx.2
  | d :: ds, x, h, hx => by
    have hd := h d List.mem_cons_self
    have := highL_b a b ds (if d > x then d else x) (fun e he => h e (List.mem_cons_of_mem _ he)) (by split <;> omega)
    show x ≤ highL ds (if d > x then d else x) ∧ highL ds (if d > x then d else x) ≤ b
    split at this <;> rename_i hc <;> simp only [hc, if_true, if_false] <;> omega
section
variable (z : Zn) (hz : z.ok) (l v : T) (cc : List T) (ss : List Sti) (lims : List Lm) (hl : IsSl l ss.length (ss.flatMap stC)) (hf : Fit ss lims.length) (hcc : cc[11]? = some v) (hv : IsSl v lims.length (lims.flatMap lmC)) (hli : ∀ x ∈ lims, 1 ≤ x.d ∧ x.d ≤ 31)
include hz hl hf hcc hv hli
theorem Q3 (lh : Tri Ent) (sh : List Ent) (g wm : Nat) (hO43 : getO lh 43 = ⟨g, .cells (ints (ss.map fun s => z.day s.a)) wm false⟩) : ∀ (m k : Nat) (a b : Int) (fr : Fr), ss.length - k = m → k ≤ ss.length →
    getF fr 2 = l → getF fr 10 = .isl .L 43 g 0 ss.length 1 → getF fr 13 = .i .i64 a → getF fr 14 = .i .i64 b → getF fr 15 = .i .i64 (k : Int) →
    ∃ fr', DC pE 149 (.loop c35_L3) ⟨fr, lh, sh⟩ = some (.ext 4, ⟨fr', lh, sh⟩) ∧ (getF fr' 13 = .i .i64 (lowL ((ss.map fun s => z.day s.a).drop k) a) ∧ getF fr' 14 = .i .i64 (highL ((ss.map fun s => z.day s.a).drop k) b))
  | 0, k, a, b, fr, hm, hk, h2, h10, h13, h14, h15 => by
    have _ := hz
    have _ := hf
    have _ := hcc
    have _ := hv
    have _ := hli
    have : k = ss.length := by omega
    subst this
    have e : (ss.map fun s => z.day s.a).drop ss.length = [] := List.drop_of_length_le (by simp)
    rw [e, DC_loop]
    generalize hK : DC pE 149 (.loop c35_L3) = K
    simp only [DC_seq, DC_skip, DC_exit, DC_region, p_cond, isB_b, isT_b, andThen_nrm, andThen_ext, kv_some, e_nil, o_mv, p_bin, p_lenV, rd_t, get_same, get_ne, bin_lss, Option.map_some, Bool.false_eq_true, if_false, ne_eq, not_false_eq_true, Nat.reduceLT, Nat.reduceEqDiff, decide_false, c35_L3, h2, h15, hl.lenI, Int.lt_irrefl]
    refine ⟨_, rfl, ?_, ?_⟩
    · simp only [get_ne, ne_eq, not_false_eq_true, Nat.reduceEqDiff, h13]; rfl
    · simp only [get_ne, ne_eq, not_false_eq_true, Nat.reduceEqDiff, h14]; rfl
  | m + 1, k, a, b, fr, hm, hk, h2, h10, h13, h14, h15 => by
    have hlt : k < ss.length := by omega
    have hlt' : (k : Int) < ss.length := by omega
    have hn := hf.len
    have hle : k + 1 ≤ ss.length := hlt
    have hlen : (ints (ss.map fun s => z.day s.a)).length = ss.length := by rw [ints_len, List.length_map]
    have hg := day_get z ss k hlt
    have hw : wr .i64 ((k : Int) + 1) = ((k + 1 : Nat) : Int) := by rw [wr64 (by omega)]; omega
    have hdr : (ss.map fun s => z.day s.a).drop k = z.day ss[k].a :: (ss.map fun s => z.day s.a).drop (k + 1) := by
      rw [List.drop_eq_getElem_cons (by simpa using hlt)]; simp
    rw [hdr, DC_loop]
    generalize hK : DC pE 149 (.loop c35_L3) = K
    simp only [DC_seq, DC_skip, DC_exit, DC_region, DC_calm, DC_block, p_cond, isB_b, isT_b, andThen_nrm, outOf_nrm, kv_some, e_nil, o_mv, p_bin, p_ia, iaV_isl, p_lenV, p_mm, mmV, minmax, p_ld, ldV_L, ldE_cells, rd_t, rd_c, get_same, get_ne, part_f, backD, calmOp, Nat.reduceAdd, List.all_nil, decide_true, bin_add, bin_lss, Option.map_some, List.map_cons, List.map_nil, List.all_cons, List.all_nil, Bool.and_self, Bool.false_eq_true, if_true, if_false, ne_eq, not_false_eq_true, and_self, Nat.zero_add, Nat.mul_one, Nat.reduceAdd, Nat.reduceLT, Nat.reduceEqDiff, decide_true, Int.toNat_natCast, Int.natCast_nonneg, c35_L3, h2, h10, h13, h14, h15, hl.lenI, hlt, hlt', hO43, hg, hw]
    rw [← hK]
    refine Q3 lh sh g wm hO43 m (k + 1) (if z.day ss[k].a < a then z.day ss[k].a else a) (if z.day ss[k].a > b then z.day ss[k].a else b) _ (by omega) (by omega) ?_ ?_ ?_ ?_ ?_
    all_goals first | (simp only [get_same, get_ne, ne_eq, not_false_eq_true, Nat.reduceEqDiff, h2, h10]; done) | (simp only [Int.cast_ofNat_Int, and_1, and_3, and_7, and_15, and_31, and_63, and_127, and_255, and_511, and_1023, and_65535, shr_0, shr_2, shr_3, shr_4, shr_5, shr_6, shr_8, shr_14, shr_16, shr_18, shr_20, shr_21, shr_24, shr_25, wr64, wru64, Int.reduceAdd, Int.reduceSub, Int.reduceMul, Int.reduceNeg, frL_presM, Nat.reduceShiftRight, Nat.reduceMod, implies_true, forall_const, DC_seq, DC_skip, DC_exit, DC_ret, DC_region, DC_calm, DC_block, p_cond, isB_b, isT_b, andThen_nrm, andThen_ext, andThen_ret, andThen_none, andThen_ite, outOf_nrm, outOf_ret, outOf_ext, outOf_none, outOf_ite, endR_ite, endR_ret, endR_nrm, endO_ite, endO_ret, endO_nrm, map_ite, bind_ite, kv_some, kv_none, kv_ite, kn_some, kn_none, ks_some, ks_none, ks_ite, ka_some, ka_none, ka_ite, kc_some, kc_none, kc_ite, e_nil, o_mv, o_mkfn, o_lenC, o_alloc, o_box, o_mkmap, p_pick, pickV_b, p_bin, p_eq, p_un, p_cvi, cviV_i, p_build, buildV, p_slS, slSV, p_fa, faV_vp, faV_ptr, p_fld, fldV_agg, p_ia, iaV_sl, iaV_isl, p_iaA, iaAV, p_ixS, ixSV_s, p_ixA, ixAV, p_ext, extV_tup, p_lenS, lenSV_s, p_lenV, lenI_nil, lenI_sl, lenI_isl, lenT_nil, lenT_sl, lenT_isl, p_mm, mmV, minmax, p_nck, p_nckN, nckV_vp, nckV_ptr, nckV_fn, p_ld, ldV_vp, ldV_L, ldV_S, ldE_cells, p_mksl, mkslV, mkOk, p_st, stV_L, stB_box, stB_row, p_app, appW, slC_nil, slC_sl, slC_s, slC_isl, slE_cells, appE_cells, appV_nil, appV_sl, appV_isl, notS_nilsl, notS_sl, notS_isl, notS_mp, p_slV, slVV, subV, p_lk, lkV, p_mu, muV, p_bsl, bslW_froz, bslV, p_call, p_callN, p_callv, doCallV, g_passT, g_passF, g_skipT, g_skipF, g_undefT, g_skipNT, g_skipNF, setD, rd_t, rd_c, get_same, get_ne, getO_same, getO_ne, getO_nil, get_nil, noEnt, resV, ansV_gen, ansV_gen2, fzW_froz1, fzW_isl, fzW_mp, fzWL_nil, fzWL_cons, fzV_aggK, fzV_tupK, fzW_aggK, bslW, froz_b, froz_i, froz_s, froz_nilsl, froz_sl, froz_nilptr, froz_vp, froz_nilmp, froz_vm, froz_nilfn, froz_agg, froz_tup, froz_fn, froz1_b, froz1_i, froz1_s, froz1_nilsl, froz1_sl, froz1_nilptr, froz1_vp, froz1_nilmp, froz1_vm, froz1_nilfn, frOf, frFrom, fzV_froz, fzL_nil, fzL_cons, fzV_isl, islV_cells, fzV_mp, mpV_map, ups_nil, ups_L, cells_agg, cells_b, cells_i, cells_s, cells_nilsl, cells_sl, cells_isl, cells_ptr, cells_vp, cells_nilptr, cells_mp, cells_vm, cells_nilmp, noTup_agg, noTup_b, noTup_i, noTup_s, noTup_nilsl, noTup_sl, noTup_isl, noTup_ptr, noTup_vp, noTup_nilptr, noTup_mp, noTup_vm, noTup_nilmp, splice, part_t, part_f, fills, repl, optVal, asNat_i, scalar_b, scalar_i, scalar_s, scalar_nilsl, scalar_sl, scalar_agg, backD, calmOp, Nat.reduceAdd, List.all_nil, Nat.lt_irrefl, decide_true, bin_add, bin_sub, bin_mul, bin_quo, bin_rem, bin_eql, bin_neq, bin_lss, bin_leq, bin_gtr, bin_geq, bin_seql, bin_sneq, bin_slss, bin_sadd, un_not, un_neg, Option.bind_some, Option.bind_none, Option.map_some, Option.map_none, Option.getD_some, List.map_cons, List.map_nil, List.all_cons, List.all_nil, List.any_nil, List.length_cons, List.length_nil, List.drop_zero, List.append_nil, List.nil_append, List.cons_append, List.getElem?_cons_zero, List.getElem?_cons_succ, List.drop_succ_cons, List.take_succ_cons, List.take_zero, List.zip_cons_cons, List.zip_nil_left, Bool.and_true, Bool.true_and, Bool.and_false, Bool.false_and, Bool.and_self, Bool.not_true, Bool.not_false, Bool.not_eq_true', Bool.false_eq_true, if_true, if_false, ite_self, reduceCtorEq, reduceIte, ne_eq, not_false_eq_true, not_true_eq_false, and_self, and_true, true_and, and_false, false_and, Nat.zero_add, Nat.add_zero, Nat.mul_one, Nat.one_mul, Nat.zero_mul, Nat.mul_zero, Nat.reduceAdd, Nat.reduceMul, Nat.reduceSub, Nat.reduceLT, Nat.reduceLeDiff, Nat.reduceEqDiff, decide_true, decide_false, decide_eq_true_eq, decide_eq_false_iff_not, Nat.le_refl, Nat.zero_le, Int.toNat_natCast, Int.reduceToNat, Int.reduceLE, Int.reduceLT, Int.natCast_nonneg, Int.reduceEq]; rfl)
theorem Q5 (sh : List Ent) : ∀ (m k : Nat) (fr : Fr) (lh : Tri Ent), ss.length - k = m → k ≤ ss.length →
    getF fr 2 = l → getF fr 3 = .ptr .L 3 1 0 → getF fr 11 = .i .i64 (k : Int) → getO lh 3 = ⟨1, .cells [.s [108, 111, 99, 97, 108], .i .i64 z.off, shT z.sh] 0 true⟩ → OutS lh (getF fr 10) 43 1 k (ints ((ss.map fun s => z.day s.a).take k)) →
    ∃ fr' lh', DC pE 149 (.loop c35_L5) ⟨fr, lh, sh⟩ = some (.ext 0, ⟨fr', lh', sh⟩) ∧ (OutS lh' (getF fr' 10) 43 1 ss.length (ints (ss.map fun s => z.day s.a)) ∧ ∀ j, j ≠ 43 → getO lh' j = getO lh j)
  | 0, k, fr, lh, hm, hk, h2, h3, h11, hO3, hO => by
    have _ := hz
    have _ := hf
    have _ := hcc
    have _ := hv
    have _ := hli
    have : k = ss.length := by omega
    subst this
    rw [List.take_of_length_le (by simp)] at hO
    rw [DC_loop]
    generalize hK : DC pE 149 (.loop c35_L5) = K
    simp only [DC_seq, DC_skip, DC_exit, DC_region, p_cond, isB_b, isT_b, andThen_nrm, andThen_ext, kv_some, e_nil, o_mv, p_bin, p_lenV, rd_t, get_same, get_ne, bin_lss, Option.map_some, Bool.false_eq_true, if_false, ne_eq, not_false_eq_true, Nat.reduceLT, Nat.reduceEqDiff, decide_false, c35_L5, h2, h11, hl.lenI, Int.lt_irrefl]
    exact ⟨_, _, rfl, by simpa only [Int.cast_ofNat_Int, and_1, and_3, and_7, and_15, and_31, and_63, and_127, and_255, and_511, and_1023, and_65535, shr_0, shr_2, shr_3, shr_4, shr_5, shr_6, shr_8, shr_14, shr_16, shr_18, shr_20, shr_21, shr_24, shr_25, wr64, wru64, Int.reduceAdd, Int.reduceSub, Int.reduceMul, Int.reduceNeg, frL_presM, Nat.reduceShiftRight, Nat.reduceMod, implies_true, forall_const, DC_seq, DC_skip, DC_exit, DC_ret, DC_region, DC_calm, DC_block, p_cond, isB_b, isT_b, andThen_nrm, andThen_ext, andThen_ret, andThen_none, andThen_ite, outOf_nrm, outOf_ret, outOf_ext, outOf_none, outOf_ite, endR_ite, endR_ret, endR_nrm, endO_ite, endO_ret, endO_nrm, map_ite, bind_ite, kv_some, kv_none, kv_ite, kn_some, kn_none, ks_some, ks_none, ks_ite, ka_some, ka_none, ka_ite, kc_some, kc_none, kc_ite, e_nil, o_mv, o_mkfn, o_lenC, o_alloc, o_box, o_mkmap, p_pick, pickV_b, p_bin, p_eq, p_un, p_cvi, cviV_i, p_build, buildV, p_slS, slSV, p_fa, faV_vp, faV_ptr, p_fld, fldV_agg, p_ia, iaV_sl, iaV_isl, p_iaA, iaAV, p_ixS, ixSV_s, p_ixA, ixAV, p_ext, extV_tup, p_lenS, lenSV_s, p_lenV, lenI_nil, lenI_sl, lenI_isl, lenT_nil, lenT_sl, lenT_isl, p_mm, mmV, minmax, p_nck, p_nckN, nckV_vp, nckV_ptr, nckV_fn, p_ld, ldV_vp, ldV_L, ldV_S, ldE_cells, p_mksl, mkslV, mkOk, p_st, stV_L, stB_box, stB_row, p_app, appW, slC_nil, slC_sl, slC_s, slC_isl, slE_cells, appE_cells, appV_nil, appV_sl, appV_isl, notS_nilsl, notS_sl, notS_isl, notS_mp, p_slV, slVV, subV, p_lk, lkV, p_mu, muV, p_bsl, bslW_froz, bslV, p_call, p_callN, p_callv, doCallV, g_passT, g_passF, g_skipT, g_skipF, g_undefT, g_skipNT, g_skipNF, setD, rd_t, rd_c, get_same, get_ne, getO_same, getO_ne, getO_nil, get_nil, noEnt, resV, ansV_gen, ansV_gen2, fzW_froz1, fzW_isl, fzW_mp, fzWL_nil, fzWL_cons, fzV_aggK, fzV_tupK, fzW_aggK, bslW, froz_b, froz_i, froz_s, froz_nilsl, froz_sl, froz_nilptr, froz_vp, froz_nilmp, froz_vm, froz_nilfn, froz_agg, froz_tup, froz_fn, froz1_b, froz1_i, froz1_s, froz1_nilsl, froz1_sl, froz1_nilptr, froz1_vp, froz1_nilmp, froz1_vm, froz1_nilfn, frOf, frFrom, fzV_froz, fzL_nil, fzL_cons, fzV_isl, islV_cells, fzV_mp, mpV_map, ups_nil, ups_L, cells_agg, cells_b, cells_i, cells_s, cells_nilsl, cells_sl, cells_isl, cells_ptr, cells_vp, cells_nilptr, cells_mp, cells_vm, cells_nilmp, noTup_agg, noTup_b, noTup_i, noTup_s, noTup_nilsl, noTup_sl, noTup_isl, noTup_ptr, noTup_vp, noTup_nilptr, noTup_mp, noTup_vm, noTup_nilmp, splice, part_t, part_f, fills, repl, optVal, asNat_i, scalar_b, scalar_i, scalar_s, scalar_nilsl, scalar_sl, scalar_agg, backD, calmOp, Nat.reduceAdd, List.all_nil, Nat.lt_irrefl, decide_true, bin_add, bin_sub, bin_mul, bin_quo, bin_rem, bin_eql, bin_neq, bin_lss, bin_leq, bin_gtr, bin_geq, bin_seql, bin_sneq, bin_slss, bin_sadd, un_not, un_neg, Option.bind_some, Option.bind_none, Option.map_some, Option.map_none, Option.getD_some, List.map_cons, List.map_nil, List.all_cons, List.all_nil, List.any_nil, List.length_cons, List.length_nil, List.drop_zero, List.append_nil, List.nil_append, List.cons_append, List.getElem?_cons_zero, List.getElem?_cons_succ, List.drop_succ_cons, List.take_succ_cons, List.take_zero, List.zip_cons_cons, List.zip_nil_left, Bool.and_true, Bool.true_and, Bool.and_false, Bool.false_and, Bool.and_self, Bool.not_true, Bool.not_false, Bool.not_eq_true', Bool.false_eq_true, if_true, if_false, ite_self, reduceCtorEq, reduceIte, ne_eq, not_false_eq_true, not_true_eq_false, and_self, and_true, true_and, and_false, false_and, Nat.zero_add, Nat.add_zero, Nat.mul_one, Nat.one_mul, Nat.zero_mul, Nat.mul_zero, Nat.reduceAdd, Nat.reduceMul, Nat.reduceSub, Nat.reduceLT, Nat.reduceLeDiff, Nat.reduceEqDiff, decide_true, decide_false, decide_eq_true_eq, decide_eq_false_iff_not, Nat.le_refl, Nat.zero_le, Int.toNat_natCast, Int.reduceToNat, Int.reduceLE, Int.reduceLT, Int.natCast_nonneg, Int.reduceEq] using hO, fun _ _ => rfl⟩
  | m + 1, k, fr, lh, hm, hk, h2, h3, h11, hO3, hO => by
    have hlt : k < ss.length := by omega
    have hlt' : (k : Int) < ss.length := by omega
    have hn := hf.len
    have hia : ∀ kk, iaV l (.i kk (k : Int)) 3 = some (.vp (.i .i64 ss[k].a :: .i .i64 ss[k].b :: ss[k].v :: (ss.drop (k + 1)).flatMap stC)) := fun kk => by
      rw [hl.ia (sz := 3) (stC_len ss) hlt, flat_drop (f := stC) (fun _ => rfl) ss k hlt]; rfl
    have hw : wr .i64 ((k : Int) + 1) = ((k + 1 : Nat) : Int) := by rw [wr64 (by omega)]; omega
    obtain ⟨a1, a2, a3⟩ := hf.span ss[k] (List.getElem_mem hlt)
    have hday := rday_ev hz a1 (show ss[k].a < 52596000 by omega)
    unfold Zn.t at hday
    have hstep : ints ((ss.map fun s => z.day s.a).take (k + 1)) = ints ((ss.map fun s => z.day s.a).take k) ++ [.i .i64 (z.day ss[k].a)] := by
      rw [List.take_succ_eq_append_getElem (by simpa using hlt)]
      simp [ints]
    have hpl : (ints ((ss.map fun s => z.day s.a).take k)).length = k := by rw [ints_len]; simp; omega
    generalize hC : ints ((ss.map fun s => z.day s.a).take k) = C at hO hstep hpl
    have hbig : (k + 1) * 8 ≤ 1099511627776 := by omega
    rcases hO with ⟨e0, e1, e2⟩ | ⟨g, wm, e1, e2, e3, e4⟩
    · subst e0 e2
      have hl0 : (0 : Int) < ss.length := hlt'
      have hia0 : ∀ kk, iaV l (.i kk 0) 3 = _ := hia
      have hw0 : wr .i64 1 = 1 := wr64 (by omega)
      rw [DC_loop]
      generalize hK : DC pE 149 (.loop c35_L5) = K
      simp only [Int.cast_ofNat_Int, Int.reduceAdd, DC_seq, DC_skip, DC_exit, DC_region, DC_block, p_cond, isB_b, isT_b, andThen_nrm, outOf_nrm, map_ite, kv_some, ka_some, kc_some, e_nil, o_mv, p_bin, p_fa, faV_vp, p_ia, p_lenV, p_ld, ldV_vp, ldV_L, ldE_cells, p_app, appW, slC_sl, appV_nil, notS_nilsl, p_bsl, bslV, p_call, setD, rd_t, rd_c, get_same, get_ne, bslW, froz_i, froz_agg, froz1_i, froz1_s, fzV_froz, fzL_nil, fzL_cons, ups_nil, cells_i, noTup_i, splice, part_t, part_f, fills, repl, Nat.reduceAdd, List.all_nil, decide_true, bin_add, bin_lss, Option.bind_some, Option.map_some, Option.map_none, List.map_cons, List.map_nil, List.all_cons, List.all_nil, List.length_cons, List.length_nil, List.drop_zero, List.append_nil, List.nil_append, List.cons_append, List.getElem?_cons_zero, List.take_succ_cons, List.take_zero, List.zip_cons_cons, List.zip_nil_left, Bool.and_self, Bool.not_false, if_true, ne_eq, not_false_eq_true, Nat.zero_add, Nat.mul_one, Nat.one_mul, Nat.reduceAdd, Nat.reduceLT, Nat.reduceLeDiff, Nat.reduceEqDiff, decide_true, Nat.le_refl, Nat.zero_le, DC_drawsK, d_nil, d_pure, pure_mv, pure_fa, pure_ia, d_ld, ldLog_vp, ldLog_ptr, d_bsl, d_app0, noU_nil, noU_cons, ke_some, meets_nil, meets_cons, apart_ff, apart1_nil, apart1_cons, has_nil, getL, c35_L5, h2, h3, h11, e1, hl.lenI, hl0, hia0, hO3, hday, dc71, dd71, shT_f1, hw0, roomy, Int.cast_ofNat_Int]
      rw [← hK]
      refine ex2_mono (Q5 sh m (0 + 1) _ _ (by omega) (by omega) ?_ ?_ ?_ ?_ ?_) (fun fr' lh' h => ⟨h.1, fun j hj => by rw [h.2 j hj, getO_ne _ _ hj]⟩)
      · simp only [get_ne, ne_eq, not_false_eq_true, Nat.reduceEqDiff, h2]
      · simp only [get_ne, ne_eq, not_false_eq_true, Nat.reduceEqDiff, h3]
      · simp only [Int.cast_ofNat_Int, get_same, Nat.zero_add]
      · simp only [getO_ne, ne_eq, not_false_eq_true, Nat.reduceEqDiff, hO3]
      · rw [hstep]
        refine Or.inr ⟨(getO lh 43).g + 1, 0, ?_, ?_, rfl, by omega⟩
        · simp only [get_same, get_ne, ne_eq, not_false_eq_true, Nat.zero_add, Nat.reduceEqDiff]
        · simp only [getO_same, List.nil_append]
    · rw [Nat.mul_one] at e3
      rw [DC_loop]
      generalize hK : DC pE 149 (.loop c35_L5) = K
      simp only [DC_seq, DC_skip, DC_exit, DC_region, DC_block, p_cond, isB_b, isT_b, andThen_nrm, outOf_nrm, map_ite, kv_some, ka_some, kc_some, e_nil, o_mv, p_bin, p_fa, faV_vp, p_ia, p_lenV, p_ld, ldV_vp, ldV_L, ldE_cells, p_app, appW, slC_sl, appE_cells, appV_isl, notS_isl, p_bsl, bslV, p_call, setD, rd_t, rd_c, get_same, get_ne, bslW, froz_i, froz_agg, froz1_i, froz1_s, fzV_froz, fzL_nil, fzL_cons, ups_nil, cells_i, noTup_i, splice, part_t, part_f, fills, repl, Nat.reduceAdd, List.all_nil, decide_true, bin_add, bin_lss, Option.bind_some, Option.map_some, Option.map_none, List.map_cons, List.map_nil, List.all_cons, List.all_nil, List.length_cons, List.length_nil, List.drop_zero, List.append_nil, List.nil_append, List.cons_append, List.getElem?_cons_zero, List.take_succ_cons, List.take_zero, List.zip_cons_cons, List.zip_nil_left, Bool.and_self, Bool.not_false, if_true, ne_eq, not_false_eq_true, and_self, Nat.zero_add, Nat.mul_one, Nat.reduceAdd, Nat.reduceLT, Nat.reduceEqDiff, decide_true, Nat.le_refl, Nat.zero_le, DC_drawsK, d_nil, d_pure, pure_mv, pure_fa, pure_ia, d_ld, ldLog_vp, ldLog_ptr, d_bsl, d_app0, noU_nil, noU_cons, ke_some, meets_nil, meets_cons, apart_ff, apart1_nil, apart1_cons, has_nil, getL, c35_L5, h2, h3, h11, e1, e2, hpl, hl.lenI, hlt', hia, hO3, hday, dc71, dd71, shT_f1, hw, roomy, hbig]
      rw [← hK]
      refine ex2_mono (Q5 sh m (k + 1) _ _ (by omega) (by omega) ?_ ?_ ?_ ?_ ?_) (fun fr' lh' h => ⟨h.1, fun j hj => by rw [h.2 j hj, getO_ne _ _ hj]⟩)
      · simp only [get_ne, ne_eq, not_false_eq_true, Nat.reduceEqDiff, h2]
      · simp only [get_ne, ne_eq, not_false_eq_true, Nat.reduceEqDiff, h3]
      · simp only [get_same]
      · simp only [getO_ne, ne_eq, not_false_eq_true, Nat.reduceEqDiff, hO3]
      · rw [hstep]
        refine Or.inr ⟨g + 1, wm, ?_, ?_, by rw [List.length_append, hpl]; show k + 1 = (k + 1) * 1; omega, by omega⟩
        · simp only [get_same, get_ne, ne_eq, not_false_eq_true, Nat.reduceEqDiff]
        · simp only [getO_same]
end
end Go.Proofs.YtfenhjpkomldcaaGreat
