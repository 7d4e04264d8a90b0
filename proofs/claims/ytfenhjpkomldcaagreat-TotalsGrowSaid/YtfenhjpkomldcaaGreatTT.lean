/- TotalsGrow returns true at every input. Conditions: none beyond the theorems' own. -/
import Derived.Test.YtfenhjpkomldcaaGreatTS
import Derived.Test.YtfenhjpkomldcaaGreatKC
set_option maxRecDepth 100000
set_option linter.unusedSimpArgs false
set_option linter.unusedVariables false
namespace Go.Proofs.YtfenhjpkomldcaaGreat
open Go Go.Ev
theorem tm8 (x : Int) (N : Nat) (h : 0 < N) (hx : 0 ≤ x) : ∃ a : Nat, a < N ∧ x.tmod (N : Int) = (a : Int) := by
  have h1 : x.tmod (N : Int) = x % (N : Int) := tmod_nn hx
  have h2 := Int.emod_nonneg x (show (N : Int) ≠ 0 by omega)
  have h3 := Int.emod_lt_of_pos x (show (0 : Int) < N by omega)
  exact ⟨(x % (N : Int)).toNat, by omega, by rw [h1]; omega⟩
theorem stC_flen (ss : List Sti) : (ss.flatMap stC).length = ss.length * 3 := by
  induction ss with
  | nil => rfl
  | cons s ss ih => rw [List.flatMap_cons, List.length_append, ih, List.length_cons]; show 3 + _ = _; omega
theorem lim_ok (n : Int) : conOk (n % 1024) (1 + n / 8 % 4) (n / 4 % 1024) (1 + n / 16 % 4) (1 + n / 256 % 4 % (1 + n / 64 % 4)) (1 + n / 64 % 4) := by
  have h1 : 0 ≤ n / 64 % 4 := by omega
  have h2 : n / 64 % 4 ≤ 3 := by omega
  generalize n / 64 % 4 = d at *
  have h3 := Int.emod_nonneg (n / 256 % 4) (show 1 + d ≠ 0 by omega)
  have h4 := Int.emod_lt_of_pos (n / 256 % 4) (show 0 < 1 + d by omega)
  generalize n / 256 % 4 % (1 + d) = c at *
  unfold conOk
  refine ⟨⟨?_, ?_⟩, ⟨?_, ?_⟩, ⟨?_, ?_⟩, ⟨?_, ?_⟩, ⟨?_, ?_⟩, ?_, ?_⟩ <;> omega
theorem us_len (z : Zn) (ss : List Sti) (hg : Good ss) (m0 d0 m1 d1 : Int) (h0 : d0 ≤ 31) (h1 : d1 ≤ 31) : (usOf z ss m0 d0 m1 d1).length < 1000000 := by
  have hl := hg.len
  have := br_len z ss (by omega) (lims2 m0 d0 m1 d1) 0 (by intro l hl; simp only [lims2, List.mem_cons, List.not_mem_nil, or_false] at hl; rcases hl with rfl | rfl <;> assumption)
  unfold usOf
  rw [List.length_map]
  simp only [lims2, List.length_cons, List.length_nil] at this ⊢
  omega
theorem os_len (z : Zn) (ss : List Sti) (cnt : Int) (D : Nat) : (osOf z ss cnt D).length < 1000000 := by
  have := off_len (busyOf z ss 8999 7) D cnt 8999 7 0
  unfold osOf
  rw [List.length_map]
  omega
theorem us_in (z : Zn) {ss' ss : List Sti} (hs : ss'.Sublist ss) (hg : Good ss) (m0 d0 m1 d1 : Int) (h0 : 0 ≤ d0) (h1 : 0 ≤ d1) : ∀ x ∈ usOf z ss' m0 d0 m1 d1, x ∈ usOf z ss m0 d0 m1 d1 := by
  intro x hx
  unfold usOf at hx ⊢
  obtain ⟨p, hp, rfl⟩ := List.mem_map.1 hx
  exact List.mem_map.2 ⟨p, br_mono z hs hg (lims2 m0 d0 m1 d1) 0 (Nat.le_refl 2) (by intro l hl; simp only [lims2, List.mem_cons, List.not_mem_nil, or_false] at hl; rcases hl with rfl | rfl <;> assumption) p hp, rfl⟩
theorem os_in (z : Zn) {ss' ss : List Sti} (hs : ss'.Sublist ss) (cnt : Int) (D : Nat) : ∀ x ∈ osOf z ss' cnt D, x ∈ osOf z ss cnt D := by
  intro x hx
  unfold osOf at hx ⊢
  obtain ⟨p, hp, rfl⟩ := List.mem_map.1 hx
  exact List.mem_map.2 ⟨p, off_mono (busy_mono z hs 8999 7) D cnt 8999 7 0 p hp, rfl⟩
theorem grow_nil (la : T) (n k : Int) (cc : List T) (z : Zn) (hcl : cc.length = 14) (hcf : cc.all froz1 = true) (hla : froz la = true)
    (hlim : DCall pE 27 [.i .i64 n] [] = some (.agg cc, [])) (hzone : DCall pE 33 [.i .i64 k] [] = some (z.t, [])) (hst : DCall pE 28 [.agg cc, la] [] = some (.nilsl, [])) :
    ∃ s, DCall pE 11 [la, .i .i64 n, .i .i64 k] [] = some (.b true, s) := by
  obtain ⟨sk, hknown⟩ := known_ev
  have hkn : ∀ fr lh sh, doCall pE (DCall pE) ⟨fr, lh, sh⟩ 32 [] = some (.b true, ⟨fr, lh, sh⟩) := by intro fr lh sh; rw [dc32 rfl, hknown]; rfl
  rw [p_fun fn11 (by simp [c11])]
  have htk : cc.take 14 = cc := by rw [← hcl]; exact List.take_length
  have hsp := splice_full [T.i IntKind.i64 0, T.i IntKind.i64 0, T.i IntKind.i64 0, T.i IntKind.i64 0, T.i IntKind.i64 0, T.i IntKind.i64 0, T.i IntKind.i64 0, T.nilsl, T.nilsl, T.nilsl, T.nilsl, T.nilsl, T.nilsl, T.i IntKind.i64 0] cc (by rw [hcl]; rfl)
  unfold Zn.t at hzone
  simp (maxDischargeDepth := 6) only [Int.cast_ofNat_Int, and_1, and_3, and_7, and_15, and_31, and_63, and_127, and_255, and_511, and_1023, and_65535, shr_0, shr_2, shr_3, shr_4, shr_5, shr_6, shr_8, shr_14, shr_16, shr_18, shr_20, shr_21, shr_24, shr_25, wr64, wru64, Int.reduceAdd, Int.reduceSub, Int.reduceMul, Int.reduceNeg, frL_presM, Nat.reduceShiftRight, Nat.reduceMod, implies_true, forall_const, DC_seq, DC_skip, DC_exit, DC_ret, DC_region, DC_calm, DC_block, p_cond, isB_b, isT_b, andThen_nrm, andThen_ext, andThen_ret, andThen_none, andThen_ite, outOf_nrm, outOf_ret, outOf_ext, outOf_none, outOf_ite, endR_ite, endR_ret, endR_nrm, map_ite, bind_ite, kv_some, kv_none, kv_ite, kn_some, kn_none, ks_some, ks_none, ks_ite, ka_some, ka_none, ka_ite, kc_some, kc_none, kc_ite, e_nil, o_mv, o_mkfn, o_lenC, o_alloc, o_box, o_mkmap, p_pick, pickV_b, p_bin, p_eq, p_un, p_cvi, cviV_i, p_build, buildV, p_slS, slSV, p_fa, faV_vp, faV_ptr, p_fld, fldV_agg, p_ia, iaV_sl, iaV_isl, p_iaA, iaAV, p_ixS, ixSV_s, p_ixA, ixAV, p_ext, extV_tup, p_lenS, lenSV_s, p_lenV, lenI_nil, lenI_sl, lenI_isl, lenT_nil, lenT_sl, lenT_isl, p_mm, mmV, minmax, p_nck, p_nckN, nckV_vp, nckV_ptr, nckV_fn, p_ld, ldV_vp, ldV_L, ldV_S, ldE_cells, p_mksl, mkslV, mkOk, p_st, stV_L, stB_box, stB_row, p_app, appW, slC_nil, slC_sl, slC_s, slC_isl, slE_cells, appE_cells, appV_nil, appV_sl, appV_isl, notS_nilsl, notS_sl, notS_isl, notS_mp, p_slV, slVV, subV, p_lk, lkV, p_mu, muV, p_bsl, bslW_froz, bslV, p_call, p_callN, p_callv, doCallV, g_passT, g_passF, g_skipT, g_skipF, g_undefT, g_skipNT, g_skipNF, setD, rd_t, rd_c, get_same, get_ne, getO_same, getO_ne, getO_nil, get_nil, noEnt, resV, ansV_gen, ansV_gen2, fzW_froz1, fzW_isl, fzW_mp, fzWL_nil, fzWL_cons, fzV_aggK, fzV_tupK, fzW_aggK, bslW, froz_b, froz_i, froz_s, froz_nilsl, froz_sl, froz_nilptr, froz_vp, froz_nilmp, froz_vm, froz_nilfn, froz_agg, froz_tup, froz_fn, froz1_b, froz1_i, froz1_s, froz1_nilsl, froz1_sl, froz1_nilptr, froz1_vp, froz1_nilmp, froz1_vm, froz1_nilfn, frOf, frFrom, fzV_froz, fzL_nil, fzL_cons, fzV_isl, islV_cells, fzV_mp, mpV_map, ups_nil, ups_L, cells_agg, cells_b, cells_i, cells_s, cells_nilsl, cells_sl, cells_isl, cells_ptr, cells_vp, cells_nilptr, cells_mp, cells_vm, cells_nilmp, noTup_agg, noTup_b, noTup_i, noTup_s, noTup_nilsl, noTup_sl, noTup_isl, noTup_ptr, noTup_vp, noTup_nilptr, noTup_mp, noTup_vm, noTup_nilmp, splice, part_t, part_f, fills, repl, optVal, asNat_i, scalar_b, scalar_i, scalar_s, scalar_nilsl, scalar_sl, scalar_agg, backD, calmOp, Nat.reduceAdd, List.all_nil, Nat.lt_irrefl, decide_true, bin_add, bin_sub, bin_mul, bin_quo, bin_rem, bin_eql, bin_neq, bin_lss, bin_leq, bin_gtr, bin_geq, bin_seql, bin_sneq, bin_slss, bin_sadd, un_not, un_neg, Option.bind_some, Option.bind_none, Option.map_some, Option.map_none, Option.getD_some, List.map_cons, List.map_nil, List.all_cons, List.all_nil, List.any_nil, List.length_cons, List.length_nil, List.drop_zero, List.append_nil, List.nil_append, List.cons_append, List.getElem?_cons_zero, List.getElem?_cons_succ, List.drop_succ_cons, List.take_succ_cons, List.take_zero, List.zip_cons_cons, List.zip_nil_left, Bool.and_true, Bool.true_and, Bool.and_false, Bool.false_and, Bool.and_self, Bool.not_true, Bool.not_false, Bool.not_eq_true', Bool.false_eq_true, if_true, if_false, ite_self, reduceCtorEq, reduceIte, ne_eq, not_false_eq_true, not_true_eq_false, and_self, and_true, true_and, and_false, false_and, Nat.zero_add, Nat.add_zero, Nat.mul_one, Nat.one_mul, Nat.zero_mul, Nat.mul_zero, Nat.reduceAdd, Nat.reduceMul, Nat.reduceSub, Nat.reduceLT, Nat.reduceLeDiff, Nat.reduceEqDiff, decide_true, decide_false, decide_eq_true_eq, decide_eq_false_iff_not, Nat.le_refl, Nat.zero_le, Int.toNat_natCast, Int.reduceToNat, Int.reduceLE, Int.reduceLT, Int.natCast_nonneg, Int.reduceEq, DC_drawsK, d_nil, d_pure, pure_mv, pure_pick, pure_bin, pure_eq, pure_un, pure_cvi, pure_mkfn, pure_build, pure_slS, pure_fa, pure_fld, pure_ia, pure_iaA, pure_ixS, pure_ixA, pure_ext, pure_lenS, pure_lenV, pure_lenC, pure_mm, pure_nck, pure_slV, d_ld, ldLog_vp, ldLog_ptr, d_bsl, d_alloc, d_mksl, d_st, isLp_ptr, d_lk, d_mu, d_app0, noU_nil, noU_cons, lkLog_mp, lkLog_vm, isLm_mp, d_gpassT, d_gpassF, d_gskipT, d_gskipF, d_gundef, ke_some, ke_none, ke_ite, meets_nil, meets_cons, apart_no_l, apart_no_r, apart_rr, apart_ff, apart1_nil, apart1_cons, has_nil, has_cons, getL, Bool.or_false, Bool.or_true, Bool.or_self, c11, c11_R1, c11_R2, c11_R3, hlim, hzone, hst, dc27, dc33, dc28, shT_f1, hcl, hcf, htk, hsp, hla, hkn]
  exact ⟨_, rfl⟩
theorem grow_ev (la : T) (xs : List Int) (hl : IsSl la xs.length (ints xs)) (n k : Int) : ∃ s, DCall pE 11 [la, .i .i64 n, .i .i64 k] [] = some (.b true, s) := by
  have hlim := limits_ev con3 n
  have hok := lim_ok n
  generalize n % 1024 = m0, 1 + n / 8 % 4 = d0, n / 4 % 1024 = m1, 1 + n / 16 % 4 = d1, 1 + n / 256 % 4 % (1 + n / 64 % 4) = cnt at *
  obtain ⟨D, hD⟩ : ∃ D : Nat, 1 + n / 64 % 4 = (D : Int) := ⟨(1 + n / 64 % 4).toNat, by omega⟩
  rw [hD] at hlim hok
  have hz := znOf_ok k
  have hzone := zone_ev k
  generalize znOf k = z at *
  have hcl : (conC m0 d0 m1 d1 cnt (D : Int)).length = 14 := rfl
  have hcf : (conC m0 d0 m1 d1 cnt (D : Int)).all froz1 = true := rfl
  have hst := stints_ev la (.sl (limC m0 d0 m1 d1) 2 false) (conC m0 d0 m1 d1 cnt (D : Int)) xs hl rfl rfl
  have hg := all_good xs
  generalize stAll xs = ss at *
  by_cases h0 : ss = []
  · subst h0
    exact grow_nil la n k _ z hcl hcf hl.froz hlim hzone hst
  have hpos : 0 < ss.length := List.length_pos_iff.2 h0
  obtain ⟨a, ha, hat⟩ := tm8 (k / 65536 % 8) ss.length hpos (by omega)
  have hsplit : ss = ss.take a ++ ss[a] :: ss.drop (a + 1) := by rw [List.getElem_cons_drop, List.take_append_drop]
  have hsub : (ss.take a ++ ss.drop (a + 1)).Sublist ss := by
    conv => rhs; rw [hsplit]
    exact List.Sublist.append (List.Sublist.refl _) (List.sublist_cons_self _ _)
  have hg' := hg.sub hsub
  have hla : (ss.take a).length = a := by rw [List.length_take]; omega
  have hlb : (ss.drop (a + 1)).length = ss.length - (a + 1) := List.length_drop
  have hAt : (ss.flatMap stC).take (a * 3) = (ss.take a).flatMap stC := by
    have e : ss.flatMap stC = (ss.take a).flatMap stC ++ (ss.drop a).flatMap stC := by rw [← List.flatMap_append, List.take_append_drop]
    rw [e]
    exact List.take_left' (by rw [stC_flen, hla])
  have hBt : ((ss.flatMap stC).drop ((a + 1) * 3)).take ((ss.length - (a + 1)) * 3) = (ss.drop (a + 1)).flatMap stC := by
    have e : ss.flatMap stC = (ss.take (a + 1)).flatMap stC ++ (ss.drop (a + 1)).flatMap stC := by rw [← List.flatMap_append, List.take_append_drop]
    have e2 : (ss.take (a + 1)).length = a + 1 := by rw [List.length_take]; omega
    rw [e, List.drop_left' (by rw [stC_flen, e2]), ← hlb, ← stC_flen]
    exact List.take_length
  have hst' : DCall pE 28 [.agg (conC m0 d0 m1 d1 cnt (D : Int)), la] [] = some (.sl (ss.flatMap stC) ss.length false, []) := by
    rw [hst]; unfold outT; rw [if_neg (by omega)]
  refine grow_core la n k (conC m0 d0 m1 d1 cnt (D : Int)) (ss.flatMap stC) ((ss.take a).flatMap stC) ((ss.drop (a + 1)).flatMap stC) ss.length a (ss.length - (a + 1)) z
    (usOf z (ss.take a ++ ss.drop (a + 1)) m0 d0 m1 d1) (osOf z (ss.take a ++ ss.drop (a + 1)) cnt D) (usOf z ss m0 d0 m1 d1) (osOf z ss cnt D) hcl hcf (by omega) hg.len (stC_flen ss) hAt hBt
    (by rw [stC_flen, hla]) (by rw [stC_flen, hlb]) (calls4 z hz m0 d0 m1 d1 cnt D hok _ ss (Or.inr ⟨false, rfl⟩) hg) ?_ (us_in z hsub hg _ _ _ _ (by unfold conOk at hok; omega) (by unfold conOk at hok; omega)) (os_in z hsub cnt D)
    ⟨us_len z _ hg' _ _ _ _ (by unfold conOk at hok; omega) (by unfold conOk at hok; omega), us_len z _ hg _ _ _ _ (by unfold conOk at hok; omega) (by unfold conOk at hok; omega), os_len z _ cnt D, os_len z _ cnt D⟩ hl.froz hlim hzone hst' hat
  intro v hv
  refine calls4 z hz m0 d0 m1 d1 cnt D hok v _ ?_ hg'
  rw [List.flatMap_append, List.length_append, hla, hlb]
  exact hv
end Go.Proofs.YtfenhjpkomldcaaGreat
