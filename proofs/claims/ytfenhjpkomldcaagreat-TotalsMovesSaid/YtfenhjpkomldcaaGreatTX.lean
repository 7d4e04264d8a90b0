/- TotalsMoves: the moved stints, and its walk. Conditions: the theorems' own. -/
import Derived.Test.YtfenhjpkomldcaaGreatTW
import Derived.Test.YtfenhjpkomldcaaGreatKC
import Derived.Test.YtfenhjpkomldcaaGreatKnown2
set_option maxRecDepth 100000
set_option maxHeartbeats 4000000
set_option linter.unusedSimpArgs false
set_option linter.unusedVariables false
namespace Go.Proofs.YtfenhjpkomldcaaGreat
open Go Go.Ev
theorem isl_f1 {v : T} {n : Nat} {cs : List T} (h : IsSl v n cs) : froz1 v = true := by
  rcases h with ⟨rfl, _⟩ | ⟨ex, rfl⟩ <;> rfl
theorem isl_one {v : T} {n : Nat} {cs : List T} (h : IsSl v n cs) : cellsOf v = [v] ∧ noTup v = true := by
  rcases h with ⟨rfl, _⟩ | ⟨ex, rfl⟩ <;> exact ⟨rfl, rfl⟩
theorem OutS.fz {lh : Tri Ent} {v : T} {k sz n : Nat} {cs : List T} (sh : List Ent) (h : OutS lh v k sz n cs) : ∃ us, fzV lh sh false v = some (outT n cs, us) := by
  rcases h with ⟨h0, h1, h2⟩ | ⟨g, wm, h1, h2, h3, h4⟩
  · subst h0 h1 h2; exact ⟨[], rfl⟩
  · subst h1
    refine ⟨[(.L, k, ⟨g, .cells cs cs.length false⟩)], ?_⟩
    rw [fzV_isl, h2, islV_cells, if_pos ⟨rfl, by omega⟩]
    have e : (cs.drop 0).take (n * sz) = cs := by rw [List.drop_zero, ← h3]; exact List.take_length
    rw [e]
    rw [outT_pos (by omega)]
theorem mv_w (s : Sti) (d : Int) (h : 0 ≤ s.a ∧ s.a < s.b ∧ s.b ≤ 52596000) (hd : 0 ≤ d ∧ d ≤ 64) : wr .i64 (1440 * d) = 1440 * d ∧ wr .i64 (s.a + 1440 * d) = s.a + 1440 * d ∧ wr .i64 (s.b + 1440 * d) = s.b + 1440 * d := by
  refine ⟨wr64 ?_, wr64 ?_, wr64 ?_⟩ <;> omega
theorem mv_step (d : Int) (ss : List Sti) (k : Nat) (h : k < ss.length) : ((ss.take (k + 1)).map (Sti.mv d)).flatMap stC = ((ss.take k).map (Sti.mv d)).flatMap stC ++ [.i .i64 (ss[k].a + 1440 * d), .i .i64 (ss[k].b + 1440 * d), ss[k].v] := by
  rw [List.take_succ_eq_append_getElem h, List.map_append, List.flatMap_append]
  rfl
theorem mv_plen (d : Int) (ss : List Sti) (k : Nat) (h : k ≤ ss.length) : (((ss.take k).map (Sti.mv d)).flatMap stC).length = k * 3 := by
  rw [stC_len]; simp; omega
theorem ML3 (l : T) (ss : List Sti) (hl : IsSl l ss.length (ss.flatMap stC)) (hg : Good ss) (d : Int) (hd : 0 ≤ d ∧ d ≤ 64) (sh : List Ent) : ∀ (m k : Nat) (fr : Fr) (lh : Tri Ent), ss.length - k = m → k ≤ ss.length →
    getF fr 9 = l → getF fr 10 = .i .i64 d → getF fr 12 = .i .i64 (k : Int) → OutS lh (getF fr 11) 68 3 k (((ss.take k).map (Sti.mv d)).flatMap stC) →
    ∃ fr' lh', DC pE 158 (.loop c12_L3) ⟨fr, lh, sh⟩ = some (.ext 0, ⟨fr', lh', sh⟩) ∧ (OutS lh' (getF fr' 11) 68 3 ss.length ((ss.map (Sti.mv d)).flatMap stC) ∧ ∀ j, j ≠ 68 → getO lh' j = getO lh j)
  | 0, k, fr, lh, hm, hk, h9, h10, h12, hO => by
    have : k = ss.length := by omega
    subst this
    rw [List.take_length] at hO
    rw [DC_loop]
    generalize hK : DC pE 158 (.loop c12_L3) = K
    simp only [DC_seq, DC_skip, DC_exit, DC_region, p_cond, isB_b, isT_b, andThen_nrm, andThen_ext, kv_some, e_nil, o_mv, p_bin, p_lenV, rd_t, get_same, get_ne, bin_lss, Option.map_some, Bool.false_eq_true, if_false, ne_eq, not_false_eq_true, Nat.reduceLT, Nat.reduceEqDiff, decide_false, c12_L3, h9, h12, hl.lenI, Int.lt_irrefl]
    exact ⟨_, _, rfl, by simpa only [Int.cast_ofNat_Int, and_1, and_3, and_7, and_15, and_31, and_63, and_127, and_255, and_511, and_1023, and_65535, shr_0, shr_2, shr_3, shr_4, shr_5, shr_6, shr_8, shr_14, shr_16, shr_18, shr_20, shr_21, shr_24, shr_25, wr64, wru64, Int.reduceAdd, Int.reduceSub, Int.reduceMul, Int.reduceNeg, frL_presM, Nat.reduceShiftRight, Nat.reduceMod, implies_true, forall_const, DC_seq, DC_skip, DC_exit, DC_ret, DC_region, DC_calm, DC_block, p_cond, isB_b, isT_b, andThen_nrm, andThen_ext, andThen_ret, andThen_none, andThen_ite, outOf_nrm, outOf_ret, outOf_ext, outOf_none, outOf_ite, endR_ite, endR_ret, endR_nrm, endO_ite, endO_ret, endO_nrm, map_ite, bind_ite, kv_some, kv_none, kv_ite, kn_some, kn_none, ks_some, ks_none, ks_ite, ka_some, ka_none, ka_ite, kc_some, kc_none, kc_ite, e_nil, o_mv, o_mkfn, o_lenC, o_alloc, o_box, o_mkmap, p_pick, pickV_b, p_bin, p_eq, p_un, p_cvi, cviV_i, p_build, buildV, p_slS, slSV, p_fa, faV_vp, faV_ptr, p_fld, fldV_agg, p_ia, iaV_sl, iaV_isl, p_iaA, iaAV, p_ixS, ixSV_s, p_ixA, ixAV, p_ext, extV_tup, p_lenS, lenSV_s, p_lenV, lenI_nil, lenI_sl, lenI_isl, lenT_nil, lenT_sl, lenT_isl, p_mm, mmV, minmax, p_nck, p_nckN, nckV_vp, nckV_ptr, nckV_fn, p_ld, ldV_vp, ldV_L, ldV_S, ldE_cells, p_mksl, mkslV, mkOk, p_st, stV_L, stB_box, stB_row, p_app, appW, slC_nil, slC_sl, slC_s, slC_isl, slE_cells, appE_cells, appV_nil, appV_sl, appV_isl, notS_nilsl, notS_sl, notS_isl, notS_mp, p_slV, slVV, subV, p_lk, lkV, p_mu, muV, p_bsl, bslW_froz, bslV, p_call, p_callN, p_callv, doCallV, g_passT, g_passF, g_skipT, g_skipF, g_undefT, g_skipNT, g_skipNF, setD, rd_t, rd_c, get_same, get_ne, getO_same, getO_ne, getO_nil, get_nil, noEnt, resV, ansV_gen, ansV_gen2, fzW_froz1, fzW_isl, fzW_mp, fzWL_nil, fzWL_cons, fzV_aggK, fzV_tupK, fzW_aggK, bslW, froz_b, froz_i, froz_s, froz_nilsl, froz_sl, froz_nilptr, froz_vp, froz_nilmp, froz_vm, froz_nilfn, froz_agg, froz_tup, froz_fn, froz1_b, froz1_i, froz1_s, froz1_nilsl, froz1_sl, froz1_nilptr, froz1_vp, froz1_nilmp, froz1_vm, froz1_nilfn, frOf, frFrom, fzV_froz, fzL_nil, fzL_cons, fzV_isl, islV_cells, fzV_mp, mpV_map, ups_nil, ups_L, cells_agg, cells_b, cells_i, cells_s, cells_nilsl, cells_sl, cells_isl, cells_ptr, cells_vp, cells_nilptr, cells_mp, cells_vm, cells_nilmp, noTup_agg, noTup_b, noTup_i, noTup_s, noTup_nilsl, noTup_sl, noTup_isl, noTup_ptr, noTup_vp, noTup_nilptr, noTup_mp, noTup_vm, noTup_nilmp, splice, part_t, part_f, fills, repl, optVal, asNat_i, scalar_b, scalar_i, scalar_s, scalar_nilsl, scalar_sl, scalar_agg, backD, calmOp, Nat.reduceAdd, List.all_nil, Nat.lt_irrefl, decide_true, bin_add, bin_sub, bin_mul, bin_quo, bin_rem, bin_eql, bin_neq, bin_lss, bin_leq, bin_gtr, bin_geq, bin_seql, bin_sneq, bin_slss, bin_sadd, un_not, un_neg, Option.bind_some, Option.bind_none, Option.map_some, Option.map_none, Option.getD_some, List.map_cons, List.map_nil, List.all_cons, List.all_nil, List.any_nil, List.length_cons, List.length_nil, List.drop_zero, List.append_nil, List.nil_append, List.cons_append, List.getElem?_cons_zero, List.getElem?_cons_succ, List.drop_succ_cons, List.take_succ_cons, List.take_zero, List.zip_cons_cons, List.zip_nil_left, Bool.and_true, Bool.true_and, Bool.and_false, Bool.false_and, Bool.and_self, Bool.not_true, Bool.not_false, Bool.not_eq_true', Bool.false_eq_true, if_true, if_false, ite_self, reduceCtorEq, reduceIte, ne_eq, not_false_eq_true, not_true_eq_false, and_self, and_true, true_and, and_false, false_and, Nat.zero_add, Nat.add_zero, Nat.mul_one, Nat.one_mul, Nat.zero_mul, Nat.mul_zero, Nat.reduceAdd, Nat.reduceMul, Nat.reduceSub, Nat.reduceLT, Nat.reduceLeDiff, Nat.reduceEqDiff, decide_true, decide_false, decide_eq_true_eq, decide_eq_false_iff_not, Nat.le_refl, Nat.zero_le, Int.toNat_natCast, Int.reduceToNat, Int.reduceLE, Int.reduceLT, Int.natCast_nonneg, Int.reduceEq] using hO, fun _ _ => rfl⟩
  | m + 1, k, fr, lh, hm, hk, h9, h10, h12, hO => by
    have hlt : k < ss.length := by omega
    have hlt' : (k : Int) < ss.length := by omega
    have h6 := hg.len
    have hia : ∀ kk, iaV l (.i kk (k : Int)) 3 = some (.vp (.i .i64 ss[k].a :: .i .i64 ss[k].b :: ss[k].v :: (ss.drop (k + 1)).flatMap stC)) := fun kk => by
      rw [hl.ia (sz := 3) (stC_len ss) hlt, flat_drop (f := stC) (fun _ => rfl) ss k hlt]; rfl
    have hw : wr .i64 ((k : Int) + 1) = ((k + 1 : Nat) : Int) := by rw [wr64 (by omega)]; omega
    obtain ⟨a1, a2, a3, a4, a5, a6⟩ := hg.all ss[k] (List.getElem_mem hlt)
    obtain ⟨w1, w2, w3⟩ := mv_w ss[k] d ⟨a1, a2, a3⟩ hd
    have hf1 := isl_f1 a6.1
    obtain ⟨hc1, hc2⟩ := isl_one a6.1
    have hstep := mv_step d ss k hlt
    have hpl := mv_plen d ss k hk
    generalize hC : ((ss.take k).map (Sti.mv d)).flatMap stC = C at hO hstep hpl
    have hbig : (k + 1) * 40 ≤ 1099511627776 := by omega
    rcases hO with ⟨e0, e1, e2⟩ | ⟨g, wm, e1, e2, e3, e4⟩
    · subst e0 e2
      have hl0 : (0 : Int) < ss.length := hlt'
      have hia0 : ∀ kk, iaV l (.i kk 0) 3 = _ := hia
      have hw0 : wr .i64 1 = 1 := wr64 (by omega)
      rw [DC_loop]
      generalize hK : DC pE 158 (.loop c12_L3) = K
      simp only [Int.cast_ofNat_Int, Int.reduceAdd, DC_seq, DC_skip, DC_exit, DC_region, DC_block, p_cond, isB_b, isT_b, andThen_nrm, outOf_nrm, map_ite, kv_some, ka_some, kc_some, e_nil, o_mv, p_bin, p_build, buildV, p_fa, faV_vp, p_ia, p_lenV, p_ld, ldV_vp, p_app, appW, slC_sl, appV_nil, notS_nilsl, p_bsl, bslV, setD, rd_t, rd_c, get_same, get_ne, bslW, froz_agg, froz1_i, fzV_froz, fzL_nil, fzL_cons, ups_nil, cells_agg, cells_i, noTup_agg, noTup_i, splice, part_f, fills, repl, Nat.reduceAdd, List.all_nil, decide_true, bin_add, bin_mul, bin_lss, Option.bind_some, Option.map_some, Option.map_none, List.map_cons, List.map_nil, List.all_cons, List.all_nil, List.length_cons, List.length_nil, List.drop_zero, List.append_nil, List.nil_append, List.cons_append, List.getElem?_cons_zero, List.drop_succ_cons, List.zip_cons_cons, List.zip_nil_left, Bool.and_self, if_true, ne_eq, not_false_eq_true, Nat.zero_add, Nat.one_mul, Nat.zero_mul, Nat.reduceAdd, Nat.reduceLT, Nat.reduceLeDiff, Nat.reduceEqDiff, decide_true, Nat.le_refl, Nat.zero_le, DC_drawsK, d_nil, d_pure, pure_mv, pure_bin, pure_build, pure_fa, pure_ia, d_ld, ldLog_vp, d_bsl, d_app0, noU_nil, noU_cons, ke_some, meets_nil, meets_cons, apart_ff, apart1_nil, getL, c12_L3, h9, h10, h12, e1, hl.lenI, w1, w2, w3, hf1, roomy, hc1, hc2, hl0, hia0, hw0, Int.cast_ofNat_Int]
      rw [← hK]
      refine ex2_mono (ML3 l ss hl hg d hd sh m (0 + 1) _ _ (by omega) (by omega) ?_ ?_ ?_ ?_) (fun fr' lh' h => ?_)
      · simp only [get_ne, ne_eq, not_false_eq_true, Nat.reduceEqDiff, h9]
      · simp only [get_ne, ne_eq, not_false_eq_true, Nat.reduceEqDiff, h10]
      · simp only [Int.cast_ofNat_Int, get_same, Nat.zero_add]
      · rw [hstep]
        refine Or.inr ⟨(getO lh 68).g + 1, 0, ?_, ?_, rfl, by omega⟩
        · simp only [get_same, get_ne, ne_eq, not_false_eq_true, Nat.zero_add, Nat.reduceEqDiff]
        · simp only [getO_same, List.nil_append]
      · exact ⟨h.1, fun j hj => by rw [h.2 j hj, getO_ne _ _ hj]⟩
    · rw [DC_loop]
      generalize hK : DC pE 158 (.loop c12_L3) = K
      simp only [DC_seq, DC_skip, DC_exit, DC_region, DC_block, p_cond, isB_b, isT_b, andThen_nrm, outOf_nrm, map_ite, kv_some, ka_some, kc_some, e_nil, o_mv, p_bin, p_build, buildV, p_fa, faV_vp, p_ia, p_lenV, p_ld, ldV_vp, p_app, appW, slC_sl, appE_cells, appV_isl, notS_isl, p_bsl, bslV, setD, rd_t, rd_c, get_same, get_ne, bslW, froz_agg, froz1_i, fzV_froz, fzL_nil, fzL_cons, ups_nil, cells_agg, cells_i, noTup_agg, noTup_i, splice, part_f, fills, repl, Nat.reduceAdd, List.all_nil, decide_true, bin_add, bin_mul, bin_lss, Option.bind_some, Option.map_some, Option.map_none, List.map_cons, List.map_nil, List.all_cons, List.all_nil, List.length_cons, List.length_nil, List.drop_zero, List.append_nil, List.nil_append, List.cons_append, List.getElem?_cons_zero, List.drop_succ_cons, List.zip_cons_cons, List.zip_nil_left, Bool.and_self, if_true, ne_eq, not_false_eq_true, and_self, Nat.zero_add, Nat.one_mul, Nat.zero_mul, Nat.reduceAdd, Nat.reduceLT, Nat.reduceLeDiff, Nat.reduceEqDiff, decide_true, Nat.le_refl, Nat.zero_le, DC_drawsK, d_nil, d_pure, pure_mv, pure_bin, pure_build, pure_fa, pure_ia, d_ld, ldLog_vp, d_bsl, d_app0, noU_nil, noU_cons, ke_some, meets_nil, meets_cons, apart_ff, apart1_nil, getL, c12_L3, h9, h10, h12, e1, e2, hpl, hl.lenI, hlt', hia, hw, w1, w2, w3, hf1, roomy, hbig, hc1, hc2]
      rw [← hK]
      refine ex2_mono (ML3 l ss hl hg d hd sh m (k + 1) _ _ (by omega) (by omega) ?_ ?_ ?_ ?_) (fun fr' lh' h => ?_)
      · simp only [get_ne, ne_eq, not_false_eq_true, Nat.reduceEqDiff, h9]
      · simp only [get_ne, ne_eq, not_false_eq_true, Nat.reduceEqDiff, h10]
      · simp only [get_same]
      · rw [hstep]
        refine Or.inr ⟨g + 1, wm, ?_, ?_, by rw [List.length_append, hpl]; show k * 3 + 3 = _; omega, by omega⟩
        · simp only [get_same, get_ne, ne_eq, not_false_eq_true, Nat.reduceEqDiff]
        · simp only [getO_same]
      · exact ⟨h.1, fun j hj => by rw [h.2 j hj, getO_ne _ _ hj]⟩
/-- What a call gives whose first component is the caller's. -/
def ownV (z n : Nat) : T := if n = 0 then .nilsl else .isl .L z 1 0 n 3
def ownH (z n : Nat) (cs : List T) (lh : Tri Ent) : Tri Ent := if n = 0 then lh else setO lh z ⟨1, .cells cs 0 false⟩
theorem ownH_ne {z n j : Nat} {cs : List T} {lh : Tri Ent} (h : j ≠ z) : getO (ownH z n cs lh) j = getO lh j := by
  unfold ownH
  split
  · rfl
  · exact getO_ne _ _ h
theorem own_S {z n : Nat} {cs : List T} {lh : Tri Ent} (hL : cs.length = n * 3) : OwS (ownH z n cs lh) (ownV z n) z n cs := by
  unfold ownH ownV
  by_cases h : n = 0
  · rw [if_pos h, if_pos h]
    refine Or.inl ⟨h, rfl, ?_⟩
    subst h
    exact List.length_eq_zero_iff.1 (by omega)
  · rw [if_neg h, if_neg h]
    exact Or.inr ⟨h, rfl, getO_same _ _ _, hL⟩
theorem own_call {f : Nat} (hdp : ∀ (z : Nat) (fr : Fr) (lh : Tri Ent) (sh : List Ent) (args : List T), doCall pE (DCall pE) z ⟨fr, lh, sh⟩ f args = (fzL lh sh false args).bind fun q => (DCall pE f q.1 []).bind fun r => ownRes z 0 r.1 ⟨fr, lh, sh⟩ q.2)
    {args args' : List T} {n : Nat} {cs : List T} (hD : DCall pE f args' [] = some (.tup [outT n cs, .i .i64 0], [])) (hs : cs.all scal1 = true) (hL : cs.length = n * 3) {lh : Tri Ent} {sh : List Ent} {us : List Up} (hz : fzL lh sh false args = some (args', us)) {z : Nat} (hO : getO lh z = noEnt) (fr : Fr) :
    doCall pE (DCall pE) z ⟨fr, lh, sh⟩ f args = some (.tup [ownV z n, .i .i64 0], ⟨fr, ownH z n cs lh, sh⟩) := by
  rw [hdp, hz, Option.bind_some]
  show (DCall pE f args' []).bind _ = _
  rw [hD, Option.bind_some]
  unfold ownV ownH
  by_cases h : n = 0
  · rw [if_pos h, if_pos h, outT_zero h]
    exact ownRes_nil2
  · rw [if_neg h, if_neg h, outT_pos h]
    have := own_out2 hs hL h z fr lh sh us
    rw [hO] at this
    exact this
theorem bC_scal (bs : List Br) : (bs.flatMap bC).all scal1 = true := all3 (fun _ => rfl) bs
theorem fzL_m {z : Zn} {cc : List T} {v m : T} {lh : Tri Ent} {sh : List Ent} {us : List Up} {rest : List T} (hcf : cc.all froz1 = true) (hm : fzV lh sh false v = some (m, us)) (hr : rest.all froz = true) :
    ∃ us', fzL lh sh false (.agg [.s [108, 111, 99, 97, 108], .i .i64 z.off, shT z.sh] :: .agg cc :: v :: rest) = some (.agg [.s [108, 111, 99, 97, 108], .i .i64 z.off, shT z.sh] :: .agg cc :: m :: rest, us') := by
  have h1 : froz (.agg [.s [108, 111, 99, 97, 108], .i .i64 z.off, shT z.sh]) = true := by
    simp only [froz_agg, List.all_cons, List.all_nil, froz1_s, froz1_i, shT_f1]; rfl
  have h2 : froz (.agg cc) = true := by rw [froz_agg]; exact hcf
  refine ⟨us ++ [], ?_⟩
  rw [fzL_cons, fzV_froz h1, Option.bind_some, fzL_cons, fzV_froz h2, Option.bind_some, fzL_cons, hm, Option.bind_some, fzL_froz hr]
  rfl
end Go.Proofs.YtfenhjpkomldcaaGreat
