/- The breaches of limits, whole. Conditions: none beyond the theorems' own. -/
import Derived.Test.YtfenhjpkomldcaaGreatTI
set_option maxRecDepth 100000
set_option linter.unusedSimpArgs false
set_option linter.unusedVariables false
namespace Go.Proofs.YtfenhjpkomldcaaGreat
open Go Go.Ev
def brC (i : Int) (d : Int) : List T := [.b false, .i .i64 i, .i .i64 d]
theorem OE (v : T) (ks : List Int) (hv : IsSl v ks.length (ints ks)) (hb : ks.length ≤ 1000000) (ps : List (Int × Int)) (most : Int) (i : Int) (nm ms dd : T) (sh : List Ent) (g12 g13 : Nat) : ∀ (m k n : Nat) (cs : List T) (fr : Fr) (lh : Tri Ent), ks.length - k = m → k ≤ ks.length → n + m ≤ 2000000 →
    getF fr 11 = .i .i64 i → getF fr 12 = .ptr .L 12 g12 0 → getF fr 13 = .mp .L 54 g13 → getF fr 90 = v → getF fr 91 = .i .i64 ks.length → getF fr 92 = .i .i64 k →
    getO lh 12 = ⟨g12, .cells [nm, ms, .i .i64 most, dd] 0 true⟩ → getO lh 54 = ⟨g13, .map (kT ps) (vT ps) true⟩ → OutS lh (getF fr 10) 107 3 n cs →
    ∃ fr' lh', DC pE 111 (.loop c69_L1) ⟨fr, lh, sh⟩ = some (.ext 8, ⟨fr', lh', sh⟩) ∧ (OutS lh' (getF fr' 10) 107 3 (n + ((ks.drop k).filter fun d => most < getM ps d).length) (cs ++ ((ks.drop k).filter fun d => most < getM ps d).flatMap (brC i)) ∧ ∀ j, j ≠ 107 → getO lh' j = getO lh j)
  | 0, k, n, cs, fr, lh, hm, hk, hn, h11, h12, h13, h90, h91, h92, hO12, hO54, hs => by
    have : k = ks.length := by omega
    subst this
    rw [DC_loop]
    generalize hK : DC pE 111 (.loop c69_L1) = K
    simp only [DC_seq, DC_skip, DC_exit, DC_region, p_cond, isB_b, isT_b, andThen_nrm, andThen_ext, kv_some, e_nil, p_bin, rd_t, get_same, bin_lss, Option.map_some, Bool.false_eq_true, if_false, ne_eq, Nat.reduceLT, decide_false, c69_L1, h91, h92, Int.lt_irrefl]
    exact ⟨_, _, rfl, by simpa [get_ne] using hs, fun j _ => rfl⟩
  | m + 1, k, n, cs, fr, lh, hm, hk, hn, h11, h12, h13, h90, h91, h92, hO12, hO54, hs => by
    have hlt : k < ks.length := by omega
    have hlt' : (k : Int) < ks.length := by omega
    have hdr : ks.drop k = ks[k] :: ks.drop (k + 1) := List.drop_eq_getElem_cons hlt
    have hia : ∀ kk, iaV v (.i kk (k : Int)) 1 = some (.vp (T.i .i64 ks[k] :: (ints ks).drop (k + 1))) := fun kk => by rw [hv.ia (sz := 1) (by rw [ints_len]; omega) hlt, Nat.mul_one, ints_drop ks k hlt]
    have hw : wr .i64 ((k : Int) + 1) = ((k + 1 : Nat) : Int) := by rw [wr64 (by omega)]; omega
    rw [DC_loop, hdr]
    generalize hK : DC pE 111 (.loop c69_L1) = K
    by_cases h : most < getM ps ks[k]
    · have hbig : (n + 1) * 24 ≤ 1099511627776 := by omega
      have hfl : (ks[k] :: ks.drop (k + 1)).filter (fun d => most < getM ps d) = ks[k] :: (ks.drop (k + 1)).filter fun d => most < getM ps d := List.filter_cons_of_pos (by simpa using h)
      rw [hfl]
      rcases hs with ⟨h0, h10, hc⟩ | ⟨g, wm, h10, hO, hc, hpos⟩
      · subst hc
        simp only [DC_seq, DC_skip, DC_exit, DC_region, DC_block, p_cond, isB_b, isT_b, andThen_nrm, outOf_nrm, map_ite, kv_some, ka_some, kc_some, e_nil, o_mv, p_bin, p_build, buildV, p_fa, faV_ptr, p_ia, p_ld, ldV_vp, ldV_L, ldE_cells, p_app, appW, slC_sl, appV_nil, notS_nilsl, p_lk, lkV, p_bsl, bslV, setD, rd_t, rd_c, get_same, get_ne, bslW, froz_agg, froz1_b, froz1_i, fzV_froz, fzL_nil, fzL_cons, ups_nil, cells_agg, cells_i, noTup_agg, noTup_i, splice, part_f, fills, repl, Nat.reduceAdd, List.all_nil, decide_true, bin_add, bin_lss, bin_gtr, Option.bind_some, Option.map_some, Option.map_none, List.map_cons, List.map_nil, List.all_cons, List.all_nil, List.length_cons, List.length_nil, List.append_nil, List.nil_append, List.getElem?_cons_zero, List.getElem?_cons_succ, List.zip_cons_cons, List.zip_nil_left, Bool.and_self, if_true, ne_eq, not_false_eq_true, Nat.zero_add, Nat.one_mul, Nat.zero_mul, Nat.reduceAdd, Nat.reduceLT, Nat.reduceLeDiff, Nat.reduceEqDiff, decide_true, Nat.le_refl, c69_L1, h10, h11, h12, h13, h90, h91, h92, hlt', hia, hO12, hO54, lkE_map, lkIn_eq, key_i, lk_ev, h, hw, roomy]
        rw [← hK]
        refine ex2_mono (OE v ks hv hb ps most i nm ms dd sh g12 g13 m (k + 1) 1 (brC i ks[k]) _ _ (by omega) (by omega) (by omega) ?_ ?_ ?_ ?_ ?_ ?_ ?_ ?_ ?_) (fun fr' lh' hh => ?_)
        all_goals first | (simp only [get_same, get_ne, getO_ne, ne_eq, not_false_eq_true, Nat.reduceEqDiff, h11, h12, h13, h90, h91, hO12, hO54]; done) | skip
        · refine Or.inr ⟨(getO lh 107).g + 1, 0, ?_, ?_, ?_, by omega⟩
          · simp only [get_same, get_ne, ne_eq, not_false_eq_true, Nat.reduceEqDiff]
          · simp only [getO_same]; rfl
          · rfl
        · refine ⟨?_, fun j hj => by rw [hh.2 j hj]; simp only [getO_ne, ne_eq, not_false_eq_true, hj]⟩
          rw [h0, Nat.zero_add, Nat.add_comm _ 1]
          exact hh.1
      · have hc' : n * 3 = cs.length := hc.symm
        simp only [DC_seq, DC_skip, DC_exit, DC_region, DC_block, p_cond, isB_b, isT_b, andThen_nrm, outOf_nrm, map_ite, kv_some, ka_some, kc_some, e_nil, o_mv, p_bin, p_build, buildV, p_fa, faV_ptr, p_ia, p_ld, ldV_vp, ldV_L, ldE_cells, p_app, appW, slC_sl, appE_cells, appV_isl, notS_isl, p_lk, lkV, p_bsl, bslV, setD, rd_t, rd_c, get_same, get_ne, bslW, froz_agg, froz1_b, froz1_i, fzV_froz, fzL_nil, fzL_cons, ups_nil, cells_agg, cells_i, noTup_agg, noTup_i, splice, part_f, fills, repl, Nat.reduceAdd, List.all_nil, decide_true, bin_add, bin_lss, bin_gtr, Option.bind_some, Option.map_some, Option.map_none, List.map_cons, List.map_nil, List.all_cons, List.all_nil, List.length_cons, List.length_nil, List.append_nil, List.getElem?_cons_zero, List.getElem?_cons_succ, List.zip_cons_cons, List.zip_nil_left, Bool.and_self, if_true, ne_eq, not_false_eq_true, and_self, Nat.zero_add, Nat.one_mul, Nat.zero_mul, Nat.reduceAdd, Nat.reduceLT, Nat.reduceLeDiff, Nat.reduceEqDiff, decide_true, Nat.le_refl, c69_L1, h10, h11, h12, h13, h90, h91, h92, hlt', hia, hO12, hO54, hO, hc', hbig, lkE_map, lkIn_eq, key_i, lk_ev, h, hw, roomy]
        rw [← hK]
        refine ex2_mono (OE v ks hv hb ps most i nm ms dd sh g12 g13 m (k + 1) (n + 1) (cs ++ brC i ks[k]) _ _ (by omega) (by omega) (by omega) ?_ ?_ ?_ ?_ ?_ ?_ ?_ ?_ ?_) (fun fr' lh' hh => ?_)
        all_goals first | (simp only [get_same, get_ne, getO_ne, ne_eq, not_false_eq_true, Nat.reduceEqDiff, h11, h12, h13, h90, h91, hO12, hO54]; done) | skip
        · refine Or.inr ⟨g + 1, wm, ?_, ?_, ?_, by omega⟩
          · simp only [get_same, get_ne, ne_eq, not_false_eq_true, Nat.reduceEqDiff]
          · simp only [getO_same]; rfl
          · simp [brC, hc]; omega
        · refine ⟨?_, fun j hj => by rw [hh.2 j hj]; simp only [getO_ne, ne_eq, not_false_eq_true, hj]⟩
          rw [List.flatMap_cons, ← List.append_assoc, show n + (((ks.drop (k + 1)).filter fun d => most < getM ps d).length + 1) = n + 1 + ((ks.drop (k + 1)).filter fun d => most < getM ps d).length by omega]
          exact hh.1
    · have hfl : (ks[k] :: ks.drop (k + 1)).filter (fun d => most < getM ps d) = (ks.drop (k + 1)).filter fun d => most < getM ps d := List.filter_cons_of_neg (by simpa using h)
      rw [hfl]
      simp only [DC_seq, DC_skip, DC_exit, DC_region, DC_block, p_cond, isB_b, isT_b, andThen_nrm, outOf_nrm, map_ite, kv_some, kc_some, e_nil, o_mv, p_bin, p_build, buildV, p_fa, faV_ptr, p_ia, p_ld, ldV_vp, ldV_L, ldE_cells, p_lk, lkV, p_bsl, bslV, setD, rd_t, rd_c, get_same, get_ne, bslW, froz_agg, froz1_b, froz1_i, fzV_froz, fzL_nil, fzL_cons, ups_nil, cells_agg, cells_i, noTup_agg, noTup_i, splice, part_f, fills, repl, Nat.reduceAdd, List.all_nil, decide_true, bin_add, bin_lss, bin_gtr, Option.bind_some, Option.map_some, Option.map_none, List.map_cons, List.map_nil, List.all_cons, List.all_nil, List.length_cons, List.length_nil, List.append_nil, List.getElem?_cons_zero, List.getElem?_cons_succ, List.zip_cons_cons, List.zip_nil_left, Bool.and_self, Bool.false_eq_true, if_true, if_false, ne_eq, not_false_eq_true, Nat.zero_add, Nat.zero_mul, Nat.reduceAdd, Nat.reduceLT, Nat.reduceLeDiff, Nat.reduceEqDiff, decide_true, decide_false, Nat.le_refl, c69_L1, h11, h12, h13, h90, h91, h92, hlt', hia, hO12, hO54, lkE_map, lkIn_eq, key_i, lk_ev, h, hw]
      rw [← hK]
      refine ex2_mono (OE v ks hv hb ps most i nm ms dd sh g12 g13 m (k + 1) n cs _ _ (by omega) (by omega) (by omega) ?_ ?_ ?_ ?_ ?_ ?_ ?_ ?_ ?_) (fun fr' lh' hh => hh)
      all_goals first | (simp only [get_same, get_ne, ne_eq, not_false_eq_true, Nat.reduceEqDiff, h11, h12, h13, h90, h91, hO12, hO54]; done) | skip
      simpa [get_ne] using hs
def keysOf (D : Int) (l : List (Int × Int)) : List Int := sortI ((psOf D l).map (·.1))
theorem sortI_len : ∀ l, (sortI l).length = l.length := fun l => (sortI_perm l).length_eq
theorem put_len (d v : Int) : ∀ ps : List (Int × Int), (putM ps d v).length ≤ ps.length + 1
  | [] => by simp [putM]
  | (k, w) :: ps => by
    unfold putM
    split
    · simp
    · have := put_len d v ps
      simp only [List.length_cons]; omega
theorem range_len (x : Int) : ∀ (m : Nat) (d : Int) (ps : List (Int × Int)), (rangeAdd x m d ps).length ≤ ps.length + m
  | 0, d, ps => by simp [rangeAdd]
  | m + 1, d, ps => by
    have h1 := range_len x m (d + 1) (putM ps d (getM ps d + x))
    have h2 := put_len d (getM ps d + x) ps
    rw [rangeAdd]; omega
theorem psOf_len (D : Int) (hD : D ≤ 31) (l : List (Int × Int)) : (psOf D l).length ≤ l.length * 31 := by
  unfold psOf
  have : ∀ (l ps : List (Int × Int)), (l.foldl (fun ps p => rangeAdd p.2 D.toNat (p.1 - D + 1) ps) ps).length ≤ ps.length + l.length * 31 := by
    intro l
    induction l with
    | nil => intro ps; simp
    | cons p l ih =>
      intro ps
      have h1 := ih (rangeAdd p.2 D.toNat (p.1 - D + 1) ps)
      have h2 := range_len p.2 D.toNat (p.1 - D + 1) ps
      simp only [List.foldl_cons, List.length_cons]
      omega
  simpa using this l []
theorem wf64_of {n : Int} (h1 : -9223372036854775808 ≤ n) (h2 : n ≤ 9223372036854775807) : wf64 n = true := by
  unfold wf64 Lit.wf
  simp [IntKind.min, IntKind.max, IntKind.bits, IntKind.signed]
  omega
theorem asInts_ev : ∀ ks : List Int, asInts (ks.map (T.i .i64)) = some ks
  | [] => rfl
  | k :: ks => by simp [asInts, asInts_ev ks]
theorem mkeys_ev (ks vs : List T) : DCall pE 119 [.vm ks vs] [] = some (.fn 181 [] [.vp [.vm ks vs]], []) := by
  rw [p_fun fn119 (by simp [c119])]
  simp only [DC_seq, DC_ret, DC_region, andThen_nrm, endR_ret, e_nil, o_mv, o_mkfn, o_box, rd_t, rd_c, get_same, get_ne, getO_nil, noEnt, resV, ansV_gen, frOf, frFrom, cells_vm, noTup_vm, Option.bind_some, Option.map_some, List.map_cons, List.map_nil, ne_eq, not_false_eq_true, Nat.zero_add, Nat.reduceLT, Nat.reduceEqDiff, c119]
  rfl
end Go.Proofs.YtfenhjpkomldcaaGreat
