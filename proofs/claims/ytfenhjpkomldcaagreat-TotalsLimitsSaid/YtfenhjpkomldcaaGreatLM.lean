/- TotalsLimits returns true at every input. Conditions: none beyond the theorems' own. -/
import Derived.Test.YtfenhjpkomldcaaGreatLL
import Derived.Test.YtfenhjpkomldcaaGreatSA
import Derived.Test.YtfenhjpkomldcaaGreatKC
import Derived.Test.YtfenhjpkomldcaaGreatKnown2
set_option maxRecDepth 100000
set_option maxHeartbeats 4000000
set_option linter.unusedSimpArgs false
set_option linter.unusedVariables false
namespace Go.Proofs.YtfenhjpkomldcaaGreat
open Go Go.Ev
def shO (cnt dd : Int) : List Ent := [⟨1, .cells (offC cnt dd) 0 false⟩]
theorem fzL_Y (z : Zn) (m0 d0 m1 d1 cnt dd : Int) (l : T) (hl : froz l = true) (lh : Tri Ent) :
    fzL lh (shO cnt dd) false [.agg [.s [108, 111, 99, 97, 108], .i .i64 z.off, shT z.sh], .agg (conY (.isl .S 0 1 0 1 3) m0 d0 m1 d1), l] = some ([.agg [.s [108, 111, 99, 97, 108], .i .i64 z.off, shT z.sh], .agg (conC m0 d0 m1 d1 cnt dd), l], [(.S, 0, ⟨1, .cells (offC cnt dd) 3 false⟩)]) := by
  have h1 : froz (.agg [.s [108, 111, 99, 97, 108], .i .i64 z.off, shT z.sh]) = true := by
    simp only [froz_agg, List.all_cons, List.all_nil, froz1_s, froz1_i, shT_f1]; rfl
  have hS : ∀ m, fzW m lh (shO cnt dd) false (.isl .S 0 1 0 1 3) = some (.sl (offC cnt dd) 1 false, [(.S, 0, ⟨1, .cells (offC cnt dd) 3 false⟩)]) := fun m => by
    rw [fzW_islS (g' := 1) (wm := 0) (cs := offC cnt dd) rfl, if_pos ⟨rfl, (show 0 + 1 * 3 ≤ 3 by decide)⟩]
    rfl
  rw [fzL_cons, fzV_froz h1, Option.bind_some, fzL_cons]
  have h2 : fzV lh (shO cnt dd) false (.agg (conY (.isl .S 0 1 0 1 3) m0 d0 m1 d1)) = some (.agg (conC m0 d0 m1 d1 cnt dd), [(.S, 0, ⟨1, .cells (offC cnt dd) 3 false⟩)]) := by
    rw [fzV_aggK]
    unfold conY
    simp only [fzWL_cons, fzWL_nil, hS, fzW_froz1, froz1_i, froz1_nilsl, froz1_rules, froz1_costs, froz1_credit, froz1_sl, Option.bind_some, Option.map_some, List.nil_append, List.append_nil]
    rfl
  rw [h2, Option.bind_some, fzL_cons, fzV_froz hl, Option.bind_some, fzL_nil]
  rfl
theorem ref_call (z : Zn) (m0 d0 m1 d1 cnt dd : Int) (l : T) (hl : froz l = true) {r : T} (H : DCall pE 35 [z.t, .agg (conC m0 d0 m1 d1 cnt dd), l] [] = some (r, [])) (lh : Tri Ent) : ∃ sh', ∀ y fr,
    doCall pE (DCall pE) y ⟨fr, lh, shO cnt dd⟩ 35 [.agg [.s [108, 111, 99, 97, 108], .i .i64 z.off, shT z.sh], .agg (conY (.isl .S 0 1 0 1 3) m0 d0 m1 d1), l] = some (r, ⟨fr, lh, sh'⟩) := by
  refine ⟨if scalar r = true then shO cnt dd else setE (shO cnt dd) 0 ⟨1, .cells (offC cnt dd) 3 false⟩, fun y fr => ?_⟩
  rw [dp35, fzL_Y z m0 d0 m1 d1 cnt dd l hl lh, Option.bind_some]
  unfold Zn.t at H
  show (DCall pE 35 [.agg [.s [108, 111, 99, 97, 108], .i .i64 z.off, shT z.sh], .agg (conC m0 d0 m1 d1 cnt dd), l] []).bind _ = _
  rw [H, Option.bind_some]
  by_cases h : scalar r = true
  · simp only [h, if_true]
  · simp only [h, Bool.false_eq_true, if_false]; rfl
theorem LR5 (z : Zn) (m0 d0 m1 d1 cnt dd : Int) (l : T) (hl : froz l = true) (bs : List Br) (e : Int) (hb : bs.length < 1000000)
    (H1 : DCall pE 34 [z.t, .agg (conC m0 d0 m1 d1 cnt dd), l] [] = some (.tup [outT bs.length (bs.flatMap bC), .i .i64 e], [])) (H2 : DCall pE 35 [z.t, .agg (conC m0 d0 m1 d1 cnt dd), l] [] = some (.tup [outT bs.length (bs.flatMap bC), .i .i64 e], []))
    (fr : Fr) (lh : Tri Ent) (h9 : getF fr 9 = .ptr .L 9 1 0) (h10 : getF fr 10 = .ptr .L 10 1 0) (h11 : getF fr 11 = l) (o9 : getO lh 9 = ⟨1, .cells (conY (.isl .S 0 1 0 1 3) m0 d0 m1 d1) 0 true⟩) (o10 : getO lh 10 = ⟨1, .cells [.s [108, 111, 99, 97, 108], .i .i64 z.off, shT z.sh] 0 true⟩) (n42 : getO lh 42 = noEnt) :
    ∃ s, endR [.tmp 8] false (DC pE 63 c7_R5 ⟨fr, lh, shO cnt dd⟩) = some (.b true, s) := by
  obtain ⟨sk, hknown⟩ := known_ev
  have hkn : ∀ z fr lh sh, doCall pE (DCall pE) z ⟨fr, lh, sh⟩ 32 [] = some (.b true, ⟨fr, lh, sh⟩) := by intro z fr lh sh; rw [dc32 rfl, hknown]; rfl
  have hc := own_callE (fun _ _ _ _ _ => dp34) H1 (bC_scal _) (bC_len _) (fzL_Y z m0 d0 m1 d1 cnt dd l hl lh) n42
  obtain ⟨sh', hr⟩ := ref_call z m0 d0 m1 d1 cnt dd l hl H2 (ownH 42 bs.length (bs.flatMap bC) lh)
  have hs := fun fr sh => same_call2 bs hb (ownH 42 bs.length (bs.flatMap bC) lh) (own_S (bC_len _)) 58 fr sh
  have hcl : (conY (.isl .S 0 1 0 1 3) m0 d0 m1 d1).length = 14 := rfl
  have htk : (conY (.isl .S 0 1 0 1 3) m0 d0 m1 d1).take 14 = conY (.isl .S 0 1 0 1 3) m0 d0 m1 d1 := rfl
  have o9' : getO (ownH 42 bs.length (bs.flatMap bC) lh) 9 = ⟨1, .cells (conY (.isl .S 0 1 0 1 3) m0 d0 m1 d1) 0 true⟩ := by rw [ownH_ne (by decide)]; exact o9
  have o10' : getO (ownH 42 bs.length (bs.flatMap bC) lh) 10 = ⟨1, .cells [.s [108, 111, 99, 97, 108], .i .i64 z.off, shT z.sh] 0 true⟩ := by rw [ownH_ne (by decide)]; exact o10
  simp (maxDischargeDepth := 6) only [DC_seq, DC_ret, DC_region, andThen_nrm, endR_ret, kv_some, kc_some, e_nil, o_mv, p_pick, pickV_b, p_bin, p_ext, extV_tup, p_ld, ldV_L, ldE_cells, p_call, g_passT, setD, rd_t, rd_c, get_same, get_ne, resV, ansV_gen, froz_b, fzV_froz, ups_nil, part_t, Nat.reduceAdd, decide_true, bin_eql, Option.bind_some, Option.map_some, List.map_cons, List.map_nil, List.length_cons, List.length_nil, List.drop_zero, List.getElem?_cons_zero, List.getElem?_cons_succ, List.take_succ_cons, List.take_zero, if_true, ne_eq, not_false_eq_true, Nat.zero_add, Nat.reduceAdd, Nat.reduceLT, Nat.reduceEqDiff, decide_true, Nat.le_refl, c7_R5, c7_R6, c7_R7, h9, h10, h11, o9, o10, o9', o10', hcl, htk, hc, hr, hs, hkn]
  exact ⟨_, rfl⟩
theorem lim_core (la lb l x : T) (n k : Int) (z : Zn) (hz : z.ok) (m0 d0 m1 d1 cnt dd : Int) (hla : froz la = true) (hlb : froz lb = true) (hl : froz l = true) (hx : froz x = true)
    (hlim : DCall pE 27 [.i .i64 n] [] = some (.agg (conY (.isl .S 0 1 0 1 3) m0 d0 m1 d1), shO cnt dd)) (hzone : DCall pE 33 [.i .i64 k] [] = some (z.t, []))
    (hst : ∀ sh, DCall pE 28 [.agg (conY (.isl .S 0 1 0 1 3) m0 d0 m1 d1), la] sh = some (l, sh)) (hsp : DCall pE 29 [l, lb] [] = some (x, []))
    (hb : ∀ (z' : Zn) (dd' : Int), (z' = z ∨ z' = ⟨1000, z.sh⟩) → (dd' = dd ∨ dd' = 0) → ∃ (bs : List Br) (e : Int), bs.length < 1000000 ∧
      DCall pE 34 [z'.t, .agg (conC m0 d0 m1 d1 cnt dd'), x] [] = some (.tup [outT bs.length (bs.flatMap bC), .i .i64 e], []) ∧
      DCall pE 35 [z'.t, .agg (conC m0 d0 m1 d1 cnt dd'), x] [] = some (.tup [outT bs.length (bs.flatMap bC), .i .i64 e], [])) :
    ∃ s, DCall pE 7 [la, lb, .i .i64 n, .i .i64 k] [] = some (.b true, s) := by
  rw [p_fun fn7 (by simp [c7])]
  unfold Zn.t at hzone
  unfold conY at hlim hst
  unfold shO offC at hlim
  by_cases c1 : k / 1048576 % 16 = 15
  · by_cases c2 : k / 16777216 % 16 = 15
    · obtain ⟨bs, e, hlen, H1, H2⟩ := hb ⟨1000, z.sh⟩ 0 (.inr rfl) (.inr rfl)
      simp (maxDischargeDepth := 6) only [and_15, shr_20, shr_24, DC_seq, DC_skip, DC_region, p_cond, isB_b, isT_b, andThen_nrm, kv_some, ks_some, kc_some, e_nil, o_mv, o_alloc, p_bin, p_fa, faV_ptr, p_ia, iaV_isl, p_ld, ldV_L, ldE_cells, p_st, stV_L, stB_box, p_call, setD, rd_t, rd_c, get_same, get_ne, getO_same, getO_ne, getO_nil, noEnt, fzW_froz1, fzWL_nil, fzWL_cons, fzV_aggK, froz_i, froz1_i, froz1_nilsl, froz1_sl, frOf, frFrom, fzV_froz, fzL_nil, fzL_cons, ups_nil, cells_agg, cells_i, noTup_agg, noTup_i, splice, part_t, part_f, Nat.reduceAdd, List.all_nil, decide_true, bin_eql, Option.bind_some, Option.map_some, List.map_cons, List.map_nil, List.all_cons, List.all_nil, List.length_cons, List.length_nil, List.drop_zero, List.append_nil, List.getElem?_cons_zero, List.getElem?_cons_succ, List.take_succ_cons, List.take_zero, Bool.and_self, if_true, reduceCtorEq, ne_eq, not_false_eq_true, and_self, Nat.zero_add, Nat.add_zero, Nat.zero_mul, Nat.reduceAdd, Nat.reduceLT, Nat.reduceLeDiff, Nat.reduceEqDiff, decide_true, Nat.le_refl, Nat.zero_le, Int.reduceToNat, Int.reduceLE, getE_zero, setE_zero, stV_S, stBS_cells, c7, c7_R1, c7_R2, c7_R3, c7_R4, hlim, hzone, hst, hsp, dp27, dc33, dp28, dc29, froz1_rules, froz1_costs, froz1_credit, hla, hlb, hl, fzW_keepS, c1, c2]
      refine LR5 ⟨1000, z.sh⟩ m0 d0 m1 d1 cnt 0 x hx bs e hlen H1 H2 _ _ ?_ ?_ ?_ ?_ ?_ ?_
      all_goals first | (simp only [get_same, get_ne, getO_same, getO_ne, getO_nil, noEnt, ne_eq, not_false_eq_true, Nat.reduceEqDiff]; done) | (simp only [getO_same, getO_ne, ne_eq, not_false_eq_true, Nat.reduceEqDiff]; rfl)
    · obtain ⟨bs, e, hlen, H1, H2⟩ := hb ⟨1000, z.sh⟩ dd (.inr rfl) (.inl rfl)
      simp (maxDischargeDepth := 6) only [and_15, shr_20, shr_24, DC_seq, DC_skip, DC_region, p_cond, isB_b, isT_b, andThen_nrm, kv_some, ks_some, kc_some, e_nil, o_mv, o_alloc, p_bin, p_fa, faV_ptr, p_ia, iaV_isl, p_ld, ldV_L, ldE_cells, p_st, stV_L, stB_box, p_call, setD, rd_t, rd_c, get_same, get_ne, getO_same, getO_ne, getO_nil, noEnt, fzW_froz1, fzWL_nil, fzWL_cons, fzV_aggK, froz_i, froz1_i, froz1_nilsl, froz1_sl, frOf, frFrom, fzV_froz, fzL_nil, fzL_cons, ups_nil, cells_agg, cells_i, noTup_agg, noTup_i, splice, part_t, part_f, Nat.reduceAdd, List.all_nil, decide_true, bin_eql, Option.bind_some, Option.map_some, List.map_cons, List.map_nil, List.all_cons, List.all_nil, List.length_cons, List.length_nil, List.drop_zero, List.append_nil, List.getElem?_cons_zero, List.getElem?_cons_succ, List.take_succ_cons, List.take_zero, Bool.and_self, Bool.false_eq_true, if_true, if_false, reduceCtorEq, ne_eq, not_false_eq_true, and_self, Nat.zero_add, Nat.add_zero, Nat.zero_mul, Nat.reduceAdd, Nat.reduceLT, Nat.reduceLeDiff, Nat.reduceEqDiff, decide_true, decide_false, Nat.le_refl, Nat.zero_le, Int.reduceToNat, Int.reduceLE, getE_zero, setE_zero, stV_S, stBS_cells, c7, c7_R1, c7_R2, c7_R3, c7_R4, hlim, hzone, hst, hsp, dp27, dc33, dp28, dc29, froz1_rules, froz1_costs, froz1_credit, hla, hlb, hl, fzW_keepS, c1, c2]
      refine LR5 ⟨1000, z.sh⟩ m0 d0 m1 d1 cnt dd x hx bs e hlen H1 H2 _ _ ?_ ?_ ?_ ?_ ?_ ?_
      all_goals first | (simp only [get_same, get_ne, getO_same, getO_ne, getO_nil, noEnt, ne_eq, not_false_eq_true, Nat.reduceEqDiff]; done) | (simp only [getO_same, getO_ne, ne_eq, not_false_eq_true, Nat.reduceEqDiff]; rfl)
  · by_cases c2 : k / 16777216 % 16 = 15
    · obtain ⟨bs, e, hlen, H1, H2⟩ := hb z 0 (.inl rfl) (.inr rfl)
      simp (maxDischargeDepth := 6) only [and_15, shr_20, shr_24, DC_seq, DC_skip, DC_region, p_cond, isB_b, isT_b, andThen_nrm, kv_some, ks_some, kc_some, e_nil, o_mv, o_alloc, p_bin, p_fa, faV_ptr, p_ia, iaV_isl, p_ld, ldV_L, ldE_cells, p_st, stV_L, stB_box, p_call, setD, rd_t, rd_c, get_same, get_ne, getO_same, getO_ne, getO_nil, noEnt, fzW_froz1, fzWL_nil, fzWL_cons, fzV_aggK, froz_i, froz1_i, froz1_nilsl, froz1_sl, frOf, frFrom, fzV_froz, fzL_nil, fzL_cons, ups_nil, cells_agg, cells_i, noTup_agg, noTup_i, splice, part_t, part_f, Nat.reduceAdd, List.all_nil, decide_true, bin_eql, Option.bind_some, Option.map_some, List.map_cons, List.map_nil, List.all_cons, List.all_nil, List.length_cons, List.length_nil, List.drop_zero, List.append_nil, List.getElem?_cons_zero, List.getElem?_cons_succ, List.take_succ_cons, List.take_zero, Bool.and_self, Bool.false_eq_true, if_true, if_false, reduceCtorEq, ne_eq, not_false_eq_true, and_self, Nat.zero_add, Nat.add_zero, Nat.zero_mul, Nat.reduceAdd, Nat.reduceLT, Nat.reduceLeDiff, Nat.reduceEqDiff, decide_true, decide_false, Nat.le_refl, Nat.zero_le, Int.reduceToNat, Int.reduceLE, getE_zero, setE_zero, stV_S, stBS_cells, c7, c7_R1, c7_R2, c7_R3, c7_R4, hlim, hzone, hst, hsp, dp27, dc33, dp28, dc29, froz1_rules, froz1_costs, froz1_credit, hla, hlb, hl, fzW_keepS, c1, c2]
      refine LR5 z m0 d0 m1 d1 cnt 0 x hx bs e hlen H1 H2 _ _ ?_ ?_ ?_ ?_ ?_ ?_
      all_goals first | (simp only [get_same, get_ne, getO_same, getO_ne, getO_nil, noEnt, ne_eq, not_false_eq_true, Nat.reduceEqDiff]; done) | (simp only [getO_same, getO_ne, ne_eq, not_false_eq_true, Nat.reduceEqDiff]; rfl)
    · obtain ⟨bs, e, hlen, H1, H2⟩ := hb z dd (.inl rfl) (.inl rfl)
      simp (maxDischargeDepth := 6) only [and_15, shr_20, shr_24, DC_seq, DC_skip, DC_region, p_cond, isB_b, isT_b, andThen_nrm, kv_some, ks_some, kc_some, e_nil, o_mv, o_alloc, p_bin, p_fa, faV_ptr, p_ia, iaV_isl, p_ld, ldV_L, ldE_cells, p_st, stV_L, stB_box, p_call, setD, rd_t, rd_c, get_same, get_ne, getO_same, getO_ne, getO_nil, noEnt, fzW_froz1, fzWL_nil, fzWL_cons, fzV_aggK, froz_i, froz1_i, froz1_nilsl, froz1_sl, frOf, frFrom, fzV_froz, fzL_nil, fzL_cons, ups_nil, cells_agg, cells_i, noTup_agg, noTup_i, splice, part_t, part_f, Nat.reduceAdd, List.all_nil, bin_eql, Option.bind_some, Option.map_some, List.map_cons, List.map_nil, List.all_cons, List.all_nil, List.length_cons, List.length_nil, List.drop_zero, List.append_nil, List.getElem?_cons_zero, List.getElem?_cons_succ, List.take_succ_cons, List.take_zero, Bool.and_self, Bool.false_eq_true, if_true, if_false, reduceCtorEq, ne_eq, not_false_eq_true, and_self, Nat.zero_add, Nat.add_zero, Nat.zero_mul, Nat.reduceAdd, Nat.reduceLT, Nat.reduceLeDiff, Nat.reduceEqDiff, decide_false, Nat.le_refl, Nat.zero_le, Int.reduceToNat, Int.reduceLE, getE_zero, setE_zero, stV_S, stBS_cells, c7, c7_R1, c7_R2, c7_R3, c7_R4, hlim, hzone, hst, hsp, dp27, dc33, dp28, dc29, froz1_rules, froz1_costs, froz1_credit, hla, hlb, hl, fzW_keepS, c1, c2]
      refine LR5 z m0 d0 m1 d1 cnt dd x hx bs e hlen H1 H2 _ _ ?_ ?_ ?_ ?_ ?_ ?_
      all_goals first | (simp only [get_same, get_ne, getO_same, getO_ne, getO_nil, noEnt, ne_eq, not_false_eq_true, Nat.reduceEqDiff]; done) | (simp only [getO_same, getO_ne, ne_eq, not_false_eq_true, Nat.reduceEqDiff]; rfl)
theorem lim_ok (n : Int) : conOk (n % 1024) (1 + n / 8 % 4) (n / 4 % 1024) (1 + n / 16 % 4) (1 + n / 256 % 4 % (1 + n / 64 % 4)) (1 + n / 64 % 4) := by
  have h1 : 0 ≤ n / 64 % 4 := by omega
  have h2 : n / 64 % 4 ≤ 3 := by omega
  generalize n / 64 % 4 = d at *
  have h3 := Int.emod_nonneg (n / 256 % 4) (show 1 + d ≠ 0 by omega)
  have h4 := Int.emod_lt_of_pos (n / 256 % 4) (show 0 < 1 + d by omega)
  generalize n / 256 % 4 % (1 + d) = c at *
  unfold conOk
  refine ⟨⟨?_, ?_⟩, ⟨?_, ?_⟩, ⟨?_, ?_⟩, ⟨?_, ?_⟩, ⟨?_, ?_⟩, ?_, ?_⟩ <;> omega
theorem lim_ev (la lb : T) (xs ys : List Int) (hl : IsSl la xs.length (ints xs)) (hb : IsSl lb ys.length (ints ys)) (n k : Int) : ∃ s, DCall pE 7 [la, lb, .i .i64 n, .i .i64 k] [] = some (.b true, s) := by
  have hlim := limY_ev con3 n
  have hok := lim_ok n
  generalize n % 1024 = m0, 1 + n / 8 % 4 = d0, n / 4 % 1024 = m1, 1 + n / 16 % 4 = d1, 1 + n / 256 % 4 % (1 + n / 64 % 4) = cnt at *
  generalize 1 + n / 64 % 4 = dd at *
  have hst := fun sh => stS_ev sh la (.sl (limC m0 d0 m1 d1) 2 false) (conY (.isl .S 0 1 0 1 3) m0 d0 m1 d1) xs hl rfl rfl
  have hg := all_good xs
  have hv := all_v xs
  generalize stAll xs = ss at *
  obtain ⟨tt, ht, ht6, hto, _⟩ := spoil_all lb ys hb ss hg hv
  have hsl : ∀ ss : List Sti, IsSl (outT ss.length (ss.flatMap stC)) ss.length (ss.flatMap stC) := fun ss => outT_isl (fun h => by rw [List.length_eq_zero_iff.1 h]; rfl)
  refine lim_core la lb _ _ n k (znOf k) (znOf_ok k) m0 d0 m1 d1 cnt dd hl.froz hb.froz (hsl ss).froz (hsl tt).froz hlim (zone_ev k) hst ht ?_
  intro z' dd' hz' hd'
  refine both_lim z' m0 d0 m1 d1 cnt dd' _ tt (hsl tt) hto ?_ ?_
  · rcases hz' with rfl | rfl
    · exact .inl (znOf_ok k)
    · exact .inr (by show (840 : Int) < 1000; decide)
  · rcases hd' with rfl | rfl
    · exact .inl hok
    · exact .inr ⟨⟨hok.1, hok.2.1, hok.2.2.1, hok.2.2.2.1⟩, rfl⟩
end Go.Proofs.YtfenhjpkomldcaaGreat
