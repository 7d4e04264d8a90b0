/- TotalsMost returns true at every input. Conditions: none beyond the theorems' own. -/
import Derived.Test.YtfenhjpkomldcaaGreatMO
set_option maxRecDepth 100000
set_option maxHeartbeats 4000000
set_option linter.unusedSimpArgs false
set_option linter.unusedVariables false
namespace Go.Proofs.YtfenhjpkomldcaaGreat
open Go Go.Ev
theorem hkn : ∀ z fr lh sh, doCall pE (DCall pE) z ⟨fr, lh, sh⟩ 32 [] = some (.b true, ⟨fr, lh, sh⟩) := by
  obtain ⟨sk, hknown⟩ := known_ev
  intro z fr lh sh; rw [dc32 rfl, hknown]; rfl
section
variable (z : Zn) (d0 m1 d1 cnt dd : Int) (l : T) (hl : froz l = true)
include hl
theorem MR9 (M : Int) (b : Br) (bs : List Br) (hb : b.i = 0) (D2 : DCall pE 34 [z.t, .agg (conC M d0 m1 d1 cnt dd), l] [] = some (.tup [outT (b :: bs).length ((b :: bs).flatMap bC), .i .i64 0], []))
    (fr : Fr) (lh : Tri Ent) (h7 : getF fr 7 = .ptr .L 7 1 0) (h8 : getF fr 8 = .ptr .L 8 1 0) (h9 : getF fr 9 = l) (hO7 : getO lh 7 = ⟨1, .cells (conX (.isl .S 0 1 0 2 4) cnt dd) 0 true⟩) (hO8 : getO lh 8 = ⟨1, .cells [.s [108, 111, 99, 97, 108], .i .i64 z.off, shT z.sh] 0 true⟩) (n77 : getO lh 77 = noEnt) :
    ∃ s, endR [.tmp 6] false (DC pE 97 c8_R9 ⟨fr, lh, shL M d0 m1 d1⟩) = some (.b true, s) := by
  obtain ⟨us, hz⟩ := fzL_S z M d0 m1 d1 cnt dd l hl lh
  have hc := own_callE (fun _ _ _ _ _ => dp34) D2 (bC_scal _) (bC_len _) hz n77
  have hcl : (conX (.isl .S 0 1 0 2 4) cnt dd).length = 14 := rfl
  have htk : (conX (.isl .S 0 1 0 2 4) cnt dd).take 14 = conX (.isl .S 0 1 0 2 4) cnt dd := rfl
  simp (maxDischargeDepth := 6) only [DC_seq, DC_region, andThen_nrm, kv_some, kc_some, e_nil, o_mv, p_ext, extV_tup, p_ld, ldV_L, ldE_cells, p_call, setD, rd_t, get_same, get_ne, part_t, Nat.reduceAdd, Option.map_some, List.map_cons, List.map_nil, List.length_cons, List.length_nil, List.drop_zero, List.getElem?_cons_zero, List.getElem?_cons_succ, List.take_succ_cons, List.take_zero, if_true, ne_eq, not_false_eq_true, Nat.zero_add, Nat.reduceAdd, Nat.reduceLT, Nat.reduceEqDiff, Nat.le_refl, c8_R9, h7, h8, hO7, hO8, h9, hcl, htk, hc]
  refine MR10 _ _ _ b bs hb ?_ ?_
  · simp only [get_same]
  · simp only [get_same, get_ne, List.length_cons, ne_eq, not_false_eq_true, Nat.reduceEqDiff]
    exact own_S (bC_len _)
end
/-- The state between. -/
structure Mid (z : Zn) (cnt dd : Int) (l : T) (fr : Fr) (lh : Tri Ent) : Prop where
  h7 : getF fr 7 = .ptr .L 7 1 0
  h8 : getF fr 8 = .ptr .L 8 1 0
  h9 : getF fr 9 = l
  o7 : getO lh 7 = ⟨1, .cells (conX (.isl .S 0 1 0 2 4) cnt dd) 0 true⟩
  o8 : getO lh 8 = ⟨1, .cells [.s [108, 111, 99, 97, 108], .i .i64 z.off, shT z.sh] 0 true⟩
  n77 : getO lh 77 = noEnt
theorem MR7 (z : Zn) (d0 m1 d1 cnt dd : Int) (l : T) (ss : List Sti) (hsl : IsSl l ss.length (ss.flatMap stC)) (hg : Good ss) (M : Int)
    (D2 : ∀ s tt, ss = s :: tt → s.xs.getD 0 0 ≠ 0 → ∃ b bs, b.i = 0 ∧ DCall pE 34 [z.t, .agg (conC (s.xs.getD 0 0 - 1) d0 m1 d1 cnt dd), l] [] = some (.tup [outT (b :: bs).length ((b :: bs).flatMap bC), .i .i64 0], []))
    (fr : Fr) (lh : Tri Ent) (hM : Mid z cnt dd l fr lh) :
    ∃ s, endR [.tmp 6] false (DC pE 97 c8_R7 ⟨fr, lh, shL M d0 m1 d1⟩) = some (.b true, s) := by
  obtain ⟨h7, h8, h9, o7, o8, n77⟩ := hM
  cases ss with
  | nil =>
    have hl0 : lenI l = some (.i .i64 0) := hsl.lenI
    simp (maxDischargeDepth := 6) only [DC_seq, DC_skip, DC_ret, DC_region, p_cond, isB_b, isT_b, andThen_nrm, andThen_ret, endR_ret, kv_some, kc_some, e_nil, o_mv, p_pick, pickV_b, p_bin, p_lenV, p_call, g_skipF, setD, rd_t, rd_c, get_same, get_ne, resV, ansV_gen, froz_b, fzV_froz, ups_nil, decide_true, bin_eql, Option.bind_some, Option.map_some, List.map_nil, if_true, ne_eq, not_false_eq_true, Nat.reduceLT, Nat.reduceEqDiff, decide_true, c8_R7, h9, hl0, hkn]
    exact ⟨_, rfl⟩
  | cons s tt =>
    have hlen : lenI l = some (.i .i64 (((s :: tt).length : Nat) : Int)) := hsl.lenI
    have hne : ¬ (((s :: tt).length : Nat) : Int) = 0 := by rw [List.length_cons]; omega
    have hia : ∀ kk, iaV l (.i kk 0) 3 = some (.vp (.i .i64 s.a :: .i .i64 s.b :: s.v :: tt.flatMap stC)) := fun kk => by
      have := hsl.ia (kk := kk) (sz := 3) (k := 0) (stC_len (s :: tt)) (by simp)
      rw [Nat.zero_mul, List.drop_zero, List.flatMap_cons] at this
      exact this
    obtain ⟨_, _, _, a4, _, a6⟩ := hg.all s List.mem_cons_self
    have h0l : 0 < s.xs.length := by omega
    have hx : s.xs[0] = s.xs.getD 0 0 := by rw [List.getD_eq_getElem?_getD, List.getElem?_eq_getElem h0l]; rfl
    have hiv : ∀ kk, iaV s.v (.i kk 0) 1 = some (.vp (T.i .i64 (s.xs.getD 0 0) :: (ints s.xs).drop 1)) := fun kk => by
      have := a6.1.ia (kk := kk) (sz := 1) (k := 0) (by rw [ints_len]; omega) h0l
      rw [Nat.zero_mul, ints_drop s.xs 0 h0l, hx] at this
      exact this
    have hv := good_x hg (List.mem_cons_self : s ∈ s :: tt) 0
    have D2' := D2 s tt rfl
    generalize s.xs.getD 0 0 = x at *
    generalize (s :: tt).length = N at *
    by_cases h0 : x = 0
    · subst h0
      simp (maxDischargeDepth := 6) only [DC_seq, DC_skip, DC_ret, DC_region, p_cond, isB_b, isT_b, andThen_nrm, andThen_ret, endR_ret, kv_some, kc_some, e_nil, o_mv, p_pick, pickV_b, p_bin, p_fa, faV_vp, p_ia, p_lenV, p_ld, ldV_vp, p_call, g_passF, setD, rd_t, rd_c, get_same, get_ne, resV, ansV_gen, froz_b, fzV_froz, ups_nil, part_f, decide_true, bin_eql, Option.bind_some, Option.map_some, List.map_nil, List.length_cons, List.drop_zero, List.getElem?_cons_zero, List.drop_succ_cons, Bool.false_eq_true, if_true, ite_self, ne_eq, not_false_eq_true, Nat.reduceLT, Nat.reduceLeDiff, Nat.reduceEqDiff, decide_true, decide_false, c8_R7, h9, hlen, hne, hia, hiv, hkn]
      exact ⟨_, rfl⟩
    · obtain ⟨b, bs, hb, hD⟩ := D2' h0
      have hw : wr .i64 (x - 1) = x - 1 := wr64 (by omega)
      simp (maxDischargeDepth := 6) only [DC_seq, DC_skip, DC_region, p_cond, isB_b, isT_b, andThen_nrm, kv_some, ks_some, e_nil, o_mv, p_pick, pickV_b, p_bin, p_fa, faV_vp, faV_ptr, p_ia, iaV_isl, p_lenV, p_ld, ldV_vp, ldV_L, ldE_cells, p_st, p_call, g_passF, rd_t, rd_c, get_same, get_ne, froz_i, cells_i, noTup_i, splice, part_f, Nat.reduceAdd, bin_sub, bin_eql, Option.map_some, List.map_nil, List.length_cons, List.length_nil, List.drop_zero, List.nil_append, List.cons_append, List.getElem?_cons_zero, List.getElem?_cons_succ, List.drop_succ_cons, Bool.and_self, Bool.not_false, Bool.false_eq_true, if_true, if_false, ne_eq, not_false_eq_true, and_self, Nat.zero_add, Nat.add_zero, Nat.zero_mul, Nat.reduceAdd, Nat.reduceLT, Nat.reduceLeDiff, Nat.reduceEqDiff, decide_false, Nat.zero_le, Int.reduceToNat, Int.reduceLE, DC_drawsK, d_nil, d_pure, pure_mv, pure_bin, pure_fa, pure_ia, d_ld, ldLog_vp, ldLog_ptr, ke_some, meets_nil, meets_cons, apart_ff, apart1_nil, apart1_cons, has_nil, getL, getE_zero, setE_zero, stV_S, stBS_cells, c8_R7, c8_R8, h7, h9, o7, hlen, hne, hia, hiv, h0, hw, conX, shL, limC, d_stS, isSp_ptr]
      refine MR9 z d0 m1 d1 cnt dd l hsl.froz (x - 1) b bs hb hD _ _ ?_ ?_ ?_ o7 o8 n77
      all_goals simp only [get_ne, ne_eq, not_false_eq_true, Nat.reduceEqDiff, h7, h8, h9]
theorem MR4 (z : Zn) (d0 m1 d1 cnt dd : Int) (l : T) (ss : List Sti) (hsl : IsSl l ss.length (ss.flatMap stC)) (hg : Good ss) (M : Int) (us : List Br) (hu : ∀ b ∈ us, b.i ≠ 0) (hul : us.length < 1000000)
    (D1 : DCall pE 34 [z.t, .agg (conC M d0 m1 d1 cnt dd), l] [] = some (.tup [outT us.length (us.flatMap bC), .i .i64 0], []))
    (D2 : ∀ s tt, ss = s :: tt → s.xs.getD 0 0 ≠ 0 → ∃ b bs, b.i = 0 ∧ DCall pE 34 [z.t, .agg (conC (s.xs.getD 0 0 - 1) d0 m1 d1 cnt dd), l] [] = some (.tup [outT (b :: bs).length ((b :: bs).flatMap bC), .i .i64 0], []))
    (fr : Fr) (lh : Tri Ent) (hM : Mid z cnt dd l fr lh) (n32 : getO lh 32 = noEnt) :
    ∃ s, endR [.tmp 6] false (DC pE 97 c8_R4 ⟨fr, lh, shL M d0 m1 d1⟩) = some (.b true, s) := by
  obtain ⟨h7, h8, h9, o7, o8, n77⟩ := hM
  obtain ⟨us0, hz⟩ := fzL_S z M d0 m1 d1 cnt dd l hsl.froz lh
  have hc := own_callE (fun _ _ _ _ _ => dp34) D1 (bC_scal _) (bC_len _) hz n32
  have hcl : (conX (.isl .S 0 1 0 2 4) cnt dd).length = 14 := rfl
  have htk : (conX (.isl .S 0 1 0 2 4) cnt dd).take 14 = conX (.isl .S 0 1 0 2 4) cnt dd := rfl
  have hL := fun fr (a : getF fr 10 = ownV 32 us.length) (b : getF fr 12 = .i .i64 0) => (loop_fix (P := fun _ => True) (let ⟨f, h⟩ := ML1' us hu hul fr (ownH 32 us.length (us.flatMap bC) lh) (shL M d0 m1 d1) (ownV 32 us.length) (own_S (bC_len _)) a b; ⟨f, h, trivial⟩)).1
  simp (maxDischargeDepth := 6) only [DC_seq, DC_skip, DC_ret, DC_region, DC_block, p_cond, isB_b, isT_b, andThen_nrm, outOf_ext, kv_some, kc_some, e_nil, o_mv, p_bin, p_ext, extV_tup, p_ld, ldV_L, ldE_cells, p_call, setD, rd_t, rd_c, get_same, get_ne, part_t, Nat.reduceAdd, decide_true, bin_neq, Option.map_some, List.map_cons, List.map_nil, List.length_cons, List.length_nil, List.drop_zero, List.getElem?_cons_zero, List.getElem?_cons_succ, List.take_succ_cons, List.take_zero, Bool.not_true, Bool.false_eq_true, if_true, if_false, ne_eq, not_false_eq_true, Nat.zero_add, Nat.reduceAdd, Nat.reduceLT, Nat.reduceEqDiff, decide_true, Nat.le_refl, c8_R4, c8_R5, c8_R6, h7, h8, o7, o8, h9, hcl, htk, hc, hL]
  refine MR7 z d0 m1 d1 cnt dd l ss hsl hg M D2 _ _ ⟨?_, ?_, ?_, ?_, ?_, ?_⟩
  · simp only [frL_presM, Nat.reduceShiftRight, Nat.reduceMod, get_ne, ne_eq, not_false_eq_true, Nat.reduceEqDiff, c8_L1_w, h7]
  · simp only [frL_presM, Nat.reduceShiftRight, Nat.reduceMod, get_ne, ne_eq, not_false_eq_true, Nat.reduceEqDiff, c8_L1_w, h8]
  · simp only [frL_presM, Nat.reduceShiftRight, Nat.reduceMod, get_ne, ne_eq, not_false_eq_true, Nat.reduceEqDiff, c8_L1_w, h9]
  · rw [ownH_ne (by decide)]; exact o7
  · rw [ownH_ne (by decide)]; exact o8
  · rw [ownH_ne (by decide)]; exact n77
theorem most_core (la : T) (n k : Int) (z : Zn) (m0 d0 m1 d1 cnt dd : Int) (hla : froz la = true) (l : T) (ss : List Sti) (hsl : IsSl l ss.length (ss.flatMap stC)) (hg : Good ss) (us : List Br) (hu : ∀ b ∈ us, b.i ≠ 0) (hul : us.length < 1000000)
    (hlim : DCall pE 27 [.i .i64 n] [] = some (.agg (conX (.isl .S 0 1 0 2 4) cnt dd), shL m0 d0 m1 d1)) (hzone : DCall pE 33 [.i .i64 k] [] = some (z.t, []))
    (hst : ∀ sh, DCall pE 28 [.agg (conX (.isl .S 0 1 0 2 4) cnt dd), la] sh = some (l, sh)) (hsum : DCall pE 37 [l, .i .i64 0] [] = some (.i .i64 (sumV ss), []))
    (D1 : DCall pE 34 [z.t, .agg (conC (sumV ss) d0 m1 d1 cnt dd), l] [] = some (.tup [outT us.length (us.flatMap bC), .i .i64 0], []))
    (D2 : ∀ s tt, ss = s :: tt → s.xs.getD 0 0 ≠ 0 → ∃ b bs, b.i = 0 ∧ DCall pE 34 [z.t, .agg (conC (s.xs.getD 0 0 - 1) d0 m1 d1 cnt dd), l] [] = some (.tup [outT (b :: bs).length ((b :: bs).flatMap bC), .i .i64 0], [])) :
    ∃ s, DCall pE 8 [la, .i .i64 n, .i .i64 k] [] = some (.b true, s) := by
  rw [p_fun fn8 (by simp [c8])]
  unfold Zn.t at hzone
  have hst' := hst
  unfold conX at hlim hst
  unfold shL limC at hlim
  simp (maxDischargeDepth := 6) only [DC_seq, DC_region, andThen_nrm, kv_some, ks_some, kc_some, e_nil, o_mv, o_alloc, p_fa, faV_ptr, p_ia, iaV_isl, p_ld, ldV_L, ldE_cells, p_st, stV_L, stB_box, p_call, setD, rd_t, rd_c, get_same, get_ne, getO_same, getO_ne, getO_nil, noEnt, fzW_froz1, fzWL_nil, fzWL_cons, fzV_aggK, froz_i, froz1_i, froz1_nilsl, froz1_sl, frOf, frFrom, fzV_froz, fzL_nil, fzL_cons, ups_nil, cells_agg, cells_i, noTup_agg, noTup_i, splice, part_t, part_f, Nat.reduceAdd, List.all_nil, Option.bind_some, Option.map_some, List.map_cons, List.map_nil, List.all_cons, List.all_nil, List.length_cons, List.length_nil, List.drop_zero, List.append_nil, List.nil_append, List.cons_append, List.getElem?_cons_zero, List.getElem?_cons_succ, List.take_succ_cons, List.take_zero, Bool.and_self, if_true, reduceCtorEq, ne_eq, not_false_eq_true, and_self, Nat.zero_add, Nat.add_zero, Nat.zero_mul, Nat.reduceAdd, Nat.reduceLT, Nat.reduceLeDiff, Nat.reduceEqDiff, Nat.le_refl, Nat.zero_le, Int.reduceToNat, Int.reduceLE, DC_drawsK, d_nil, d_pure, pure_mv, pure_fa, pure_ia, d_ld, ldLog_ptr, ke_some, meets_nil, getE_zero, setE_zero, stV_S, stBS_cells, c8, c8_R1, c8_R2, c8_R3, hlim, hzone, hst, hsum, dp27, dc33, dp28, dc37, dd37, froz1_rules, froz1_costs, froz1_credit, hla, hsl.froz, fzW_keepS, d_stS, isSp_ptr]
  refine MR4 z d0 m1 d1 cnt dd l ss hsl hg (sumV ss) us hu hul D1 D2 _ _ ⟨?_, ?_, ?_, ?_, ?_, ?_⟩ ?_
  all_goals first | (simp only [get_same, get_ne, getO_same, getO_ne, getO_nil, noEnt, ne_eq, not_false_eq_true, Nat.reduceEqDiff]; done) | (simp only [getO_same, getO_ne, ne_eq, not_false_eq_true, Nat.reduceEqDiff]; rfl)
theorem lim_ok (n : Int) : conOk (n % 1024) (1 + n / 8 % 4) (n / 4 % 1024) (1 + n / 16 % 4) (1 + n / 256 % 4 % (1 + n / 64 % 4)) (1 + n / 64 % 4) := by
  have h1 : 0 ≤ n / 64 % 4 := by omega
  have h2 : n / 64 % 4 ≤ 3 := by omega
  generalize n / 64 % 4 = d at *
  have h3 := Int.emod_nonneg (n / 256 % 4) (show 1 + d ≠ 0 by omega)
  have h4 := Int.emod_lt_of_pos (n / 256 % 4) (show 0 < 1 + d by omega)
  generalize n / 256 % 4 % (1 + d) = c at *
  unfold conOk
  refine ⟨⟨?_, ?_⟩, ⟨?_, ?_⟩, ⟨?_, ?_⟩, ⟨?_, ?_⟩, ⟨?_, ?_⟩, ?_, ?_⟩ <;> omega
theorem most_ev (la : T) (xs : List Int) (hl : IsSl la xs.length (ints xs)) (n k : Int) : ∃ s, DCall pE 8 [la, .i .i64 n, .i .i64 k] [] = some (.b true, s) := by
  have hlim := limS_ev con3 n
  have hok := lim_ok n
  generalize n % 1024 = m0, 1 + n / 8 % 4 = d0, n / 4 % 1024 = m1, 1 + n / 16 % 4 = d1, 1 + n / 256 % 4 % (1 + n / 64 % 4) = cnt at *
  generalize 1 + n / 64 % 4 = dd at *
  have hz := znOf_ok k
  have hst := fun sh => stS_ev sh la (.isl .S 0 1 0 2 4) (conX (.isl .S 0 1 0 2 4) cnt dd) xs hl rfl rfl
  have hg := all_good xs
  generalize stAll xs = ss at *
  have hsl : IsSl (outT ss.length (ss.flatMap stC)) ss.length (ss.flatMap stC) := outT_isl (fun h => by rw [List.length_eq_zero_iff.1 h]; rfl)
  generalize outT ss.length (ss.flatMap stC) = l at *
  have hsum := sumV_le ss (fun s hs => good_x hg hs 0)
  have h6 := hg.len
  have hok' : ∀ M, 0 ≤ M ∧ M ≤ 599999 → conOk M d0 m1 d1 cnt dd := fun M hM => ⟨hM, hok.2⟩
  have hd31 : ∀ M, ∀ x ∈ lims2 M d0 m1 d1, x.d ≤ 31 := by
    intro M x hx
    simp only [lims2, List.mem_cons, List.not_mem_nil, or_false] at hx
    rcases hx with rfl | rfl
    · exact hok.2.1.2
    · exact hok.2.2.2.1.2
  have D1 := tlim_ev (znOf k) hz (sumV ss) d0 m1 d1 cnt dd (hok' _ (by omega)) l ss hsl hg.fit hg.val
  have hul := br_len (znOf k) ss (by omega) (lims2 (sumV ss) d0 m1 d1) 0 (hd31 _)
  refine most_core la n k (znOf k) m0 d0 m1 d1 cnt dd hl.froz l ss hsl hg ((brAll (znOf k) ss 0 (lims2 (sumV ss) d0 m1 d1)).map toL) ?_ ?_ hlim (zone_ev k) hst (sum_ev l ss hsl hg) ?_ ?_
  · intro b hb
    obtain ⟨p, hp, rfl⟩ := List.mem_map.1 hb
    exact no_zero (znOf k) ss hg _ _ d0 (by have := hok.2.1; omega) _ p hp
  · rw [List.length_map]
    simp only [lims2, List.length_cons, List.length_nil] at hul ⊢
    omega
  · rw [List.length_map, ← toL_cells]; exact D1
  · intro s tt hs hx
    subst hs
    have hv := good_x hg (List.mem_cons_self : s ∈ s :: tt) 0
    have D2 := tlim_ev (znOf k) hz (s.xs.getD 0 0 - 1) d0 m1 d1 cnt dd (hok' _ (by omega)) l (s :: tt) hsl hg.fit hg.val
    obtain ⟨d, ps, he⟩ := some_zero (znOf k) s tt hg (.s [102, 108, 121, 105, 110, 103]) (.s [98, 108, 111, 99, 107]) d0 hok.2.1.1 ⟨.s [119, 111, 114, 107], .s [100, 117, 116, 105, 101, 115], m1, d1⟩
    have he' : brAll (znOf k) (s :: tt) 0 (lims2 (s.xs.getD 0 0 - 1) d0 m1 d1) = (0, d) :: ps := he
    rw [he', toL_cells] at D2
    refine ⟨toL (0, d), ps.map toL, rfl, ?_⟩
    have e : ((0, d) :: ps).map toL = toL (0, d) :: ps.map toL := rfl
    rw [e] at D2
    rw [D2]
    simp
end Go.Proofs.YtfenhjpkomldcaaGreat
