/- TotalsMoves returns true at every input. Conditions: none beyond the theorems' own. -/
import Derived.Test.YtfenhjpkomldcaaGreatTX
set_option maxRecDepth 100000
set_option maxHeartbeats 4000000
set_option linter.unusedSimpArgs false
set_option linter.unusedVariables false
namespace Go.Proofs.YtfenhjpkomldcaaGreat
open Go Go.Ev
theorem MR12 (fr : Fr) (lh : Tri Ent) (u v s t : T) (h13 : getF fr 13 = u) (h15 : getF fr 15 = v) (h17 : getF fr 17 = s) (h19 : getF fr 19 = t) (h14 : getF fr 14 = .i .i64 0) (h16 : getF fr 16 = .i .i64 0) (h18 : getF fr 18 = .i .i64 0) (h20 : getF fr 20 = .i .i64 0)
    (e1 : ∀ z fr sh, doCall pE (DCall pE) z ⟨fr, lh, sh⟩ 36 [u, v] = some (.b true, ⟨fr, lh, sh⟩)) (e2 : ∀ z fr sh, doCall pE (DCall pE) z ⟨fr, lh, sh⟩ 36 [s, t] = some (.b true, ⟨fr, lh, sh⟩)) :
    ∃ s, endR [.tmp 6] false (DC pE 158 c12_R12 ⟨fr, lh, []⟩) = some (.b true, s) := by
  obtain ⟨sk, hknown⟩ := known_ev
  have hkn : ∀ z fr lh sh, doCall pE (DCall pE) z ⟨fr, lh, sh⟩ 32 [] = some (.b true, ⟨fr, lh, sh⟩) := by intro z fr lh sh; rw [dc32 rfl, hknown]; rfl
  simp (maxDischargeDepth := 6) only [DC_seq, DC_ret, DC_region, andThen_nrm, endR_ret, kv_some, kc_some, e_nil, o_mv, p_pick, pickV_b, p_bin, p_call, g_passT, setD, rd_t, rd_c, get_same, get_ne, resV, ansV_gen, froz_b, fzV_froz, ups_nil, decide_true, bin_eql, Option.bind_some, Option.map_some, List.map_cons, List.map_nil, if_true, ne_eq, not_false_eq_true, Nat.reduceLT, Nat.reduceEqDiff, decide_true, c12_R12, h13, h14, h15, h16, h17, h18, h19, h20, e1, e2, hkn]
  exact ⟨_, rfl⟩
section
variable (d : Int) (hd : 0 ≤ d ∧ d ≤ 64) (us os : List Br) (hu1 : Near us) (hu2 : us.length < 1000000) (ho1 : Near os) (ho2 : os.length < 1000000)
include hd hu1 hu2 ho1 ho2
theorem MR11 (fr : Fr) (lh : Tri Ent) (u v s t : T) (h10 : getF fr 10 = .i .i64 d) (h13 : getF fr 13 = u) (h15 : getF fr 15 = v) (h17 : getF fr 17 = s) (h19 : getF fr 19 = t) (h14 : getF fr 14 = .i .i64 0) (h16 : getF fr 16 = .i .i64 0) (h18 : getF fr 18 = .i .i64 0) (h20 : getF fr 20 = .i .i64 0)
    (Hu : OwS lh u 73 us.length ((us.map (Br.mv d)).flatMap bC)) (Hv : OwS lh v 80 (us.map (Br.mv d)).length ((us.map (Br.mv d)).flatMap bC)) (Hs : OwS lh s 87 os.length (os.flatMap bC)) (Ht : OwS lh t 98 (os.map (Br.mv d)).length ((os.map (Br.mv d)).flatMap bC)) :
    ∃ s, endR [.tmp 6] false (DC pE 158 c12_R11 ⟨fr, lh, []⟩) = some (.b true, s) := by
  have _ := hu1
  have hL := fun fr (a : getF fr 17 = s) (b : getF fr 22 = .i .i64 0) (c : getF fr 10 = .i .i64 d) => loop_fix2 (ML1' os ho1 ho2 d hd fr lh [] s Hs a b c)
  simp (maxDischargeDepth := 6) only [DC_seq, DC_region, DC_block, andThen_nrm, outOf_ext, e_nil, o_mv, rd_c, get_same, get_ne, Option.map_some, if_true, ne_eq, not_false_eq_true, Nat.reduceLT, Nat.reduceEqDiff, c12_R11, h10, h17, (hL _ _ _ _).1]
  have hL' := (hL (setF fr 22 (.i .i64 0)) (by simp only [get_ne, ne_eq, not_false_eq_true, Nat.reduceEqDiff, h17]) (by simp only [get_same]) (by simp only [get_ne, ne_eq, not_false_eq_true, Nat.reduceEqDiff, h10])).2
  refine MR12 _ _ u v s t ?_ ?_ ?_ ?_ ?_ ?_ ?_ ?_ (fun z fr sh => same_call (us.map (Br.mv d)) (by simpa using hu2) _ (by simp) rfl (Hu.congr (hL'.2 _ (by decide))) (Hv.congr (hL'.2 _ (by decide))) z fr sh) (fun z fr sh => same_call (os.map (Br.mv d)) (by simpa using ho2) _ (by simp) rfl hL'.1 (Ht.congr (hL'.2 _ (by decide))) z fr sh)
  all_goals simp only [frL_presM, Nat.reduceShiftRight, Nat.reduceMod, get_ne, ne_eq, not_false_eq_true, Nat.reduceEqDiff, c12_L1_w, h13, h14, h15, h16, h17, h18, h19, h20]
theorem MR10 (fr : Fr) (lh : Tri Ent) (u v s t : T) (h10 : getF fr 10 = .i .i64 d) (h13 : getF fr 13 = u) (h15 : getF fr 15 = v) (h17 : getF fr 17 = s) (h19 : getF fr 19 = t) (h14 : getF fr 14 = .i .i64 0) (h16 : getF fr 16 = .i .i64 0) (h18 : getF fr 18 = .i .i64 0) (h20 : getF fr 20 = .i .i64 0)
    (Hu : OwS lh u 73 us.length (us.flatMap bC)) (Hv : OwS lh v 80 (us.map (Br.mv d)).length ((us.map (Br.mv d)).flatMap bC)) (Hs : OwS lh s 87 os.length (os.flatMap bC)) (Ht : OwS lh t 98 (os.map (Br.mv d)).length ((os.map (Br.mv d)).flatMap bC)) :
    ∃ s, endR [.tmp 6] false (DC pE 158 c12_R10 ⟨fr, lh, []⟩) = some (.b true, s) := by
  have hL := fun fr (a : getF fr 13 = u) (b : getF fr 21 = .i .i64 0) (c : getF fr 10 = .i .i64 d) => loop_fix2 (ML2' us hu1 hu2 d hd fr lh [] u Hu a b c)
  simp (maxDischargeDepth := 6) only [DC_seq, DC_region, DC_block, andThen_nrm, outOf_ext, e_nil, o_mv, rd_c, get_same, get_ne, Option.map_some, if_true, ne_eq, not_false_eq_true, Nat.reduceLT, Nat.reduceEqDiff, c12_R10, h10, h13, (hL _ _ _ _).1]
  have hL' := (hL (setF fr 21 (.i .i64 0)) (by simp only [get_ne, ne_eq, not_false_eq_true, Nat.reduceEqDiff, h13]) (by simp only [get_same]) (by simp only [get_ne, ne_eq, not_false_eq_true, Nat.reduceEqDiff, h10])).2
  refine MR11 d hd us os hu1 hu2 ho1 ho2 _ _ u v s t ?_ ?_ ?_ ?_ ?_ ?_ ?_ ?_ ?_ hL'.1 (Hv.congr (hL'.2 _ (by decide))) (Hs.congr (hL'.2 _ (by decide))) (Ht.congr (hL'.2 _ (by decide)))
  all_goals simp only [frL_presM, Nat.reduceShiftRight, Nat.reduceMod, get_ne, ne_eq, not_false_eq_true, Nat.reduceEqDiff, c12_L2_w, h10, h13, h14, h15, h16, h17, h18, h19, h20]
variable (z : Zn) (cc : List T) (hcl : cc.length = 14) (hcf : cc.all froz1 = true) (l : T) (hl : froz l = true) (N : Nat) (C : List T)
  (D1 : DCall pE 34 [z.t, .agg cc, l] [] = some (.tup [outT us.length (us.flatMap bC), .i .i64 0], []))
  (D2 : DCall pE 34 [z.t, .agg cc, outT N C] [] = some (.tup [outT (us.map (Br.mv d)).length ((us.map (Br.mv d)).flatMap bC), .i .i64 0], []))
  (D3 : DCall pE 41 [z.t, .agg cc, l, .i .i64 9000, .i .i64 9005] [] = some (.tup [outT os.length (os.flatMap bC), .i .i64 0], []))
  (D4 : DCall pE 41 [z.t, .agg cc, outT N C, .i .i64 (9000 + d), .i .i64 (9005 + d)] [] = some (.tup [outT (os.map (Br.mv d)).length ((os.map (Br.mv d)).flatMap bC), .i .i64 0], []))
include hcl hcf hl D1 D2 D3 D4
theorem MR9 (fr : Fr) (lh : Tri Ent) (u v s m : T) (h7 : getF fr 7 = .ptr .L 7 1 0) (h8 : getF fr 8 = .ptr .L 8 1 0) (hO7 : getO lh 7 = ⟨1, .cells cc 0 true⟩) (hO8 : getO lh 8 = ⟨1, .cells [.s [108, 111, 99, 97, 108], .i .i64 z.off, shT z.sh] 0 true⟩) (h10 : getF fr 10 = .i .i64 d)
    (h11 : getF fr 11 = m) (Hm : OutS lh m 68 3 N C) (h13 : getF fr 13 = u) (h15 : getF fr 15 = v) (h17 : getF fr 17 = s) (h14 : getF fr 14 = .i .i64 0) (h16 : getF fr 16 = .i .i64 0) (h18 : getF fr 18 = .i .i64 0)
    (Hu : OwS lh u 73 us.length (us.flatMap bC)) (Hv : OwS lh v 80 (us.map (Br.mv d)).length ((us.map (Br.mv d)).flatMap bC)) (Hs : OwS lh s 87 os.length (os.flatMap bC)) (n98 : getO lh 98 = noEnt) :
    ∃ s, endR [.tmp 6] false (DC pE 158 c12_R9 ⟨fr, lh, []⟩) = some (.b true, s) := by
  have _ := hl
  have _ := D1
  have _ := D2
  have _ := D3
  obtain ⟨us0, hm⟩ := Hm.fz []
  obtain ⟨us1, hz⟩ := fzL_m (z := z) (rest := [.i .i64 (9000 + d), .i .i64 (9005 + d)]) hcf hm rfl
  have hc := own_call (fun _ _ _ _ _ => dp41) D4 (bC_scal _) (bC_len _) hz n98
  have htk : cc.take 14 = cc := by rw [← hcl]; exact List.take_length
  have w1 : wr .i64 (9000 + d) = 9000 + d := wr64 (by omega)
  have w2 : wr .i64 (9005 + d) = 9005 + d := wr64 (by omega)
  simp (maxDischargeDepth := 6) only [DC_seq, DC_region, andThen_nrm, kv_some, kc_some, e_nil, o_mv, p_bin, p_ext, extV_tup, p_ld, ldV_L, ldE_cells, p_call, setD, rd_t, rd_c, get_same, get_ne, part_t, Nat.reduceAdd, bin_add, Option.map_some, List.map_cons, List.map_nil, List.length_cons, List.length_nil, List.drop_zero, List.getElem?_cons_zero, List.getElem?_cons_succ, List.take_succ_cons, List.take_zero, if_true, ne_eq, not_false_eq_true, Nat.zero_add, Nat.reduceAdd, Nat.reduceLT, Nat.reduceEqDiff, Nat.le_refl, c12_R9, h7, h8, hO7, hO8, h10, h11, hcl, htk, w1, w2, hc]
  refine MR10 d hd us os hu1 hu2 ho1 ho2 _ _ u v s _ ?_ ?_ ?_ ?_ ?_ ?_ ?_ ?_ ?_ (Hu.congr (ownH_ne (by decide))) (Hv.congr (ownH_ne (by decide))) (Hs.congr (ownH_ne (by decide))) (own_S (bC_len _))
  all_goals simp only [get_same, get_ne, ne_eq, not_false_eq_true, Nat.reduceEqDiff, h10, h13, h14, h15, h16, h17, h18]
theorem MR8 (fr : Fr) (lh : Tri Ent) (u v m : T) (h7 : getF fr 7 = .ptr .L 7 1 0) (h8 : getF fr 8 = .ptr .L 8 1 0) (hO7 : getO lh 7 = ⟨1, .cells cc 0 true⟩) (hO8 : getO lh 8 = ⟨1, .cells [.s [108, 111, 99, 97, 108], .i .i64 z.off, shT z.sh] 0 true⟩) (h9 : getF fr 9 = l) (h10 : getF fr 10 = .i .i64 d)
    (h11 : getF fr 11 = m) (Hm : OutS lh m 68 3 N C) (h13 : getF fr 13 = u) (h15 : getF fr 15 = v) (h14 : getF fr 14 = .i .i64 0) (h16 : getF fr 16 = .i .i64 0)
    (Hu : OwS lh u 73 us.length (us.flatMap bC)) (Hv : OwS lh v 80 (us.map (Br.mv d)).length ((us.map (Br.mv d)).flatMap bC)) (n87 : getO lh 87 = noEnt) (n98 : getO lh 98 = noEnt) :
    ∃ s, endR [.tmp 6] false (DC pE 158 c12_R8 ⟨fr, lh, []⟩) = some (.b true, s) := by
  obtain ⟨us1, hz⟩ := fzL_m (z := z) (lh := lh) (sh := []) (rest := [.i .i64 9000, .i .i64 9005]) hcf (fzV_froz hl) rfl
  have hc := own_call (fun _ _ _ _ _ => dp41) D3 (bC_scal _) (bC_len _) hz n87
  have htk : cc.take 14 = cc := by rw [← hcl]; exact List.take_length
  simp (maxDischargeDepth := 6) only [DC_seq, DC_region, andThen_nrm, kv_some, kc_some, e_nil, o_mv, p_ext, extV_tup, p_ld, ldV_L, ldE_cells, p_call, setD, rd_t, rd_c, get_same, get_ne, part_t, Nat.reduceAdd, Option.map_some, List.map_cons, List.map_nil, List.length_cons, List.length_nil, List.drop_zero, List.getElem?_cons_zero, List.getElem?_cons_succ, List.take_succ_cons, List.take_zero, if_true, ne_eq, not_false_eq_true, Nat.zero_add, Nat.reduceAdd, Nat.reduceLT, Nat.reduceEqDiff, Nat.le_refl, c12_R8, h7, h8, hO7, hO8, h9, hcl, htk, hc]
  refine MR9 d hd us os hu1 hu2 ho1 ho2 z cc hcl hcf l hl N C D1 D2 D3 D4 _ _ u v _ m ?_ ?_ ?_ ?_ ?_ ?_ (Hm.congr (ownH_ne (by decide))) ?_ ?_ ?_ ?_ ?_ ?_ (Hu.congr (ownH_ne (by decide))) (Hv.congr (ownH_ne (by decide))) (own_S (bC_len _)) (by rw [ownH_ne (by decide)]; exact n98)
  all_goals first | (simp only [get_same, get_ne, ne_eq, not_false_eq_true, Nat.reduceEqDiff, h7, h8, h10, h11, h13, h14, h15, h16]; done) | (rw [ownH_ne (by decide)]; assumption)
theorem MR7 (fr : Fr) (lh : Tri Ent) (u m : T) (h7 : getF fr 7 = .ptr .L 7 1 0) (h8 : getF fr 8 = .ptr .L 8 1 0) (hO7 : getO lh 7 = ⟨1, .cells cc 0 true⟩) (hO8 : getO lh 8 = ⟨1, .cells [.s [108, 111, 99, 97, 108], .i .i64 z.off, shT z.sh] 0 true⟩) (h9 : getF fr 9 = l) (h10 : getF fr 10 = .i .i64 d)
    (h11 : getF fr 11 = m) (Hm : OutS lh m 68 3 N C) (h13 : getF fr 13 = u) (h14 : getF fr 14 = .i .i64 0)
    (Hu : OwS lh u 73 us.length (us.flatMap bC)) (n80 : getO lh 80 = noEnt) (n87 : getO lh 87 = noEnt) (n98 : getO lh 98 = noEnt) :
    ∃ s, endR [.tmp 6] false (DC pE 158 c12_R7 ⟨fr, lh, []⟩) = some (.b true, s) := by
  obtain ⟨us0, hm⟩ := Hm.fz []
  obtain ⟨us1, hz⟩ := fzL_m (z := z) (rest := []) hcf hm rfl
  have hc := own_call (fun _ _ _ _ _ => dp34) D2 (bC_scal _) (bC_len _) hz n80
  have htk : cc.take 14 = cc := by rw [← hcl]; exact List.take_length
  simp (maxDischargeDepth := 6) only [DC_seq, DC_region, andThen_nrm, kv_some, kc_some, e_nil, o_mv, p_ext, extV_tup, p_ld, ldV_L, ldE_cells, p_call, setD, rd_t, get_same, get_ne, part_t, Nat.reduceAdd, Option.map_some, List.map_cons, List.map_nil, List.length_cons, List.length_nil, List.drop_zero, List.getElem?_cons_zero, List.getElem?_cons_succ, List.take_succ_cons, List.take_zero, if_true, ne_eq, not_false_eq_true, Nat.zero_add, Nat.reduceAdd, Nat.reduceLT, Nat.reduceEqDiff, Nat.le_refl, c12_R7, h7, h8, hO7, hO8, h11, hcl, htk, hc]
  refine MR8 d hd us os hu1 hu2 ho1 ho2 z cc hcl hcf l hl N C D1 D2 D3 D4 _ _ u _ m ?_ ?_ ?_ ?_ ?_ ?_ ?_ (Hm.congr (ownH_ne (by decide))) ?_ ?_ ?_ ?_ (Hu.congr (ownH_ne (by decide))) (own_S (bC_len _)) (by rw [ownH_ne (by decide)]; exact n87) (by rw [ownH_ne (by decide)]; exact n98)
  all_goals first | (simp only [get_same, get_ne, ne_eq, not_false_eq_true, Nat.reduceEqDiff, h7, h8, h9, h10, h11, h13, h14]; done) | (rw [ownH_ne (by decide)]; assumption)
theorem MR6 (fr : Fr) (lh : Tri Ent) (m : T) (h7 : getF fr 7 = .ptr .L 7 1 0) (h8 : getF fr 8 = .ptr .L 8 1 0) (hO7 : getO lh 7 = ⟨1, .cells cc 0 true⟩) (hO8 : getO lh 8 = ⟨1, .cells [.s [108, 111, 99, 97, 108], .i .i64 z.off, shT z.sh] 0 true⟩) (h9 : getF fr 9 = l) (h10 : getF fr 10 = .i .i64 d)
    (h11 : getF fr 11 = m) (Hm : OutS lh m 68 3 N C) (n73 : getO lh 73 = noEnt) (n80 : getO lh 80 = noEnt) (n87 : getO lh 87 = noEnt) (n98 : getO lh 98 = noEnt) :
    ∃ s, endR [.tmp 6] false (DC pE 158 c12_R6 ⟨fr, lh, []⟩) = some (.b true, s) := by
  obtain ⟨us1, hz⟩ := fzL_m (z := z) (lh := lh) (sh := []) (rest := []) hcf (fzV_froz hl) rfl
  have hc := own_call (fun _ _ _ _ _ => dp34) D1 (bC_scal _) (bC_len _) hz n73
  have htk : cc.take 14 = cc := by rw [← hcl]; exact List.take_length
  simp (maxDischargeDepth := 6) only [DC_seq, DC_region, andThen_nrm, kv_some, kc_some, e_nil, o_mv, p_ext, extV_tup, p_ld, ldV_L, ldE_cells, p_call, setD, rd_t, get_same, get_ne, part_t, Nat.reduceAdd, Option.map_some, List.map_cons, List.map_nil, List.length_cons, List.length_nil, List.drop_zero, List.getElem?_cons_zero, List.getElem?_cons_succ, List.take_succ_cons, List.take_zero, if_true, ne_eq, not_false_eq_true, Nat.zero_add, Nat.reduceAdd, Nat.reduceLT, Nat.reduceEqDiff, Nat.le_refl, c12_R6, h7, h8, hO7, hO8, h9, hcl, htk, hc]
  refine MR7 d hd us os hu1 hu2 ho1 ho2 z cc hcl hcf l hl N C D1 D2 D3 D4 _ _ _ m ?_ ?_ ?_ ?_ ?_ ?_ ?_ (Hm.congr (ownH_ne (by decide))) ?_ ?_ (own_S (bC_len _)) (by rw [ownH_ne (by decide)]; exact n80) (by rw [ownH_ne (by decide)]; exact n87) (by rw [ownH_ne (by decide)]; exact n98)
  all_goals first | (simp only [get_same, get_ne, ne_eq, not_false_eq_true, Nat.reduceEqDiff, h7, h8, h9, h10, h11]; done) | (rw [ownH_ne (by decide)]; assumption)
end
end Go.Proofs.YtfenhjpkomldcaaGreat
