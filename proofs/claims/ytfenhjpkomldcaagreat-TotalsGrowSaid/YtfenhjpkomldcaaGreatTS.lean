/- TotalsGrow returns true: its walk. Conditions: none beyond the theorems' own. -/
import Derived.Test.YtfenhjpkomldcaaGreatTR

set_option maxRecDepth 100000
set_option maxHeartbeats 4000000
set_option linter.unusedSimpArgs false
set_option linter.unusedVariables false
namespace Go.Proofs.YtfenhjpkomldcaaGreat
open Go Go.Ev
theorem outT_f {n : Nat} {cs : List T} : froz (outT n cs) = true := by unfold outT; split <;> rfl
theorem GTa (us os vs ts : List Br) (z : Zn) (cc C : List T) (N : Nat) (hcl : cc.length = 14) (hcf : cc.all froz1 = true) (hfull : Calls4 z cc (.sl C N false) vs ts) (hin1 : ∀ x ∈ us, x ∈ vs) (hin2 : ∀ x ∈ os, x ∈ ts) (hb : us.length < 1000000 ∧ vs.length < 1000000 ∧ os.length < 1000000 ∧ ts.length < 1000000) (hless : Calls4 z cc .nilsl us os) (fr : Fr) (lh : Tri Ent) (h7 : getF fr 7 = .ptr .L 7 1 0) (h8 : getF fr 8 = .ptr .L 8 1 0) (h9 : getF fr 9 = .sl C N false) (h11 : getF fr 11 = .nilsl) (hO7 : getO lh 7 = ⟨1, .cells cc 0 true⟩) (hO8 : getO lh 8 = ⟨1, .cells [.s [108, 111, 99, 97, 108], .i .i64 z.off, shT z.sh] 0 true⟩) :
    ∃ s, endR [.tmp 6] false (DC pE 117 c11_R6 ⟨fr, lh, []⟩) = some (.b true, s) := by
  obtain ⟨sk, hknown⟩ := known_ev
  obtain ⟨f1, f2⟩ := hfull
  obtain ⟨e1, e2⟩ := hless
  obtain ⟨b1, b2, b3, b4⟩ := hb
  have htk : cc.take 14 = cc := by rw [← hcl]; exact List.take_length
  have hG2 := fun fr lh sh h12 h14 (h20 : getF fr 20 = .i .i64 0) => (loop_fix (P := fun _ => True) (let ⟨f, h⟩ := G2 _ _ us vs (outT_rec us) (outT_rec vs) b1 b2 hin1 lh sh us.length 0 fr (by omega) (by omega) h12 h14 h20; ⟨f, h, trivial⟩)).1
  have hG1 := fun fr lh sh h12 h14 (h20 : getF fr 21 = .i .i64 0) => (loop_fix (P := fun _ => True) (let ⟨f, h⟩ := G1 _ _ os ts (outT_rec os) (outT_rec ts) b3 b4 hin2 lh sh os.length 0 fr (by omega) (by omega) h12 h14 h20; ⟨f, h, trivial⟩)).1
  have hkn : ∀ fr lh sh, doCall pE (DCall pE) ⟨fr, lh, sh⟩ 32 [] = some (.b true, ⟨fr, lh, sh⟩) := by intro fr lh sh; rw [dc32 rfl, hknown]; rfl
  unfold Zn.t at f1 f2 e1 e2
  simp (maxDischargeDepth := 6) only [frL_presM, Nat.reduceShiftRight, Nat.reduceMod, DC_seq, DC_skip, DC_ret, DC_region, DC_block, p_cond, isB_b, isT_b, andThen_nrm, outOf_ext, endR_ret, kv_some, kc_some, e_nil, o_mv, p_pick, pickV_b, p_bin, p_ext, extV_tup, p_ld, ldV_L, ldE_cells, p_call, g_passF, setD, rd_t, rd_c, get_same, get_ne, resV, ansV_gen, froz_b, froz_i, froz_nilsl, froz_sl, froz_agg, froz1_i, froz1_s, fzV_froz, ups_nil, part_t, Nat.reduceAdd, List.all_nil, decide_true, bin_neq, Option.bind_some, Option.map_some, List.map_cons, List.map_nil, List.all_cons, List.all_nil, List.length_cons, List.length_nil, List.drop_zero, List.getElem?_cons_zero, List.getElem?_cons_succ, List.take_succ_cons, List.take_zero, Bool.and_self, Bool.not_true, Bool.false_eq_true, if_true, if_false, ne_eq, not_false_eq_true, Nat.zero_add, Nat.reduceAdd, Nat.reduceLT, Nat.reduceEqDiff, decide_true, Nat.le_refl, c11_R6, c11_R7, c11_R8, c11_R9, c11_R10, c11_R11, c11_R12, c11_R13, h7, h8, h9, h11, hO7, hO8, hkn, shT_f1, hcl, hcf, htk, e1, e2, f1, f2, dc34, dc41, hG2, hG1, c11_L2_w]
  exact ⟨_, rfl⟩
theorem GTb (us os vs ts : List Br) (z : Zn) (cc C : List T) (N : Nat) (hcl : cc.length = 14) (hcf : cc.all froz1 = true) (hfull : Calls4 z cc (.sl C N false) vs ts) (hin1 : ∀ x ∈ us, x ∈ vs) (hin2 : ∀ x ∈ os, x ∈ ts) (hb : us.length < 1000000 ∧ vs.length < 1000000 ∧ os.length < 1000000 ∧ ts.length < 1000000) (W : List T) (m K g wm : Nat) (hW : W.length = m * 3) (hK7 : ¬ 7 = K) (hK8 : ¬ 8 = K) (hless : Calls4 z cc (.sl W m false) us os) (fr : Fr) (lh : Tri Ent) (h7 : getF fr 7 = .ptr .L 7 1 0) (h8 : getF fr 8 = .ptr .L 8 1 0) (h9 : getF fr 9 = .sl C N false) (h11 : getF fr 11 = .isl .L K g 0 m 3) (hO7 : getO lh 7 = ⟨1, .cells cc 0 true⟩) (hO8 : getO lh 8 = ⟨1, .cells [.s [108, 111, 99, 97, 108], .i .i64 z.off, shT z.sh] 0 true⟩) (hOK : getO lh K = ⟨g, .cells W wm false⟩) :
    ∃ s, endR [.tmp 6] false (DC pE 117 c11_R6 ⟨fr, lh, []⟩) = some (.b true, s) := by
  obtain ⟨sk, hknown⟩ := known_ev
  obtain ⟨f1, f2⟩ := hfull
  obtain ⟨e1, e2⟩ := hless
  obtain ⟨b1, b2, b3, b4⟩ := hb
  have htk : cc.take 14 = cc := by rw [← hcl]; exact List.take_length
  have hG2 := fun fr lh sh h12 h14 (h20 : getF fr 20 = .i .i64 0) => (loop_fix (P := fun _ => True) (let ⟨f, h⟩ := G2 _ _ us vs (outT_rec us) (outT_rec vs) b1 b2 hin1 lh sh us.length 0 fr (by omega) (by omega) h12 h14 h20; ⟨f, h, trivial⟩)).1
  have hG1 := fun fr lh sh h12 h14 (h20 : getF fr 21 = .i .i64 0) => (loop_fix (P := fun _ => True) (let ⟨f, h⟩ := G1 _ _ os ts (outT_rec os) (outT_rec ts) b3 b4 hin2 lh sh os.length 0 fr (by omega) (by omega) h12 h14 h20; ⟨f, h, trivial⟩)).1
  have hkn : ∀ fr lh sh, doCall pE (DCall pE) ⟨fr, lh, sh⟩ 32 [] = some (.b true, ⟨fr, lh, sh⟩) := by intro fr lh sh; rw [dc32 rfl, hknown]; rfl
  unfold Zn.t at f1 f2 e1 e2
  have t1 : W.take (m * 3) = W := by rw [← hW]; exact List.take_length
  cases s1 : scalar (T.tup [outT us.length (us.flatMap bC), .i .i64 0]) <;> cases s2 : scalar (T.tup [outT os.length (os.flatMap bC), .i .i64 0])
  all_goals
    simp (maxDischargeDepth := 6) only [frL_presM, Nat.reduceShiftRight, Nat.reduceMod, DC_seq, DC_skip, DC_ret, DC_region, DC_block, p_cond, isB_b, isT_b, andThen_nrm, outOf_ext, endR_ret, kv_some, kc_some, e_nil, o_mv, p_pick, pickV_b, p_bin, p_ext, extV_tup, p_ld, ldV_L, ldE_cells, p_call, g_passF, setD, rd_t, rd_c, get_same, get_ne, getO_same, getO_ne, resV, ansV_gen, froz_b, froz_i, froz_sl, froz_agg, froz1_i, froz1_s, fzV_froz, fzL_nil, fzL_cons, fzV_isl, islV_cells, ups_nil, ups_L, part_t, Nat.reduceAdd, List.all_nil, decide_true, bin_neq, Option.bind_some, Option.map_some, List.map_cons, List.map_nil, List.all_cons, List.all_nil, List.length_cons, List.length_nil, List.drop_zero, List.append_nil, List.nil_append, List.getElem?_cons_zero, List.getElem?_cons_succ, List.take_succ_cons, List.take_zero, Bool.and_self, Bool.not_true, Bool.false_eq_true, if_true, if_false, ne_eq, not_false_eq_true, and_self, Nat.zero_add, Nat.reduceAdd, Nat.reduceLT, Nat.reduceEqDiff, decide_true, Nat.le_refl, c11_R6, c11_R7, c11_R8, c11_R9, c11_R10, c11_R11, c11_R12, c11_R13, h7, h8, h9, h11, hO7, hO8, hkn, shT_f1, hcl, hcf, htk, e1, e2, f1, f2, dc34, dc41, hG2, hG1, c11_L2_w, dp34, dp41, s1, s2, hW, t1, hK7, hK8, hOK]
    exact ⟨_, rfl⟩
theorem aux1 (a r N : Nat) (h : N = a + 1 + r) (h2 : N ≤ 6) : a ≤ 6 ∧ r ≤ 6 ∧ a + r ≤ 6 := by omega
theorem aux2 (x : Nat) (h : x ≤ 6) : x * 40 ≤ 1099511627776 := Nat.le_trans (Nat.mul_le_mul_right 40 h) (by decide)
theorem GC1 (cc C A B : List T) (N a r a' r' : Nat) (z : Zn) (us os vs ts : List Br) (hcl : cc.length = 14) (hcf : cc.all froz1 = true)
    (hN : N = a + 1 + r) (hN2 : N ≤ 6) (hC : C.length = N * 3) (hA : C.take (a * 3) = A) (hB : (C.drop ((a + 1) * 3)).take (r * 3) = B) (hAl : A.length = a * 3) (hBl : B.length = r * 3)
    (hfull : Calls4 z cc (.sl C N false) vs ts) (hless : ∀ v, IsSl v (a + r) (A ++ B) → Calls4 z cc v us os) (hin1 : ∀ x ∈ us, x ∈ vs) (hin2 : ∀ x ∈ os, x ∈ ts) (hb : us.length < 1000000 ∧ vs.length < 1000000 ∧ os.length < 1000000 ∧ ts.length < 1000000) (fr : Fr) (lh : Tri Ent) (h7 : getF fr 7 = .ptr .L 7 1 0) (h8 : getF fr 8 = .ptr .L 8 1 0) (h9 : getF fr 9 = .sl C N false) (h10 : getF fr 10 = .i .i64 (a : Int)) (hO7 : getO lh 7 = ⟨1, .cells cc 0 true⟩) (hO8 : getO lh 8 = ⟨1, .cells [.s [108, 111, 99, 97, 108], .i .i64 z.off, shT z.sh] 0 true⟩) (hO42 : getO lh 42 = noEnt) (hO47 : getO lh 47 = noEnt) (ea : a = 0) (er : r = 0) :
    ∃ s, endR [.tmp 6] false (DC pE 117 c11_R5 ⟨fr, lh, []⟩) = some (.b true, s) := by
  subst ea er
  have w1 : wr .i64 ((((0 : Nat) : Int) : Int) + 1) = ((0 + 1 : Nat) : Int) := by rw [wr64 (by omega)]; omega
  have q1 : 0 ≤ N := by omega
  have q2 : 0 + 1 ≤ N := by omega
  have q3 : N - (0 + 1) = 0 := by omega
  obtain ⟨x1, x2, x3⟩ := aux1 (0) (0) N hN hN2
  have hA0 : A = [] := List.length_eq_zero_iff.1 (by rw [hAl])
  have hB0 : B = [] := List.length_eq_zero_iff.1 (by rw [hBl])
  subst hA0 hB0
  have hl := hless .nilsl (Or.inl ⟨rfl, rfl, rfl⟩)
  simp (maxDischargeDepth := 6) only [Int.cast_ofNat_Int, wr64, Int.reduceAdd, Int.reduceNeg, DC_seq, andThen_nrm, kv_some, ka_some, e_nil, o_mv, p_bin, lenT_nil, lenT_sl, p_app, appW, slC_sl, notS_nilsl, p_slV, slVV, subV, rd_t, rd_c, get_same, get_ne, optVal, asNat_i, bin_add, Option.bind_some, Option.map_some, List.length_nil, List.drop_zero, List.nil_append, List.cons_append, Bool.false_and, if_true, ne_eq, not_false_eq_true, and_self, and_true, Nat.one_mul, Nat.zero_mul, Nat.reduceLT, Nat.reduceEqDiff, Nat.le_refl, Int.reduceToNat, Int.reduceLE, DC_drawsK, d_nil, d_pure, pure_mv, pure_bin, pure_slV, d_app0, noU_nil, noU_cons, ke_some, c11_R5, h9, h10, q1, q2, q3, hC, hA, hB, Nat.sub_zero, appV_zero, lenT_nil, Option.isSome_some, List.length_nil]
  refine GTa us os vs ts z cc C N hcl hcf hfull hin1 hin2 hb hl _ _ ?_ ?_ ?_ ?_ ?_ ?_ <;> simp only [get_same, get_ne, ne_eq, not_false_eq_true, Nat.reduceEqDiff, h7, h8, h9, hO7, hO8]
theorem GC2 (cc C A B : List T) (N a r a' r' : Nat) (z : Zn) (us os vs ts : List Br) (hcl : cc.length = 14) (hcf : cc.all froz1 = true)
    (hN : N = a + 1 + r) (hN2 : N ≤ 6) (hC : C.length = N * 3) (hA : C.take (a * 3) = A) (hB : (C.drop ((a + 1) * 3)).take (r * 3) = B) (hAl : A.length = a * 3) (hBl : B.length = r * 3)
    (hfull : Calls4 z cc (.sl C N false) vs ts) (hless : ∀ v, IsSl v (a + r) (A ++ B) → Calls4 z cc v us os) (hin1 : ∀ x ∈ us, x ∈ vs) (hin2 : ∀ x ∈ os, x ∈ ts) (hb : us.length < 1000000 ∧ vs.length < 1000000 ∧ os.length < 1000000 ∧ ts.length < 1000000) (fr : Fr) (lh : Tri Ent) (h7 : getF fr 7 = .ptr .L 7 1 0) (h8 : getF fr 8 = .ptr .L 8 1 0) (h9 : getF fr 9 = .sl C N false) (h10 : getF fr 10 = .i .i64 (a : Int)) (hO7 : getO lh 7 = ⟨1, .cells cc 0 true⟩) (hO8 : getO lh 8 = ⟨1, .cells [.s [108, 111, 99, 97, 108], .i .i64 z.off, shT z.sh] 0 true⟩) (hO42 : getO lh 42 = noEnt) (hO47 : getO lh 47 = noEnt) (ea : a = 0) (er : r = r' + 1) :
    ∃ s, endR [.tmp 6] false (DC pE 117 c11_R5 ⟨fr, lh, []⟩) = some (.b true, s) := by
  subst ea er
  have w1 : wr .i64 ((((0 : Nat) : Int) : Int) + 1) = ((0 + 1 : Nat) : Int) := by rw [wr64 (by omega)]; omega
  have q1 : 0 ≤ N := by omega
  have q2 : 0 + 1 ≤ N := by omega
  have q3 : N - (0 + 1) = r' + 1 := by omega
  obtain ⟨x1, x2, x3⟩ := aux1 (0) (r' + 1) N hN hN2
  have hA0 : A = [] := List.length_eq_zero_iff.1 (by rw [hAl])
  subst hA0
  have hl := hless (.sl B (r' + 1) false) (Or.inr ⟨false, by rw [Nat.zero_add]; rfl⟩)
  have t3 := aux2 (r' + 1) x2
  simp (maxDischargeDepth := 6) only [Int.cast_ofNat_Int, wr64, Int.reduceAdd, Int.reduceNeg, DC_seq, andThen_nrm, kv_some, ka_some, e_nil, o_mv, p_bin, lenT_nil, lenT_sl, p_app, appW, slC_sl, appV_nil, notS_nilsl, p_slV, slVV, subV, rd_t, rd_c, get_same, get_ne, noEnt, optVal, asNat_i, bin_add, Option.bind_some, Option.map_some, List.length_nil, List.drop_zero, List.nil_append, List.cons_append, Bool.false_and, if_true, ne_eq, not_false_eq_true, and_self, and_true, Nat.zero_add, Nat.one_mul, Nat.zero_mul, Nat.reduceLT, Nat.reduceEqDiff, Nat.le_refl, Int.reduceToNat, Int.reduceLE, DC_drawsK, d_nil, d_pure, pure_mv, pure_bin, pure_slV, d_app0, noU_nil, noU_cons, ke_some, c11_R5, h9, h10, hO47, noEnt, q1, q2, q3, hC, hA, hB, Nat.sub_zero, appV_zero, lenT_nil, Option.isSome_some, List.length_nil, roomy, hBl, t3]
  refine GTb us os vs ts z cc C N hcl hcf hfull hin1 hin2 hb B (r' + 1) 47 1 0 hBl (by decide) (by decide) hl _ _ ?_ ?_ ?_ ?_ ?_ ?_ ?_ <;> simp only [get_same, get_ne, getO_same, getO_ne, ne_eq, not_false_eq_true, Nat.reduceEqDiff, h7, h8, h9, hO7, hO8]
theorem GC3 (cc C A B : List T) (N a r a' r' : Nat) (z : Zn) (us os vs ts : List Br) (hcl : cc.length = 14) (hcf : cc.all froz1 = true)
    (hN : N = a + 1 + r) (hN2 : N ≤ 6) (hC : C.length = N * 3) (hA : C.take (a * 3) = A) (hB : (C.drop ((a + 1) * 3)).take (r * 3) = B) (hAl : A.length = a * 3) (hBl : B.length = r * 3)
    (hfull : Calls4 z cc (.sl C N false) vs ts) (hless : ∀ v, IsSl v (a + r) (A ++ B) → Calls4 z cc v us os) (hin1 : ∀ x ∈ us, x ∈ vs) (hin2 : ∀ x ∈ os, x ∈ ts) (hb : us.length < 1000000 ∧ vs.length < 1000000 ∧ os.length < 1000000 ∧ ts.length < 1000000) (fr : Fr) (lh : Tri Ent) (h7 : getF fr 7 = .ptr .L 7 1 0) (h8 : getF fr 8 = .ptr .L 8 1 0) (h9 : getF fr 9 = .sl C N false) (h10 : getF fr 10 = .i .i64 (a : Int)) (hO7 : getO lh 7 = ⟨1, .cells cc 0 true⟩) (hO8 : getO lh 8 = ⟨1, .cells [.s [108, 111, 99, 97, 108], .i .i64 z.off, shT z.sh] 0 true⟩) (hO42 : getO lh 42 = noEnt) (hO47 : getO lh 47 = noEnt) (ea : a = a' + 1) (er : r = 0) :
    ∃ s, endR [.tmp 6] false (DC pE 117 c11_R5 ⟨fr, lh, []⟩) = some (.b true, s) := by
  subst ea er
  have w1 : wr .i64 ((((a' + 1 : Nat) : Int) : Int) + 1) = ((a' + 1 + 1 : Nat) : Int) := by rw [wr64 (by omega)]; omega
  have q1 : a' + 1 ≤ N := by omega
  have q2 : a' + 1 + 1 ≤ N := by omega
  have q3 : N - (a' + 1 + 1) = 0 := by omega
  obtain ⟨x1, x2, x3⟩ := aux1 (a' + 1) (0) N hN hN2
  have u3 := aux2 (a' + 1) x1
  have hB0 : B = [] := List.length_eq_zero_iff.1 (by rw [hBl])
  subst hB0
  have hl := hless (.sl A (a' + 1) false) (Or.inr ⟨false, by rw [Nat.add_zero, List.append_nil]⟩)
  simp (maxDischargeDepth := 6) only [DC_seq, andThen_nrm, kv_some, ka_some, e_nil, o_mv, p_bin, lenT_sl, lenT_isl, p_app, appW, slC_sl, appV_nil, notS_nilsl, notS_isl, p_slV, slVV, subV, rd_t, rd_c, get_same, get_ne, noEnt, optVal, asNat_i, bin_add, Option.bind_some, Option.map_some, List.length_nil, List.drop_zero, List.nil_append, List.cons_append, Bool.false_and, if_true, ne_eq, not_false_eq_true, and_self, and_true, Nat.zero_add, Nat.zero_mul, Nat.reduceLT, Nat.reduceEqDiff, Nat.le_refl, Nat.zero_le, Int.toNat_natCast, Int.natCast_nonneg, DC_drawsK, d_nil, d_pure, pure_mv, pure_bin, pure_slV, d_app0, noU_nil, noU_cons, ke_some, c11_R5, h9, h10, hO42, noEnt, w1, q1, q2, q3, hC, hA, hB, Nat.sub_zero, appV_zero, lenT_isl, Option.isSome_some, List.length_nil, roomy, hAl, u3]
  refine GTb us os vs ts z cc C N hcl hcf hfull hin1 hin2 hb A (a' + 1) 42 1 0 hAl (by decide) (by decide) hl _ _ ?_ ?_ ?_ ?_ ?_ ?_ ?_ <;> simp only [get_same, get_ne, getO_same, getO_ne, ne_eq, not_false_eq_true, Nat.reduceEqDiff, h7, h8, h9, hO7, hO8]
theorem GC4 (cc C A B : List T) (N a r a' r' : Nat) (z : Zn) (us os vs ts : List Br) (hcl : cc.length = 14) (hcf : cc.all froz1 = true)
    (hN : N = a + 1 + r) (hN2 : N ≤ 6) (hC : C.length = N * 3) (hA : C.take (a * 3) = A) (hB : (C.drop ((a + 1) * 3)).take (r * 3) = B) (hAl : A.length = a * 3) (hBl : B.length = r * 3)
    (hfull : Calls4 z cc (.sl C N false) vs ts) (hless : ∀ v, IsSl v (a + r) (A ++ B) → Calls4 z cc v us os) (hin1 : ∀ x ∈ us, x ∈ vs) (hin2 : ∀ x ∈ os, x ∈ ts) (hb : us.length < 1000000 ∧ vs.length < 1000000 ∧ os.length < 1000000 ∧ ts.length < 1000000) (fr : Fr) (lh : Tri Ent) (h7 : getF fr 7 = .ptr .L 7 1 0) (h8 : getF fr 8 = .ptr .L 8 1 0) (h9 : getF fr 9 = .sl C N false) (h10 : getF fr 10 = .i .i64 (a : Int)) (hO7 : getO lh 7 = ⟨1, .cells cc 0 true⟩) (hO8 : getO lh 8 = ⟨1, .cells [.s [108, 111, 99, 97, 108], .i .i64 z.off, shT z.sh] 0 true⟩) (hO42 : getO lh 42 = noEnt) (hO47 : getO lh 47 = noEnt) (ea : a = a' + 1) (er : r = r' + 1) :
    ∃ s, endR [.tmp 6] false (DC pE 117 c11_R5 ⟨fr, lh, []⟩) = some (.b true, s) := by
  subst ea er
  have w1 : wr .i64 ((((a' + 1 : Nat) : Int) : Int) + 1) = ((a' + 1 + 1 : Nat) : Int) := by rw [wr64 (by omega)]; omega
  have q1 : a' + 1 ≤ N := by omega
  have q2 : a' + 1 + 1 ≤ N := by omega
  have q3 : N - (a' + 1 + 1) = r' + 1 := by omega
  obtain ⟨x1, x2, x3⟩ := aux1 (a' + 1) (r' + 1) N hN hN2
  have u3 := aux2 (a' + 1) x1
  have hl := hless (.sl (A ++ B) (a' + 1 + (r' + 1)) false) (Or.inr ⟨false, rfl⟩)
  have t0 : (A ++ B).length = (a' + 1 + (r' + 1)) * 3 := by rw [List.length_append, hAl, hBl]; omega
  have t3 := aux2 (a' + 1 + (r' + 1)) x3
  simp (maxDischargeDepth := 6) only [DC_seq, andThen_nrm, kv_some, ka_some, e_nil, o_mv, p_bin, lenT_sl, p_app, appW, slC_sl, appE_cells, appV_nil, appV_isl, notS_nilsl, notS_isl, p_slV, slVV, subV, rd_t, rd_c, get_same, get_ne, getO_same, noEnt, optVal, asNat_i, Nat.reduceAdd, bin_add, Option.bind_some, Option.map_some, List.drop_zero, List.nil_append, List.cons_append, Bool.false_and, if_true, ne_eq, not_false_eq_true, and_self, and_true, Nat.zero_add, Nat.zero_mul, Nat.reduceAdd, Nat.reduceLT, Nat.reduceEqDiff, Nat.le_refl, Nat.zero_le, Int.toNat_natCast, Int.natCast_nonneg, DC_drawsK, d_nil, d_pure, pure_mv, pure_bin, pure_slV, d_app0, noU_nil, noU_cons, ke_some, c11_R5, h9, h10, hO42, noEnt, w1, q1, q2, q3, hC, hA, hB, Nat.sub_zero, roomy, hAl, hBl, t3, u3]
  refine GTb us os vs ts z cc C N hcl hcf hfull hin1 hin2 hb (A ++ B) (a' + 1 + (r' + 1)) 42 2 0 t0 (by decide) (by decide) hl _ _ ?_ ?_ ?_ ?_ ?_ ?_ ?_ <;> simp only [get_same, get_ne, getO_same, getO_ne, ne_eq, not_false_eq_true, Nat.reduceEqDiff, h7, h8, h9, hO7, hO8]
theorem GC (cc C A B : List T) (N a r : Nat) (z : Zn) (us os vs ts : List Br) (hcl : cc.length = 14) (hcf : cc.all froz1 = true)
    (hN : N = a + 1 + r) (hN2 : N ≤ 6) (hC : C.length = N * 3) (hA : C.take (a * 3) = A) (hB : (C.drop ((a + 1) * 3)).take (r * 3) = B) (hAl : A.length = a * 3) (hBl : B.length = r * 3)
    (hfull : Calls4 z cc (.sl C N false) vs ts) (hless : ∀ v, IsSl v (a + r) (A ++ B) → Calls4 z cc v us os) (hin1 : ∀ x ∈ us, x ∈ vs) (hin2 : ∀ x ∈ os, x ∈ ts) (hb : us.length < 1000000 ∧ vs.length < 1000000 ∧ os.length < 1000000 ∧ ts.length < 1000000) (fr : Fr) (lh : Tri Ent) (h7 : getF fr 7 = .ptr .L 7 1 0) (h8 : getF fr 8 = .ptr .L 8 1 0) (h9 : getF fr 9 = .sl C N false) (h10 : getF fr 10 = .i .i64 (a : Int)) (hO7 : getO lh 7 = ⟨1, .cells cc 0 true⟩) (hO8 : getO lh 8 = ⟨1, .cells [.s [108, 111, 99, 97, 108], .i .i64 z.off, shT z.sh] 0 true⟩) (hO42 : getO lh 42 = noEnt) (hO47 : getO lh 47 = noEnt) :
    ∃ s, endR [.tmp 6] false (DC pE 117 c11_R5 ⟨fr, lh, []⟩) = some (.b true, s) := by
  cases a with
  | zero =>
    cases r with
    | zero => exact GC1 cc C A B N 0 0 0 0 z us os vs ts hcl hcf hN hN2 hC hA hB hAl hBl hfull hless hin1 hin2 hb fr lh h7 h8 h9 h10 hO7 hO8 hO42 hO47 rfl rfl
    | succ r => exact GC2 cc C A B N 0 (r + 1) 0 r z us os vs ts hcl hcf hN hN2 hC hA hB hAl hBl hfull hless hin1 hin2 hb fr lh h7 h8 h9 h10 hO7 hO8 hO42 hO47 rfl rfl
  | succ a =>
    cases r with
    | zero => exact GC3 cc C A B N (a + 1) 0 a 0 z us os vs ts hcl hcf hN hN2 hC hA hB hAl hBl hfull hless hin1 hin2 hb fr lh h7 h8 h9 h10 hO7 hO8 hO42 hO47 rfl rfl
    | succ r => exact GC4 cc C A B N (a + 1) (r + 1) a r z us os vs ts hcl hcf hN hN2 hC hA hB hAl hBl hfull hless hin1 hin2 hb fr lh h7 h8 h9 h10 hO7 hO8 hO42 hO47 rfl rfl
theorem grow_core (la : T) (n k : Int) (cc C A B : List T) (N a r : Nat) (z : Zn) (us os vs ts : List Br) (hcl : cc.length = 14) (hcf : cc.all froz1 = true)
    (hN : N = a + 1 + r) (hN2 : N ≤ 6) (hC : C.length = N * 3) (hA : C.take (a * 3) = A) (hB : (C.drop ((a + 1) * 3)).take (r * 3) = B) (hAl : A.length = a * 3) (hBl : B.length = r * 3)
    (hfull : Calls4 z cc (.sl C N false) vs ts) (hless : ∀ v, IsSl v (a + r) (A ++ B) → Calls4 z cc v us os) (hin1 : ∀ x ∈ us, x ∈ vs) (hin2 : ∀ x ∈ os, x ∈ ts) (hb : us.length < 1000000 ∧ vs.length < 1000000 ∧ os.length < 1000000 ∧ ts.length < 1000000) (hla : froz la = true)
    (hlim : DCall pE 27 [.i .i64 n] [] = some (.agg cc, [])) (hzone : DCall pE 33 [.i .i64 k] [] = some (z.t, [])) (hst : DCall pE 28 [.agg cc, la] [] = some (.sl C N false, []))
    (hat : (k / 65536 % 8).tmod (N : Int) = (a : Int)) :
    ∃ s, DCall pE 11 [la, .i .i64 n, .i .i64 k] [] = some (.b true, s) := by
  rw [p_fun fn11 (by simp [c11])]
  have htk : cc.take 14 = cc := by rw [← hcl]; exact List.take_length
  have hsp := splice_full [T.i IntKind.i64 0, T.i IntKind.i64 0, T.i IntKind.i64 0, T.i IntKind.i64 0, T.i IntKind.i64 0, T.i IntKind.i64 0, T.i IntKind.i64 0, T.nilsl, T.nilsl, T.nilsl, T.nilsl, T.nilsl, T.nilsl, T.i IntKind.i64 0] cc (by rw [hcl]; rfl)
  have hn0 : ¬ (N : Int) = 0 := by omega
  unfold Zn.t at hzone
  simp (maxDischargeDepth := 6) only [and_7, shr_16, DC_seq, DC_skip, DC_region, p_cond, isB_b, isT_b, andThen_nrm, kv_some, ks_some, kc_some, e_nil, o_mv, o_alloc, p_bin, p_lenV, lenI_sl, p_ld, ldV_L, ldE_cells, p_st, stV_L, stB_box, p_call, setD, rd_t, rd_c, get_same, get_ne, getO_same, getO_ne, getO_nil, noEnt, froz_i, froz_agg, frOf, frFrom, cells_agg, noTup_agg, splice, part_t, Nat.reduceAdd, List.all_nil, bin_rem, bin_eql, Option.bind_some, Option.map_some, List.map_cons, List.map_nil, List.all_cons, List.all_nil, List.length_cons, List.length_nil, List.drop_zero, Bool.and_self, Bool.false_eq_true, if_true, if_false, reduceCtorEq, ne_eq, not_false_eq_true, and_self, Nat.zero_add, Nat.reduceAdd, Nat.reduceLT, Nat.reduceEqDiff, decide_false, Nat.le_refl, c11, c11_R1, c11_R2, c11_R3, c11_R4, hlim, hzone, hst, dc27, dc33, dc28, hcl, hcf, htk, hsp, hla, hn0, hat]
  refine GC cc C A B N a r z us os vs ts hcl hcf hN hN2 hC hA hB hAl hBl hfull hless hin1 hin2 hb _ _ ?_ ?_ ?_ ?_ ?_ ?_ ?_ ?_ <;> simp only [get_same, get_ne, getO_same, getO_ne, getO_nil, noEnt, ne_eq, not_false_eq_true, Nat.reduceEqDiff, noEnt]
end Go.Proofs.YtfenhjpkomldcaaGreat
