/- The built inputs: numbers, zones, contracts. Conditions: none beyond the theorems' own. -/
import Derived.Test.YtfenhjpkomldcaaGreatTB
import Derived.Test.YtfenhjpkomldcaaGreatMS
set_option maxRecDepth 100000
set_option linter.unusedSimpArgs false
set_option linter.unusedVariables false
namespace Go.Proofs.YtfenhjpkomldcaaGreat
open Go Go.Ev
def atV (xs : List Int) (i : Nat) : Int := if xs.length = 0 then (i : Int) % 65536 else xs.getD (i % xs.length) 0 % 65536 + ((i / xs.length : Nat) : Int)
theorem atV_nn (xs : List Int) (i : Nat) : 0 ≤ atV xs i := by
  unfold atV; split
  · omega
  · have : (0 : Int) ≤ ((i / xs.length : Nat) : Int) := Int.natCast_nonneg _
    omega
theorem atV_lt (xs : List Int) (i : Nat) : atV xs i ≤ 65535 + i := by
  unfold atV; split
  · omega
  · have : i / xs.length ≤ i := Nat.div_le_self _ _
    omega
theorem at_ev (l : T) (xs : List Int) (hl : IsSl l xs.length (ints xs)) (i : Nat) (hi : i < 1000000) : DCall pE 66 [l, .i .i64 (i : Int)] [] = some (.i .i64 (atV xs i), []) := by
  rw [p_fun fn66 (by simp [c66])]
  by_cases h : xs.length = 0
  · have h' : ((xs.length : Nat) : Int) = 0 := by omega
    have ha : atV xs i = (i : Int) % 65536 := by unfold atV; rw [if_pos h]
    simp only [and_65535, DC_seq, DC_skip, DC_ret, DC_region, p_cond, isB_b, isT_b, andThen_nrm, andThen_ret, endR_ret, kv_some, e_nil, o_mv, p_bin, p_lenV, rd_t, rd_c, get_same, get_ne, resV, ansV_gen, froz_i, frOf, frFrom, fzV_froz, ups_nil, decide_true, bin_eql, Option.bind_some, Option.map_some, if_true, reduceCtorEq, ne_eq, not_false_eq_true, Nat.zero_add, Nat.reduceLT, Nat.reduceEqDiff, decide_true, c66, hl.lenI, h', ha]
  · have h' : ¬ ((xs.length : Nat) : Int) = 0 := by omega
    have hlt : i % xs.length < xs.length := Nat.mod_lt _ (by omega)
    have ha : atV xs i = xs[i % xs.length] % 65536 + ((i / xs.length : Nat) : Int) := by
      unfold atV; rw [if_neg h]; simp [List.getD_eq_getElem?_getD, hlt]
    have e1 : ((i : Int)).tmod (xs.length : Int) = ((i % xs.length : Nat) : Int) := by rw [tmod_nn (Int.natCast_nonneg i)]; exact (Int.natCast_emod i xs.length).symm
    have e2 : ((i : Int)).tdiv (xs.length : Int) = ((i / xs.length : Nat) : Int) := by rw [Int.tdiv_eq_ediv_of_nonneg (Int.natCast_nonneg i)]; exact (Int.natCast_ediv i xs.length).symm
    have hdl : i / xs.length ≤ i := Nat.div_le_self _ _
    have hdn : 0 ≤ ((i / xs.length : Nat) : Int) := Int.natCast_nonneg _
    have hdl' : ((i / xs.length : Nat) : Int) ≤ (i : Int) := Int.ofNat_le.2 hdl
    have hi' : (i : Int) < 1000000 := by omega
    generalize ((i / xs.length : Nat) : Int) = q at *
    have w1 : wr .i64 q = q := wr64 (by omega)
    have w2 : wr .i64 (xs[i % xs.length] % 65536 + q) = xs[i % xs.length] % 65536 + q := wr64 (by omega)
    have hia : ∀ kk, iaV l (.i kk ((i % xs.length : Nat) : Int)) 1 = some (.vp (T.i .i64 xs[i % xs.length] :: (ints xs).drop (i % xs.length + 1))) := fun kk => by rw [hl.ia (sz := 1) (by rw [ints_len]; omega) hlt, Nat.mul_one, ints_drop xs _ hlt]
    simp only [and_65535, DC_seq, DC_skip, DC_ret, DC_region, DC_calm, p_cond, isB_b, isT_b, andThen_nrm, endR_ret, kv_some, e_nil, o_mv, p_bin, p_ia, p_lenV, p_ld, ldV_vp, rd_t, rd_c, get_same, get_ne, resV, ansV_gen, froz_i, frOf, frFrom, fzV_froz, ups_nil, part_f, backD, calmOp, Nat.reduceAdd, List.all_nil, bin_add, bin_quo, bin_rem, bin_eql, Option.bind_some, Option.map_some, List.map_cons, List.map_nil, List.all_nil, List.getElem?_cons_zero, Bool.and_self, Bool.false_eq_true, if_false, reduceCtorEq, ne_eq, not_false_eq_true, Nat.zero_add, Nat.reduceAdd, Nat.reduceLT, Nat.reduceEqDiff, decide_false, c66, hl.lenI, h', e1, e2, hia, w1, w2, ha]
def znOf (n : Int) : Zn := ⟨n % 8 * 60 - 180, if n / 8 % 2 = 1 then some (12960360 + n / 16 % 1024, n % 8 * 60 - 180 + 60 - n / 16384 % 2 * 120) else none⟩
theorem znOf_ok (n : Int) : (znOf n).ok := by
  refine ⟨by simp only [znOf]; omega, by simp only [znOf]; omega, ?_⟩
  intro a o h
  simp only [znOf] at h
  split at h
  · simp at h; omega
  · cases h
theorem zone_ev (n : Int) : DCall pE 33 [.i .i64 n] [] = some ((znOf n).t, []) := by
  rw [p_fun fn33 (by simp [c33])]
  have w1 : wr .i64 (n % 8 * 60) = n % 8 * 60 := wr64 (by omega)
  have w2 : wr .i64 (n % 8 * 60 - 180) = n % 8 * 60 - 180 := wr64 (by omega)
  by_cases h : n / 8 % 2 = 1
  · have w3 : wr .i64 (12960360 + n / 16 % 1024) = 12960360 + n / 16 % 1024 := wr64 (by omega)
    have w4 : wr .i64 (n % 8 * 60 - 180 + 60) = n % 8 * 60 - 180 + 60 := wr64 (by omega)
    have w5 : wr .i64 (n / 16384 % 2 * 120) = n / 16384 % 2 * 120 := wr64 (by omega)
    have w6 : wr .i64 (n % 8 * 60 - 180 + 60 - n / 16384 % 2 * 120) = n % 8 * 60 - 180 + 60 - n / 16384 % 2 * 120 := wr64 (by omega)
    simp only [and_1, and_7, and_1023, shr_3, shr_4, shr_14, DC_seq, DC_skip, DC_ret, DC_region, p_cond, isB_b, isT_b, andThen_nrm, endR_ret, map_ite, kv_some, ks_some, kc_some, e_nil, o_mv, o_alloc, p_bin, p_build, buildV, p_fa, faV_ptr, p_ld, ldV_L, ldE_cells, p_st, stV_L, stB_box, p_bsl, bslV, setD, rd_t, rd_c, get_same, get_ne, getO_same, getO_ne, getO_nil, noEnt, resV, ansV_gen, bslW, froz_agg, froz1_i, froz1_s, froz1_sl, frOf, frFrom, fzV_froz, fzL_nil, fzL_cons, ups_nil, cells_agg, cells_i, cells_s, cells_sl, noTup_agg, noTup_i, noTup_s, noTup_sl, splice, part_t, part_f, fills, repl, Nat.reduceAdd, List.all_nil, decide_true, bin_add, bin_sub, bin_mul, bin_eql, Option.bind_some, Option.map_some, Option.map_none, List.map_cons, List.map_nil, List.all_cons, List.all_nil, List.length_cons, List.length_nil, List.drop_zero, List.append_nil, List.getElem?_cons_zero, List.getElem?_cons_succ, List.take_succ_cons, List.take_zero, List.zip_cons_cons, List.zip_nil_left, Bool.and_self, if_true, reduceCtorEq, ne_eq, not_false_eq_true, and_self, Nat.zero_add, Nat.zero_mul, Nat.reduceAdd, Nat.reduceLT, Nat.reduceLeDiff, Nat.reduceEqDiff, decide_true, Nat.le_refl, Nat.zero_le, c33, w1, w2, w3, w4, w5, w6, h, znOf, Zn.t, shT]
  · simp only [and_1, and_7, and_1023, shr_3, shr_4, shr_14, DC_seq, DC_skip, DC_ret, DC_region, p_cond, isB_b, isT_b, andThen_nrm, endR_ret, map_ite, kv_some, ks_some, kc_some, e_nil, o_mv, o_alloc, p_bin, p_build, buildV, p_fa, faV_ptr, p_ld, ldV_L, ldE_cells, p_st, stV_L, stB_box, p_bsl, bslV, setD, rd_t, rd_c, get_same, get_ne, getO_same, getO_ne, getO_nil, noEnt, resV, ansV_gen, bslW, froz_agg, froz1_i, froz1_s, froz1_nilsl, frOf, frFrom, fzV_froz, fzL_nil, fzL_cons, ups_nil, cells_agg, cells_i, cells_s, cells_sl, noTup_agg, noTup_i, noTup_s, noTup_sl, splice, part_t, part_f, fills, repl, Nat.reduceAdd, List.all_nil, decide_true, bin_add, bin_sub, bin_mul, bin_eql, Option.bind_some, Option.map_some, Option.map_none, List.map_cons, List.map_nil, List.all_cons, List.all_nil, List.length_cons, List.length_nil, List.drop_zero, List.append_nil, List.getElem?_cons_zero, List.getElem?_cons_succ, List.take_succ_cons, List.take_zero, List.zip_cons_cons, List.zip_nil_left, Bool.and_self, Bool.false_eq_true, if_true, if_false, reduceCtorEq, ne_eq, not_false_eq_true, and_self, Nat.zero_add, Nat.zero_mul, Nat.reduceAdd, Nat.reduceLT, Nat.reduceLeDiff, Nat.reduceEqDiff, decide_true, decide_false, Nat.le_refl, Nat.zero_le, c33, w1, w2, h, znOf, Zn.t, shT]
def tRules : T := (.sl [(.i .i64 1), (.s [108, 101, 103, 115, 95, 109, 97, 120]), (.i .i64 17), (.i .i64 0), (.s []), (.sl [(.i .i64 8), (.i .i64 0), (.s []), (.sl [(.i .i64 6), (.i .i64 0), (.s [108, 101, 103, 115]), .nilsl, (.i .i64 6), (.i .i64 0), (.s [104, 101, 97, 100, 115]), .nilsl] 2 true), (.i .i64 1), (.i .i64 3), (.s []), .nilsl] 2 true)] 1 false)
def tCosts : T := (.sl [(.i .i64 1), (.i .i64 8), (.i .i64 0), (.s []), (.sl [(.i .i64 10), (.i .i64 0), (.s []), (.sl [(.i .i64 1), (.i .i64 10), (.s []), .nilsl, (.i .i64 6), (.i .i64 0), (.s [108, 101, 103, 115]), .nilsl] 2 true), (.i .i64 11), (.i .i64 0), (.s []), (.sl [(.i .i64 6), (.i .i64 0), (.s [98, 108, 111, 99, 107]), .nilsl, (.i .i64 2), (.i .i64 30), (.s []), .nilsl] 2 true)] 2 true), (.i .i64 2), (.i .i64 1), (.i .i64 5), (.s []), .nilsl, (.i .i64 3), (.i .i64 1), (.i .i64 7), (.s []), .nilsl] 3 false)
def tCredit : T := (.sl [(.i .i64 13), (.i .i64 0), (.s []), (.sl [(.i .i64 6), (.i .i64 0), (.s [98, 108, 111, 99, 107]), .nilsl, (.i .i64 2), (.i .i64 120), (.s []), .nilsl] 2 false)] 1 false)
def limC (m0 d0 m1 d1 : Int) : List T := [(.s [102, 108, 121, 105, 110, 103]), (.s [98, 108, 111, 99, 107]), (.i .i64 m0), (.i .i64 d0), (.s [119, 111, 114, 107]), (.s [100, 117, 116, 105, 101, 115]), (.i .i64 m1), (.i .i64 d1)]
def offC (cnt dd : Int) : List T := [(.s [102, 114, 101, 101]), (.i .i64 cnt), (.i .i64 dd)]
def conC (m0 d0 m1 d1 cnt dd : Int) : List T := [(.i .i64 60), (.i .i64 30), (.i .i64 30), (.i .i64 1440), (.i .i64 1800), (.i .i64 1320), (.i .i64 360), .nilsl, tRules, tCosts, tCredit, .sl (limC m0 d0 m1 d1) 2 false, .sl (offC cnt dd) 1 false, (.i .i64 600)]
theorem froz1_rules : froz1 tRules = true := nr rfl
theorem froz1_costs : froz1 tCosts = true := nr rfl
theorem froz1_credit : froz1 tCredit = true := nr rfl
def conY (v : T) (m0 d0 m1 d1 : Int) : List T := [(.i .i64 60), (.i .i64 30), (.i .i64 30), (.i .i64 1440), (.i .i64 1800), (.i .i64 1320), (.i .i64 360), .nilsl, tRules, tCosts, tCredit, .sl (limC m0 d0 m1 d1) 2 false, v, (.i .i64 600)]
theorem limY_ev (h38 : DCall pE 38 [.i .i64 3] [] = some (.agg (conC 360 2 3 3 1 3), [])) (n : Int) :
    DCall pE 27 [.i .i64 n] [] = some (.agg (conY (.isl .S 0 1 0 1 3) (n % 1024) (1 + n / 8 % 4) (n / 4 % 1024) (1 + n / 16 % 4)), [⟨1, .cells (offC (1 + n / 256 % 4 % (1 + n / 64 % 4)) (1 + n / 64 % 4)) 0 false⟩]) := by
  rw [p_fun fn27 (by simp [c27])]
  have w1 : wr .i64 (1 + n / 8 % 4) = 1 + n / 8 % 4 := wr64 (by omega)
  have w2 : wr .i64 (1 + n / 16 % 4) = 1 + n / 16 % 4 := wr64 (by omega)
  have w3 : wr .i64 (1 + n / 64 % 4) = 1 + n / 64 % 4 := wr64 (by omega)
  have hz : ¬ 1 + n / 64 % 4 = 0 := by omega
  have e1 : (n / 256 % 4).tmod (1 + n / 64 % 4) = n / 256 % 4 % (1 + n / 64 % 4) := tmod_nn (by omega)
  have hb1 : 0 ≤ n / 256 % 4 % (1 + n / 64 % 4) := Int.emod_nonneg _ hz
  have hb2 : n / 256 % 4 % (1 + n / 64 % 4) < 1 + n / 64 % 4 := Int.emod_lt_of_pos _ (by omega)
  have w4 : wr .i64 (1 + n / 256 % 4 % (1 + n / 64 % 4)) = 1 + n / 256 % 4 % (1 + n / 64 % 4) := wr64 (by omega)
  unfold conC at h38
  simp (maxDischargeDepth := 6) only [Int.cast_ofNat_Int, and_3, and_1023, shr_0, shr_2, shr_3, shr_4, shr_6, shr_8, wr64, wru64, Int.reduceAdd, Int.reduceMul, Int.reduceNeg, DC_seq, DC_skip, DC_exit, DC_ret, DC_region, DC_block, p_cond, isB_b, isT_b, andThen_nrm, andThen_ext, outOf_nrm, outOf_ext, endR_ret, kv_some, ks_some, ka_some, kc_some, e_nil, o_mv, o_alloc, p_bin, p_cvi, cviV_i, p_fa, faV_ptr, p_ia, iaV_isl, p_lenV, lenI_isl, p_ld, ldV_L, ldV_S, ldE_cells, p_st, stV_L, stB_box, stB_row, p_app, appW, slC_sl, appV_nil, notS_nilsl, p_call, setD, rd_t, rd_c, get_same, get_ne, getO_same, getO_ne, getO_nil, noEnt, resV, ansV_gen, fzW_froz1, fzW_isl, fzWL_nil, fzWL_cons, fzV_aggK, froz_i, froz1_i, froz1_nilsl, frOf, frFrom, islV_cells, ups_nil, ups_L, cells_agg, cells_i, cells_nilsl, cells_isl, noTup_agg, noTup_i, noTup_nilsl, noTup_isl, splice, part_t, part_f, Nat.reduceAdd, List.all_nil, decide_true, bin_add, bin_mul, bin_rem, bin_lss, Option.bind_some, Option.map_some, List.map_cons, List.map_nil, List.all_cons, List.all_nil, List.length_cons, List.length_nil, List.drop_zero, List.append_nil, List.nil_append, List.cons_append, List.getElem?_cons_zero, List.getElem?_cons_succ, List.take_succ_cons, List.take_zero, Bool.and_false, Bool.and_self, Bool.not_false, Bool.false_eq_true, if_true, if_false, reduceCtorEq, ne_eq, not_false_eq_true, and_self, Nat.zero_add, Nat.add_zero, Nat.one_mul, Nat.zero_mul, Nat.reduceAdd, Nat.reduceMul, Nat.reduceLT, Nat.reduceLeDiff, Nat.reduceEqDiff, decide_true, decide_false, Nat.le_refl, Nat.zero_le, Int.reduceToNat, Int.reduceLE, Int.reduceLT, DC_drawsK, d_nil, d_pure, pure_mv, pure_bin, pure_cvi, pure_fa, pure_ia, d_ld, ldLog_ptr, d_st, isLp_ptr, ke_some, meets_nil, meets_cons, apart_ff, apart1_nil, apart1_cons, has_nil, has_cons, getL, Bool.or_self, getE_zero, setE_nil, setE_zero, stV_S, stBS_cells, p_appS, d_stS, isSp_ptr, fzW_keepS, roomy, DC_loop, c27, c27_L1, c27_L2, h38, dc38, w1, w2, w3, w4, hz, e1, froz1_rules, froz1_costs, froz1_credit, conY, limC, offC]
end Go.Proofs.YtfenhjpkomldcaaGreat
