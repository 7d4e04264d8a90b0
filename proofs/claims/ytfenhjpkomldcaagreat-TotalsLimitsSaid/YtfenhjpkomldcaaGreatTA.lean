/- Zones of at most one shift; numbers from lists. Conditions: none beyond the theorems' own. -/
import Derived.Test.YtfenhjpkomldcaaGreatEnv

set_option maxRecDepth 100000
set_option linter.unusedSimpArgs false
set_option linter.unusedVariables false
namespace Go.Proofs.YtfenhjpkomldcaaGreat
open Go Go.Ev
theorem dcall_of {m f : Nat} {args : List T} {r : T × List Ent} (h : callF pE m f args [] = some r) : DCall pE f args [] = some r := DCall_iff.2 ⟨m, h⟩

theorem dval_of {m f : Nat} {args : List T} {v : T} (h : (callF pE m f args []).map (·.1) = some v) : ∃ s, DCall pE f args [] = some (v, s) := by
  cases hc : callF pE m f args [] with
  | none => rw [hc] at h; cases h
  | some r =>
    rw [hc] at h
    obtain ⟨a, s⟩ := r
    simp at h
    subst h
    exact ⟨s, DCall_iff.2 ⟨m, hc⟩⟩
theorem zoffset_ev (a : Int) : DCall pE 175 [.i .i64 a] [] = some (.b (decide (-840 ≤ a ∧ a ≤ 840)), []) := by
  rw [p_fun fn175 (by simp [c175])]
  by_cases h1 : -840 ≤ a <;> simp only [Int.reduceNeg, DC_seq, DC_ret, DC_region, andThen_nrm, endR_ret, kv_some, e_nil, o_mv, p_pick, pickV_b, p_bin, g_passT, g_skipT, rd_t, rd_c, get_same, get_ne, resV, ansV_gen, froz_b, frOf, frFrom, fzV_froz, ups_nil, decide_true, bin_leq, bin_geq, Option.bind_some, Option.map_some, Bool.false_eq_true, if_true, if_false, reduceCtorEq, ne_eq, not_false_eq_true, true_and, false_and, Nat.reduceLT, Nat.reduceEqDiff, decide_true, decide_false, c175, h1]
theorem roffset_ev (a : Int) : DCall pE 183 [.i .i64 a] [] = some (.b (decide (-840 ≤ a ∧ a ≤ 840)), []) := by
  rw [p_fun fn183 (by simp [c183])]
  by_cases h1 : -840 ≤ a <;> simp only [Int.reduceNeg, DC_seq, DC_ret, DC_region, andThen_nrm, endR_ret, kv_some, e_nil, o_mv, p_pick, pickV_b, p_bin, g_passT, g_skipT, rd_t, rd_c, get_same, get_ne, resV, ansV_gen, froz_b, frOf, frFrom, fzV_froz, ups_nil, decide_true, bin_leq, bin_geq, Option.bind_some, Option.map_some, Bool.false_eq_true, if_true, if_false, reduceCtorEq, ne_eq, not_false_eq_true, true_and, false_and, Nat.reduceLT, Nat.reduceEqDiff, decide_true, decide_false, c183, h1]
theorem zinstant_ev (a : Int) : DCall pE 176 [.i .i64 a] [] = some (.b (decide (0 ≤ a ∧ a < 52596000)), []) := by
  rw [p_fun fn176 (by simp [c176])]
  by_cases h1 : 0 ≤ a <;> simp only [DC_seq, DC_ret, DC_region, andThen_nrm, endR_ret, kv_some, e_nil, o_mv, p_pick, pickV_b, p_bin, g_passT, g_skipT, rd_t, rd_c, get_same, get_ne, resV, ansV_gen, froz_b, frOf, frFrom, fzV_froz, ups_nil, decide_true, bin_lss, bin_geq, Option.bind_some, Option.map_some, Bool.false_eq_true, if_true, if_false, reduceCtorEq, ne_eq, not_false_eq_true, true_and, false_and, Nat.reduceLT, Nat.reduceEqDiff, decide_true, decide_false, c176, h1]
theorem rinstant_ev (a : Int) : DCall pE 184 [.i .i64 a] [] = some (.b (decide (0 ≤ a ∧ a < 52596000)), []) := by
  rw [p_fun fn184 (by simp [c184])]
  by_cases h1 : 0 ≤ a <;> simp only [DC_seq, DC_ret, DC_region, andThen_nrm, endR_ret, kv_some, e_nil, o_mv, p_pick, pickV_b, p_bin, g_passT, g_skipT, rd_t, rd_c, get_same, get_ne, resV, ansV_gen, froz_b, frOf, frFrom, fzV_froz, ups_nil, decide_true, bin_lss, bin_geq, Option.bind_some, Option.map_some, Bool.false_eq_true, if_true, if_false, reduceCtorEq, ne_eq, not_false_eq_true, true_and, false_and, Nat.reduceLT, Nat.reduceEqDiff, decide_true, decide_false, c184, h1]
def sLocal : List Nat := [108, 111, 99, 97, 108]
theorem zname_ev : DCall pE 174 [.s [108, 111, 99, 97, 108]] [] = some (.b true, []) := dcall_of (m := 100) (by_callK (by kernel_rfl))
theorem rname_ev : DCall pE 182 [.s [108, 111, 99, 97, 108]] [] = some (.b true, []) := dcall_of (m := 100) (by_callK (by kernel_rfl))
structure Zn where
  off : Int
  sh : Option (Int × Int)
def shT (s : Option (Int × Int)) : T := match s with | none => .nilsl | some (a, o) => .sl [.i .i64 a, .i .i64 o] 1 true
def Zn.t (z : Zn) : T := .agg [.s [108, 111, 99, 97, 108], .i .i64 z.off, shT z.sh]
def Zn.ok (z : Zn) : Prop := -840 ≤ z.off ∧ z.off ≤ 840 ∧ ∀ a o, z.sh = some (a, o) → 0 ≤ a ∧ a < 52596000 ∧ -840 ≤ o ∧ o ≤ 840
def Zn.at (z : Zn) (t : Int) : Int := match z.sh with | none => z.off | some (a, o) => if a ≤ t then o else z.off
def Zn.day (z : Zn) (t : Int) : Int := (t + z.at t) / 1440
def Zn.clock (z : Zn) (t : Int) : Int := (t + z.at t) % 1440
theorem Zn.at_lt {z : Zn} (h : z.ok) (t : Int) : -840 ≤ z.at t ∧ z.at t ≤ 840 := by
  obtain ⟨h1, h2, h3⟩ := h
  unfold Zn.at
  split
  · omega
  · rename_i a o hs
    have := h3 a o hs
    split <;> omega
theorem zval_ev {z : Zn} (h : z.ok) : DCall pE 116 [z.t] [] = some (.i .i64 0, []) := by
  obtain ⟨off, sh⟩ := z
  obtain ⟨h1, h2, h3⟩ := h
  rw [p_fun fn116 (by simp [c116])]
  simp only [] at h1 h2 h3
  cases sh with
  | none => simp only [Int.reduceNeg, DC_seq, DC_skip, DC_exit, DC_ret, DC_region, DC_block, p_cond, isB_b, isT_b, andThen_nrm, andThen_ext, outOf_ext, endR_ret, kv_some, kc_some, e_nil, o_mv, o_box, p_bin, p_un, p_fa, faV_ptr, p_lenV, lenI_nil, p_ld, ldV_L, ldE_cells, p_call, setD, rd_t, rd_c, get_same, get_ne, getO_same, getO_nil, noEnt, resV, ansV_gen, froz_i, froz_s, frOf, frFrom, fzV_froz, ups_nil, cells_agg, noTup_agg, part_f, List.all_nil, decide_true, bin_lss, bin_gtr, un_not, Option.bind_some, Option.map_some, List.map_cons, List.map_nil, List.all_cons, List.all_nil, List.getElem?_cons_zero, List.getElem?_cons_succ, Bool.and_self, Bool.not_true, Bool.false_eq_true, if_true, if_false, ne_eq, not_false_eq_true, and_self, Nat.zero_add, Nat.add_zero, Nat.reduceLT, Nat.reduceEqDiff, decide_true, decide_false, Int.reduceLT, c116, DC_loop, c116_L1, Zn.t, shT, zname_ev, zoffset_ev, h1, h2, dc174, dc175]
  | some p =>
    obtain ⟨a, o⟩ := p
    obtain ⟨h4, h5, h6, h7⟩ := h3 a o rfl
    simp only [Int.cast_ofNat_Int, wr64, Int.reduceAdd, Int.reduceNeg, DC_seq, DC_skip, DC_exit, DC_ret, DC_region, DC_calm, DC_block, p_cond, isB_b, isT_b, andThen_nrm, andThen_ext, outOf_nrm, outOf_ext, endR_ret, kv_some, ks_some, kc_some, e_nil, o_mv, o_alloc, o_box, p_pick, pickV_b, p_bin, p_un, p_fa, faV_ptr, p_ia, iaV_sl, p_lenV, lenI_sl, p_ld, ldV_vp, ldV_L, ldE_cells, p_st, stV_L, stB_box, p_call, g_passF, g_skipT, setD, rd_t, rd_c, get_same, get_ne, getO_same, getO_ne, getO_nil, noEnt, resV, ansV_gen, froz_i, froz_s, frOf, frFrom, fzV_froz, ups_nil, cells_agg, noTup_agg, splice, part_t, part_f, backD, calmOp, Nat.reduceAdd, List.all_nil, decide_true, bin_add, bin_lss, bin_gtr, un_not, Option.bind_some, Option.map_some, List.map_cons, List.map_nil, List.all_cons, List.all_nil, List.length_cons, List.length_nil, List.drop_zero, List.getElem?_cons_zero, List.getElem?_cons_succ, List.take_succ_cons, List.take_zero, Bool.and_self, Bool.not_true, Bool.false_eq_true, if_true, if_false, ne_eq, not_false_eq_true, and_self, Nat.zero_add, Nat.add_zero, Nat.one_mul, Nat.zero_mul, Nat.reduceAdd, Nat.reduceLT, Nat.reduceEqDiff, decide_true, decide_false, Nat.le_refl, Int.reduceToNat, Int.reduceLE, Int.reduceLT, c116, DC_loop, c116_L1, Zn.t, shT, zname_ev, zoffset_ev, zinstant_ev, h1, h2, h4, h5, h6, h7, dc174, dc175, dc176]
theorem rval_ev {z : Zn} (h : z.ok) : DCall pE 120 [z.t] [] = some (.i .i64 0, []) := by
  obtain ⟨off, sh⟩ := z
  obtain ⟨h1, h2, h3⟩ := h
  rw [p_fun fn120 (by simp [c120])]
  simp only [] at h1 h2 h3
  cases sh with
  | none => simp only [Int.reduceNeg, DC_seq, DC_skip, DC_exit, DC_ret, DC_region, DC_block, p_cond, isB_b, isT_b, andThen_nrm, andThen_ext, outOf_ext, endR_ret, kv_some, kc_some, e_nil, o_mv, o_box, p_bin, p_un, p_fa, faV_ptr, p_lenV, lenI_nil, p_ld, ldV_L, ldE_cells, p_call, setD, rd_t, rd_c, get_same, get_ne, getO_same, getO_nil, noEnt, resV, ansV_gen, froz_i, froz_s, frOf, frFrom, fzV_froz, ups_nil, cells_agg, noTup_agg, part_f, List.all_nil, decide_true, bin_lss, bin_gtr, un_not, Option.bind_some, Option.map_some, List.map_cons, List.map_nil, List.all_cons, List.all_nil, List.getElem?_cons_zero, List.getElem?_cons_succ, Bool.and_self, Bool.not_true, Bool.false_eq_true, if_true, if_false, ne_eq, not_false_eq_true, and_self, Nat.zero_add, Nat.add_zero, Nat.reduceLT, Nat.reduceEqDiff, decide_true, decide_false, Int.reduceLT, c120, DC_loop, c120_L1, Zn.t, shT, rname_ev, roffset_ev, h1, h2, dc182, dc183]
  | some p =>
    obtain ⟨a, o⟩ := p
    obtain ⟨h4, h5, h6, h7⟩ := h3 a o rfl
    simp only [Int.cast_ofNat_Int, wr64, Int.reduceAdd, Int.reduceNeg, DC_seq, DC_skip, DC_exit, DC_ret, DC_region, DC_calm, DC_block, p_cond, isB_b, isT_b, andThen_nrm, andThen_ext, outOf_nrm, outOf_ext, endR_ret, kv_some, kc_some, e_nil, o_mv, o_box, p_pick, pickV_b, p_bin, p_un, p_fa, faV_vp, faV_ptr, p_ia, iaV_sl, p_lenV, lenI_sl, p_ld, ldV_vp, ldV_L, ldE_cells, p_call, g_passF, g_skipT, setD, rd_t, rd_c, get_same, get_ne, getO_same, getO_nil, noEnt, resV, ansV_gen, froz_i, froz_s, frOf, frFrom, fzV_froz, ups_nil, cells_agg, noTup_agg, part_f, backD, calmOp, Nat.reduceAdd, List.all_nil, decide_true, bin_add, bin_lss, bin_gtr, un_not, Option.bind_some, Option.map_some, List.map_cons, List.map_nil, List.all_cons, List.all_nil, List.length_cons, List.length_nil, List.drop_zero, List.getElem?_cons_zero, List.getElem?_cons_succ, List.drop_succ_cons, Bool.and_self, Bool.not_true, Bool.false_eq_true, if_true, if_false, ne_eq, not_false_eq_true, and_self, Nat.zero_add, Nat.add_zero, Nat.one_mul, Nat.zero_mul, Nat.reduceAdd, Nat.reduceLT, Nat.reduceLeDiff, Nat.reduceEqDiff, decide_true, decide_false, Nat.le_refl, Nat.zero_le, Int.reduceToNat, Int.reduceLE, Int.reduceLT, c120, DC_loop, c120_L1, Zn.t, shT, rname_ev, roffset_ev, rinstant_ev, h1, h2, h4, h5, h6, h7, dc182, dc183, dc184]
theorem zbad_ev {z : Zn} (h : 840 < z.off) : DCall pE 116 [z.t] [] = some (.i .i64 5, []) := by
  rw [p_fun fn116 (by simp [c116])]
  have h2 : ¬ z.off ≤ 840 := by omega
  simp only [Int.reduceNeg, DC_seq, DC_skip, DC_ret, DC_region, p_cond, isB_b, isT_b, andThen_nrm, andThen_ret, endR_ret, kv_some, kc_some, e_nil, o_mv, o_box, p_un, p_fa, faV_ptr, p_ld, ldV_L, ldE_cells, p_call, setD, rd_t, rd_c, get_same, get_ne, getO_same, getO_nil, noEnt, resV, ansV_gen, froz_i, froz_s, frOf, frFrom, fzV_froz, ups_nil, cells_agg, noTup_agg, part_f, List.all_nil, un_not, Option.bind_some, Option.map_some, List.map_cons, List.map_nil, List.all_cons, List.all_nil, List.getElem?_cons_zero, List.getElem?_cons_succ, Bool.and_self, Bool.not_true, Bool.not_false, Bool.false_eq_true, if_true, if_false, ne_eq, not_false_eq_true, and_false, Nat.zero_add, Nat.add_zero, Nat.reduceLT, Nat.reduceEqDiff, decide_false, c116, Zn.t, zname_ev, zoffset_ev, h2, dc174, dc175]
theorem rbad_ev {z : Zn} (h : 840 < z.off) : DCall pE 120 [z.t] [] = some (.i .i64 5, []) := by
  rw [p_fun fn120 (by simp [c120])]
  have h2 : ¬ z.off ≤ 840 := by omega
  simp only [Int.reduceNeg, DC_seq, DC_skip, DC_ret, DC_region, p_cond, isB_b, isT_b, andThen_nrm, andThen_ret, endR_ret, kv_some, kc_some, e_nil, o_mv, o_box, p_un, p_fa, faV_ptr, p_ld, ldV_L, ldE_cells, p_call, setD, rd_t, rd_c, get_same, get_ne, getO_same, getO_nil, noEnt, resV, ansV_gen, froz_i, froz_s, frOf, frFrom, fzV_froz, ups_nil, cells_agg, noTup_agg, part_f, List.all_nil, un_not, Option.bind_some, Option.map_some, List.map_cons, List.map_nil, List.all_cons, List.all_nil, List.getElem?_cons_zero, List.getElem?_cons_succ, Bool.and_self, Bool.not_true, Bool.not_false, Bool.false_eq_true, if_true, if_false, ne_eq, not_false_eq_true, and_false, Nat.zero_add, Nat.add_zero, Nat.reduceLT, Nat.reduceEqDiff, decide_false, c120, Zn.t, rname_ev, roffset_ev, h2, dc182, dc183]
end Go.Proofs.YtfenhjpkomldcaaGreat
