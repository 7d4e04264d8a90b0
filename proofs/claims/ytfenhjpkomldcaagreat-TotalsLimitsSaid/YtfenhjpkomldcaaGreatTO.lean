/- totals.Limits and totals.DaysOff. Conditions: none beyond the theorems' own. -/
import Derived.Test.YtfenhjpkomldcaaGreatTN
set_option maxRecDepth 100000
set_option linter.unusedSimpArgs false
set_option linter.unusedVariables false
namespace Go.Proofs.YtfenhjpkomldcaaGreat
open Go Go.Ev
theorem check_ev (z : Zn) (hz : z.ok) (m0 d0 m1 d1 cnt dd : Int) (hc : conOk m0 d0 m1 d1 cnt dd) (l : T) (ss : List Sti) (hl : IsSl l ss.length (ss.flatMap stC)) (hs : ∀ s ∈ ss, s.ok) (hv : valSpec 2 ss = 0) :
    DCall pE 68 [z.t, .agg (conC m0 d0 m1 d1 cnt dd), l] [] = some (.i .i64 0, []) := by
  rw [p_fun fn68 (by simp [c68])]
  have h1 := zval_ev hz
  have h2 := tval_ev m0 d0 m1 d1 cnt dd 0 (Or.inl rfl) (windows_ev m0 d0 m1 d1 cnt dd hc)
  have h3 := val_ev l (.sl (limC m0 d0 m1 d1) 2 false) (conC m0 d0 m1 d1 cnt dd) ss 2 hl hs rfl rfl
  rw [hv] at h3
  unfold Zn.t at h1 ⊢
  unfold conC at h2 h3 ⊢
  simp only [DC_seq, DC_skip, DC_ret, DC_region, p_cond, isB_b, isT_b, andThen_nrm, endR_ret, kv_some, kc_some, e_nil, o_mv, o_box, p_bin, p_ld, ldV_L, ldE_cells, p_call, setD, rd_t, rd_c, get_same, get_ne, getO_same, getO_ne, getO_nil, noEnt, resV, ansV_gen, froz_i, froz_agg, froz1_i, froz1_s, froz1_nilsl, froz1_sl, frOf, frFrom, fzV_froz, ups_nil, cells_agg, noTup_agg, part_t, Nat.reduceAdd, List.all_nil, decide_true, bin_neq, Option.bind_some, Option.map_some, List.map_cons, List.map_nil, List.all_cons, List.all_nil, List.length_cons, List.length_nil, List.drop_zero, List.take_succ_cons, List.take_zero, Bool.and_self, Bool.not_true, Bool.false_eq_true, if_true, if_false, reduceCtorEq, ne_eq, not_false_eq_true, Nat.zero_add, Nat.reduceAdd, Nat.reduceLT, Nat.reduceEqDiff, decide_true, Nat.le_refl, c68, h1, h2, h3, dc116, dc62, dc30, shT_f1, froz1_rules, froz1_costs, froz1_credit, hl.froz]
def lims2 (m0 d0 m1 d1 : Int) : List Lm := [⟨.s [102, 108, 121, 105, 110, 103], .s [98, 108, 111, 99, 107], m0, d0⟩, ⟨.s [119, 111, 114, 107], .s [100, 117, 116, 105, 101, 115], m1, d1⟩]
theorem all3 {α : Type} {f : α → List T} (hf : ∀ x, (f x).all scal1 = true) (l : List α) : (l.flatMap f).all scal1 = true := by
  rw [List.all_eq_true]
  intro x hx
  obtain ⟨a, _, h⟩ := List.mem_flatMap.1 hx
  exact List.all_eq_true.1 (hf a) x h
theorem own_out {n : Nat} {cs : List T} (h1 : cs.all scal1 = true) (h2 : cs.length = n * 3) (h0 : n ≠ 0) (d : Nat) (fr : Fr) (lh : Tri Ent) (sh : List Ent) (us : List Up) :
    ownRes d 0 (.sl cs n false) ⟨fr, lh, sh⟩ us = some (.isl .L d ((getO lh d).g + 1) 0 n 3, ⟨fr, setO lh d ⟨(getO lh d).g + 1, .cells cs 0 false⟩, sh⟩) := by
  have e : cs.length / n = 3 := by rw [h2]; exact Nat.mul_div_cancel_left _ (Nat.pos_of_ne_zero h0)
  rw [ownRes_sl h1 (by rw [e, h2, Nat.mul_comm]), e]
theorem outT_zero {n : Nat} {cs : List T} (h : n = 0) : outT n cs = .nilsl := if_pos h
theorem outT_pos {n : Nat} {cs : List T} (h : n ≠ 0) : outT n cs = .sl cs n false := if_neg h
theorem tlim_ev (z : Zn) (hz : z.ok) (m0 d0 m1 d1 cnt dd : Int) (hc : conOk m0 d0 m1 d1 cnt dd) (l : T) (ss : List Sti) (hl : IsSl l ss.length (ss.flatMap stC)) (hf : Fit ss 2) (hv : valSpec 2 ss = 0) :
    DCall pE 34 [z.t, .agg (conC m0 d0 m1 d1 cnt dd), l] [] = some (.tup [outT (brAll z ss 0 (lims2 m0 d0 m1 d1)).length ((brAll z ss 0 (lims2 m0 d0 m1 d1)).flatMap brT), .i .i64 0], []) := by
  rw [p_funO fn34 (by simp [c34])]
  have h1 := check_ev z hz m0 d0 m1 d1 cnt dd hc l ss hl hf.ok hv
  have h2 := over_ev z hz l (.sl (limC m0 d0 m1 d1) 2 false) (conC m0 d0 m1 d1 cnt dd) ss (lims2 m0 d0 m1 d1) hl hf rfl (Or.inr ⟨false, rfl⟩) (by
    intro x hx
    obtain ⟨_, a, _, b, _⟩ := hc
    simp only [lims2, List.mem_cons, List.not_mem_nil, or_false] at hx
    rcases hx with rfl | rfl
    · exact a
    · exact b) (by
    intro x hx
    simp only [lims2, List.mem_cons, List.not_mem_nil, or_false] at hx
    rcases hx with rfl | rfl <;> exact ⟨rfl, rfl⟩) (by simp [lims2]) (by simp [lims2])
  unfold Zn.t at h1 h2 ⊢
  unfold conC at h1 h2 ⊢
  have hs : ((brAll z ss 0 (lims2 m0 d0 m1 d1)).flatMap brT).all scal1 = true := all3 (fun _ => rfl) _
  have hL : ((brAll z ss 0 (lims2 m0 d0 m1 d1)).flatMap brT).length = (brAll z ss 0 (lims2 m0 d0 m1 d1)).length * 3 := flat_len (f := brT) (fun _ => rfl) _
  by_cases h0 : (brAll z ss 0 (lims2 m0 d0 m1 d1)).length = 0
  · rw [outT_zero h0] at h2 ⊢
    simp only [DC_seq, DC_skip, DC_ret, DC_region, p_cond, isB_b, isT_b, andThen_nrm, endO_ret, kv_some, kc_some, e_nil, o_mv, o_box, p_bin, p_ld, ldV_L, ldE_cells, p_call, setD, rd_t, rd_c, get_same, get_ne, getO_same, getO_ne, getO_nil, noEnt, resV, froz_agg, froz1_i, froz1_s, froz1_nilsl, froz1_sl, frOf, frFrom, cells_agg, noTup_agg, part_t, Nat.reduceAdd, List.all_nil, decide_true, bin_neq, Option.bind_some, Option.map_some, List.map_cons, List.map_nil, List.all_cons, List.all_nil, List.length_cons, List.length_nil, List.drop_zero, List.take_succ_cons, List.take_zero, Bool.and_self, Bool.not_true, Bool.false_eq_true, if_true, if_false, reduceCtorEq, ne_eq, not_false_eq_true, Nat.zero_add, Nat.reduceAdd, Nat.reduceLT, Nat.reduceEqDiff, decide_true, Nat.le_refl, c34, h1, h2, dc68, dc69, shT_f1, froz1_rules, froz1_costs, froz1_credit, hl.froz, ownRes_nil, ansO_nil2]
  · rw [outT_pos h0] at h2 ⊢
    simp only [DC_seq, DC_skip, DC_ret, DC_region, p_cond, isB_b, isT_b, andThen_nrm, endO_ret, kv_some, kc_some, e_nil, o_mv, o_box, p_bin, p_ld, ldV_L, ldE_cells, p_call, setD, rd_t, rd_c, get_same, get_ne, getO_same, getO_ne, getO_nil, noEnt, resV, froz_agg, froz1_i, froz1_s, froz1_nilsl, froz1_sl, frOf, frFrom, cells_agg, noTup_agg, part_t, Nat.reduceAdd, List.all_nil, decide_true, bin_neq, Option.bind_some, Option.map_some, List.map_cons, List.map_nil, List.all_cons, List.all_nil, List.length_cons, List.length_nil, List.drop_zero, List.take_succ_cons, List.take_zero, Bool.and_self, Bool.not_true, Bool.false_eq_true, if_true, if_false, reduceCtorEq, ne_eq, not_false_eq_true, Nat.zero_add, Nat.reduceAdd, Nat.reduceLT, Nat.reduceEqDiff, decide_true, Nat.le_refl, c34, h1, h2, dc68, dc69, shT_f1, froz1_rules, froz1_costs, froz1_credit, hl.froz, own_out hs hL h0]
    exact ansO_isl2 (getO_same _ _ _) hL h0
end Go.Proofs.YtfenhjpkomldcaaGreat
