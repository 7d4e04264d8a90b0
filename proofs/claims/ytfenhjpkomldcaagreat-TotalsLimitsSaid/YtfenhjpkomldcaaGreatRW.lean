/- The reference's Limits: its answer. Conditions: the theorems' own. -/
import Derived.Test.YtfenhjpkomldcaaGreatRQ
set_option maxRecDepth 100000
set_option maxHeartbeats 4000000
set_option linter.unusedSimpArgs false
set_option linter.unusedVariables false
namespace Go.Proofs.YtfenhjpkomldcaaGreat
open Go Go.Ev
def refX (z : Zn) (ss : List Sti) (lims : List Lm) : List (Int × Int) := if ss.length = 0 then [] else refAll z ss 0 lims
section
variable (z : Zn) (hz : z.ok) (m0 d0 m1 d1 cnt dd : Int) (hc : conOk m0 d0 m1 d1 cnt dd) (l : T) (ss : List Sti) (hl : IsSl l ss.length (ss.flatMap stC)) (hf : Fit ss 2)
include hz hc hl hf
theorem RX5 (fr : Fr) (lh : Tri Ent) (h2 : getF fr 2 = l) (h4 : getF fr 4 = .ptr .L 4 1 0) (h9 : getF fr 9 = .nilsl) (hO4 : getO lh 4 = ⟨1, .cells (conC m0 d0 m1 d1 cnt dd) 0 true⟩) (hD : OutS lh (getF fr 10) 43 1 ss.length (ints (ss.map fun s => z.day s.a))) :
    endR [.tmp 6, .tmp 7] false (DC pE 149 c35_R5 ⟨fr, lh, []⟩) = some (.tup [outT (refX z ss (lims2 m0 d0 m1 d1)).length ((refX z ss (lims2 m0 d0 m1 d1)).flatMap brT), .i .i64 0], []) := by
  have hli : ∀ x ∈ lims2 m0 d0 m1 d1, 1 ≤ x.d ∧ x.d ≤ 31 := by
    obtain ⟨_, a, _, b, _⟩ := hc
    intro x hx
    simp only [lims2, List.mem_cons, List.not_mem_nil, or_false] at hx
    rcases hx with rfl | rfl
    · exact a
    · exact b
  rcases hD with ⟨e0, e1, e2⟩ | ⟨g, wm, e1, e2, e3, e4⟩
  · have hnil : ss = [] := List.length_eq_zero_iff.1 e0
    subst hnil
    have hR : refX z [] (lims2 m0 d0 m1 d1) = [] := rfl
    rw [hR]
    have hl0 : lenI l = some (.i .i64 0) := hl.lenI
    have hU : ∀ st, DC pE 149 c35_L4 st = DC pE 149 c35_L4 st := fun _ => rfl
    conv at hU => enter [st, 2]; unfold c35_L4
    unfold conC at hO4
    simp (maxDischargeDepth := 6) only [Int.cast_ofNat_Int, DC_seq, DC_skip, DC_exit, DC_ret, DC_region, DC_block, p_cond, isB_b, isT_b, andThen_nrm, andThen_ext, outOf_ext, endR_ret, kv_some, e_nil, o_mv, p_pick, pickV_b, p_bin, p_fa, faV_ptr, p_lenV, lenI_sl, p_ld, ldV_L, ldE_cells, g_passT, rd_t, rd_c, get_same, get_ne, resV, ansV_gen2, froz_tup, froz1_i, froz1_nilsl, fzV_froz, ups_nil, part_f, List.all_nil, decide_true, bin_lss, bin_gtr, Option.bind_some, Option.map_some, List.all_cons, List.all_nil, List.length_nil, List.getElem?_cons_zero, List.getElem?_cons_succ, Bool.and_self, Bool.false_eq_true, if_true, if_false, ite_self, ne_eq, not_false_eq_true, Nat.zero_add, Nat.reduceLT, Nat.reduceEqDiff, decide_true, decide_false, Int.reduceLT, c35_R5, c35_R6, h2, h4, h9, hO4, hl0, DC_loop_at c35_L4, hU]
    rfl
  · have h0 : 0 < ss.length := e4
    have hR : refX z ss (lims2 m0 d0 m1 d1) = refAll z ss 0 (lims2 m0 d0 m1 d1) := if_neg (by omega)
    rw [hR]
    have hL := fun fr (a2 : getF fr 2 = l) (a4 : getF fr 4 = .ptr .L 4 1 0) (a10 : getF fr 10 = .isl .L 43 g 0 ss.length 1) (a12 : getF fr 12 = .i .i64 0) (a9 : getF fr 9 = .nilsl) => loop_fix2 (Q4 z hz l (.sl (limC m0 d0 m1 d1) 2 false) (conC m0 d0 m1 d1 cnt dd) ss (lims2 m0 d0 m1 d1) hl hf rfl (Or.inr ⟨false, rfl⟩) hli h0 (show 2 ≤ 16 by decide) [] g wm 2 0 0 [] fr lh rfl (by omega) (by omega) a2 a4 a10 a12 hO4 e2 (Or.inl ⟨rfl, a9, rfl⟩))
    simp only [Nat.zero_add, List.nil_append, List.drop_zero] at hL
    have hA := fun fr a2 a4 a10 a12 a9 => OutS.ans2 [] (hL fr a2 a4 a10 a12 a9).2
    simp (maxDischargeDepth := 6) only [DC_seq, DC_ret, DC_region, DC_block, andThen_nrm, outOf_ext, endR_ret, e_nil, o_mv, rd_t, rd_c, get_same, get_ne, resV, Option.bind_some, Option.map_some, if_true, ne_eq, not_false_eq_true, Nat.reduceLT, Nat.reduceEqDiff, c35_R5, c35_R6, h2, h4, h9, e1, (hL _ _ _ _ _ _).1, hA]
theorem rlim_ev (hs : ∀ s ∈ ss, s.ok) (hv : valSpec 2 ss = 0) :
    DCall pE 35 [z.t, .agg (conC m0 d0 m1 d1 cnt dd), l] [] = some (.tup [outT (refX z ss (lims2 m0 d0 m1 d1)).length ((refX z ss (lims2 m0 d0 m1 d1)).flatMap brT), .i .i64 0], []) := by
  rw [p_fun fn35 (by simp [c35])]
  have hr := rready_ev z hz m0 d0 m1 d1 cnt dd hc l ss hl hs
  rw [hv] at hr
  have hli : ∀ x ∈ lims2 m0 d0 m1 d1, 1 ≤ x.d ∧ x.d ≤ 31 := by
    obtain ⟨_, a, _, b, _⟩ := hc
    intro x hx
    simp only [lims2, List.mem_cons, List.not_mem_nil, or_false] at hx
    rcases hx with rfl | rfl
    · exact a
    · exact b
  have hD := fun fr lh (a2 : getF fr 2 = l) (a3 : getF fr 3 = .ptr .L 3 1 0) (a11 : getF fr 11 = .i .i64 0) (aO : getO lh 3 = ⟨1, .cells [.s [108, 111, 99, 97, 108], .i .i64 z.off, shT z.sh] 0 true⟩) (a10 : getF fr 10 = .nilsl) => loop_fix2 (Q5 z hz l (.sl (limC m0 d0 m1 d1) 2 false) (conC m0 d0 m1 d1 cnt dd) ss (lims2 m0 d0 m1 d1) hl hf rfl (Or.inr ⟨false, rfl⟩) hli [] ss.length 0 fr lh (by omega) (by omega) a2 a3 a11 aO (Or.inl ⟨rfl, a10, rfl⟩))
  have tail := fun fr lh h2 h4 h9 hO4 hD => RX5 z hz m0 d0 m1 d1 cnt dd hc l ss hl hf fr lh h2 h4 h9 hO4 hD
  have step : ∀ F lh, getF F 2 = l → getF F 3 = .ptr .L 3 1 0 → getF F 11 = .i .i64 0 → getO lh 3 = ⟨1, .cells [.s [108, 111, 99, 97, 108], .i .i64 z.off, shT z.sh] 0 true⟩ → getF F 10 = .nilsl → getO lh 4 = ⟨1, .cells (conC m0 d0 m1 d1 cnt dd) 0 true⟩ →
      getF (frL pE 149 c35_L5 F lh []) 2 = l → getF (frL pE 149 c35_L5 F lh []) 4 = .ptr .L 4 1 0 → getF (frL pE 149 c35_L5 F lh []) 9 = .nilsl →
      endR [.tmp 6, .tmp 7] false (DC pE 149 c35_R5 ⟨frL pE 149 c35_L5 F lh [], lhL pE 149 c35_L5 F lh [], []⟩) = some (.tup [outT (refX z ss (lims2 m0 d0 m1 d1)).length ((refX z ss (lims2 m0 d0 m1 d1)).flatMap brT), .i .i64 0], []) := by
    intro F lh a2 a3 a11 aO a10 aO4 b2 b4 b9
    have j := (hD F lh a2 a3 a11 aO a10).2
    exact tail _ _ b2 b4 b9 (by rw [j.2 4 (by decide)]; exact aO4) j.1
  have hO4r : ∀ x, getO (setO x 4 ⟨1, .cells (conC m0 d0 m1 d1 cnt dd) 0 true⟩) 4 = ⟨1, .cells (conC m0 d0 m1 d1 cnt dd) 0 true⟩ := fun x => getO_same _ _ _
  unfold Zn.t at hr ⊢
  unfold conC at hr ⊢
  simp (maxDischargeDepth := 6) only [DC_seq, DC_skip, DC_ret, DC_region, DC_block, p_cond, isB_b, isT_b, andThen_nrm, outOf_ext, kv_some, kc_some, e_nil, o_mv, o_box, p_bin, p_ld, ldV_L, ldE_cells, p_call, setD, rd_t, rd_c, get_same, get_ne, getO_same, getO_ne, getO_nil, noEnt, froz_agg, froz1_i, froz1_s, froz1_nilsl, froz1_sl, frOf, frFrom, cells_agg, noTup_agg, part_t, Nat.reduceAdd, List.all_nil, decide_true, bin_neq, Option.bind_some, Option.map_some, List.map_cons, List.map_nil, List.all_cons, List.all_nil, List.length_cons, List.length_nil, List.drop_zero, List.take_succ_cons, List.take_zero, Bool.and_self, Bool.not_true, Bool.false_eq_true, if_true, if_false, reduceCtorEq, ne_eq, not_false_eq_true, Nat.zero_add, Nat.reduceAdd, Nat.reduceLT, Nat.reduceEqDiff, decide_true, Nat.le_refl, c35, c35_R1, c35_R2, c35_R3, c35_R4, hr, dc70, shT_f1, froz1_rules, froz1_costs, froz1_credit, hl.froz, (hD _ _ _ _ _ _ _).1]
  refine step _ _ ?_ ?_ ?_ ?_ ?_ ?_ ?_ ?_ ?_
  all_goals first | (simp only [frL_presM, Nat.reduceShiftRight, Nat.reduceMod, get_same, get_ne, getO_same, getO_ne, reduceCtorEq, ne_eq, not_false_eq_true, Nat.reduceEqDiff, c35_L5_w]; done) | (simp only [getO_same]; rfl)
end
end Go.Proofs.YtfenhjpkomldcaaGreat
