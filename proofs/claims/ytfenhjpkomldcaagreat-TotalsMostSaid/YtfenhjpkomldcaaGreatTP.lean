/- contains; the stints of a list of numbers are valid. Conditions: none beyond the theorems' own. -/
import Derived.Test.YtfenhjpkomldcaaGreatTO
set_option maxRecDepth 100000
set_option linter.unusedSimpArgs false
set_option linter.unusedVariables false
namespace Go.Proofs.YtfenhjpkomldcaaGreat
open Go Go.Ev
/-- A breach. -/
structure Br where
  off : Bool
  i : Int
  d : Int
  deriving DecidableEq
def bC (b : Br) : List T := [.b b.off, .i .i64 b.i, .i .i64 b.d]
theorem bC_len (bs : List Br) : (bs.flatMap bC).length = bs.length * 3 := flat_len (f := bC) (fun _ => rfl) bs
theorem eqT_b (a b : Br) : eqT (.flat [.bool, .int, .int]) (.agg (bC a)) (.agg (bC b)) = some (decide (a = b)) := by
  obtain ⟨x, i, d⟩ := a
  obtain ⟨y, j, e⟩ := b
  simp only [eqT, bC, eqCells, eqCell, if_true, Bool.beq_eq_decide_eq, Br.mk.injEq]
  by_cases h1 : x = y
  · by_cases h2 : i = j
    · by_cases h3 : d = e <;> simp only [h1, h2, h3, decide_true, decide_false, and_self, and_false]
    · simp only [h1, h2, decide_true, decide_false, false_and, and_false]
  · simp only [h1, decide_false, false_and]
def inL (x : Br) (l : List Br) : Bool := l.any fun y => decide (y = x)
theorem inL_cons (x y : Br) (l : List Br) : inL x (y :: l) = (decide (y = x) || inL x l) := rfl
theorem inL_iff (x : Br) (l : List Br) : inL x l = true ↔ x ∈ l := by simp [inL]
theorem CT (l : T) (bs : List Br) (x : Br) (hl : IsSl l bs.length (bs.flatMap bC)) (hb : bs.length < 1000000) (lh : Tri Ent) (sh : List Ent) : ∀ (m k : Nat) (fr : Fr), bs.length - k = m → k ≤ bs.length →
    getF fr 0 = l → getF fr 3 = .ptr .L 3 1 0 → getF fr 5 = .i .i64 (k : Int) → getO lh 3 = ⟨1, .cells (bC x) 0 true⟩ →
    ∃ fr', DC pE 18 (.loop c43_L1) ⟨fr, lh, sh⟩ = some (if inL x (bs.drop k) = true then .ret else .ext 0, ⟨fr', lh, sh⟩) ∧ (inL x (bs.drop k) = true → getF fr' 4 = .b true)
  | 0, k, fr, hm, hk, h0, h3, h5, hO => by
    have : k = bs.length := by omega
    subst this
    have hno : inL x (bs.drop bs.length) = false := by rw [List.drop_length]; rfl
    rw [DC_loop]
    generalize hK : DC pE 18 (.loop c43_L1) = K
    simp only [DC_seq, DC_skip, DC_exit, DC_region, p_cond, isB_b, isT_b, andThen_nrm, andThen_ext, kv_some, e_nil, o_mv, p_bin, p_lenV, rd_t, get_same, get_ne, bin_lss, Option.map_some, Bool.false_eq_true, if_false, reduceCtorEq, ne_eq, not_false_eq_true, Nat.reduceLT, Nat.reduceEqDiff, decide_false, c43_L1, h0, h5, hl.lenI, Int.lt_irrefl, hno]
    exact ⟨_, rfl, by simp⟩
  | m + 1, k, fr, hm, hk, h0, h3, h5, hO => by
    have hlt : k < bs.length := by omega
    have hlt' : (k : Int) < bs.length := by omega
    have hdr : bs.drop k = bs[k] :: bs.drop (k + 1) := List.drop_eq_getElem_cons hlt
    have hia : ∀ kk, iaV l (.i kk (k : Int)) 3 = some (.vp (bC bs[k] ++ (bs.drop (k + 1)).flatMap bC)) := fun kk => by
      rw [hl.ia (sz := 3) (bC_len bs) hlt, flat_drop (f := bC) (fun _ => rfl) bs k hlt]
    have hw : wr .i64 ((k : Int) + 1) = ((k + 1 : Nat) : Int) := by rw [wr64 (by omega)]; omega
    have heq := eqT_b bs[k] x
    have hOx := hO
    unfold bC at heq hO hia
    rw [DC_loop]
    generalize hK : DC pE 18 (.loop c43_L1) = K
    cases hx : decide (bs[k] = x) with
    | true =>
      have hin : inL x (bs.drop k) = true := by rw [hdr, inL_cons, hx]; rfl
      rw [hx] at heq
      simp only [forall_const, DC_seq, DC_skip, DC_exit, DC_ret, DC_region, DC_calm, DC_block, p_cond, isB_b, isT_b, andThen_nrm, andThen_ret, outOf_ret, kv_some, e_nil, o_mv, p_bin, p_eq, p_ia, p_lenV, p_ld, ldV_vp, ldV_L, ldE_cells, rd_t, rd_c, get_same, get_ne, part_t, backD, calmOp, Nat.reduceAdd, List.all_nil, decide_true, bin_lss, Option.map_some, List.map_cons, List.map_nil, List.all_cons, List.all_nil, List.length_cons, List.length_nil, List.drop_zero, List.nil_append, List.cons_append, List.take_succ_cons, List.take_zero, Bool.and_self, if_true, reduceCtorEq, ne_eq, not_false_eq_true, Nat.zero_add, Nat.reduceAdd, Nat.reduceLT, Nat.reduceLeDiff, Nat.reduceEqDiff, decide_true, Nat.le_refl, c43_L1, h0, h3, h5, hl.lenI, hlt', hia, hO, heq, hin, Bool.bne_false]
      exact ⟨_, rfl, by simp only [get_same]⟩
    | false =>
      have hin : inL x (bs.drop k) = inL x (bs.drop (k + 1)) := by rw [hdr, inL_cons, hx]; rfl
      rw [hx] at heq
      rw [hin]
      simp only [DC_seq, DC_skip, DC_exit, DC_ret, DC_region, DC_calm, DC_block, p_cond, isB_b, isT_b, andThen_nrm, outOf_nrm, kv_some, e_nil, o_mv, p_bin, p_eq, p_ia, p_lenV, p_ld, ldV_vp, ldV_L, ldE_cells, rd_t, rd_c, get_same, get_ne, part_t, backD, calmOp, Nat.reduceAdd, List.all_nil, decide_true, bin_add, bin_lss, Option.map_some, List.map_cons, List.map_nil, List.all_cons, List.all_nil, List.length_cons, List.length_nil, List.drop_zero, List.nil_append, List.cons_append, List.take_succ_cons, List.take_zero, Bool.and_self, Bool.false_eq_true, if_true, if_false, reduceCtorEq, ne_eq, not_false_eq_true, Nat.zero_add, Nat.reduceAdd, Nat.reduceLT, Nat.reduceLeDiff, Nat.reduceEqDiff, decide_true, Nat.le_refl, c43_L1, h0, h3, h5, hl.lenI, hlt', hia, hO, heq, hw, Bool.bne_false]
      rw [← hK]
      refine CT l bs x hl hb lh sh m (k + 1) _ (by omega) (by omega) ?_ ?_ ?_ hOx <;> simp only [get_same, get_ne, reduceCtorEq, ne_eq, not_false_eq_true, Nat.reduceEqDiff, h0, h3]
theorem contains_ev (l : T) (bs : List Br) (x : Br) (hl : IsSl l bs.length (bs.flatMap bC)) (hb : bs.length < 1000000) :
    DCall pE 43 [l, .agg (bC x)] [] = some (.b (inL x bs), []) := by
  rw [p_fun fn43 (by simp [c43])]
  have hC := fun fr lh sh h0 h3 (h5 : getF fr 5 = .i .i64 0) hO => loop_fix (CT l bs x hl hb lh sh bs.length 0 fr (by omega) (by omega) h0 h3 h5 hO)
  simp only [List.drop_zero] at hC
  cases hx : inL x bs with
  | true => simp only [DC_seq, DC_region, DC_block, andThen_nrm, andThen_ret, outOf_ret, endR_ret, e_nil, o_mv, o_box, rd_t, rd_c, get_same, get_ne, getO_same, getO_nil, noEnt, resV, ansV_gen, froz_b, frOf, frFrom, fzV_froz, ups_nil, cells_agg, noTup_agg, Option.bind_some, Option.map_some, if_true, reduceCtorEq, ne_eq, not_false_eq_true, Nat.zero_add, Nat.reduceLT, Nat.reduceEqDiff, c43, (hC _ _ _ _ _ _ _).1, (hC _ _ _ _ _ _ _).2, hx]
  | false => simp only [DC_seq, DC_ret, DC_region, DC_block, andThen_nrm, outOf_ext, endR_ret, e_nil, o_mv, o_box, rd_t, rd_c, get_same, get_ne, getO_same, getO_nil, noEnt, resV, ansV_gen, froz_b, frOf, frFrom, fzV_froz, ups_nil, cells_agg, noTup_agg, Option.bind_some, Option.map_some, Bool.false_eq_true, if_true, if_false, reduceCtorEq, ne_eq, not_false_eq_true, Nat.zero_add, Nat.reduceLT, Nat.reduceEqDiff, c43, (hC _ _ _ _ _ _ _).1, hx]
end Go.Proofs.YtfenhjpkomldcaaGreat
