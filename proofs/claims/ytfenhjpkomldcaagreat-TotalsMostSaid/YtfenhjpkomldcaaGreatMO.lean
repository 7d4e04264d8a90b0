/- TotalsMost: its walk. Conditions: the theorems' own. -/
import Derived.Test.YtfenhjpkomldcaaGreatMP
import Derived.Test.YtfenhjpkomldcaaGreatSB
import Derived.Test.YtfenhjpkomldcaaGreatKC
import Derived.Test.YtfenhjpkomldcaaGreatKnown2
set_option maxRecDepth 100000
set_option maxHeartbeats 4000000
set_option linter.unusedSimpArgs false
set_option linter.unusedVariables false
namespace Go.Proofs.YtfenhjpkomldcaaGreat
open Go Go.Ev
/-- The shared limits. -/
def shL (M d0 m1 d1 : Int) : List Ent := [⟨1, .cells (limC M d0 m1 d1) 0 false⟩]
theorem fzL_S (z : Zn) (M d0 m1 d1 cnt dd : Int) (l : T) (hl : froz l = true) (lh : Tri Ent) :
    ∃ us, fzL lh (shL M d0 m1 d1) false [.agg [.s [108, 111, 99, 97, 108], .i .i64 z.off, shT z.sh], .agg (conX (.isl .S 0 1 0 2 4) cnt dd), l] = some ([.agg [.s [108, 111, 99, 97, 108], .i .i64 z.off, shT z.sh], .agg (conC M d0 m1 d1 cnt dd), l], us) := by
  have h1 : froz (.agg [.s [108, 111, 99, 97, 108], .i .i64 z.off, shT z.sh]) = true := by
    simp only [froz_agg, List.all_cons, List.all_nil, froz1_s, froz1_i, shT_f1]; rfl
  have hS : ∀ m, fzW m lh (shL M d0 m1 d1) false (.isl .S 0 1 0 2 4) = some (.sl (limC M d0 m1 d1) 2 false, [(.S, 0, ⟨1, .cells (limC M d0 m1 d1) 8 false⟩)]) := fun m => by
    rw [fzW_islS (g' := 1) (wm := 0) (cs := limC M d0 m1 d1) rfl, if_pos ⟨rfl, (show 0 + 2 * 4 ≤ 8 by decide)⟩]
    rfl
  refine ⟨[] ++ ([(.S, 0, ⟨1, .cells (limC M d0 m1 d1) 8 false⟩)] ++ []), ?_⟩
  rw [fzL_cons, fzV_froz h1, Option.bind_some, fzL_cons]
  have h2 : fzV lh (shL M d0 m1 d1) false (.agg (conX (.isl .S 0 1 0 2 4) cnt dd)) = some (.agg (conC M d0 m1 d1 cnt dd), [(.S, 0, ⟨1, .cells (limC M d0 m1 d1) 8 false⟩)]) := by
    rw [fzV_aggK]
    unfold conX
    simp only [fzWL_cons, fzWL_nil, hS, fzW_froz1, froz1_i, froz1_nilsl, froz1_rules, froz1_costs, froz1_credit, froz1_sl, Option.bind_some, Option.map_some, List.nil_append, List.append_nil]
    rfl
  rw [h2, Option.bind_some, fzL_cons, fzV_froz hl, Option.bind_some, fzL_nil]
  rfl
/-- No breach of the first limit. -/
theorem ML1 (bs : List Br) (hi : ∀ b ∈ bs, b.i ≠ 0) (hb : bs.length < 1000000) (h0 : bs.length ≠ 0) (lh : Tri Ent) (sh : List Ent) (hO : getO lh 32 = ⟨1, .cells (bs.flatMap bC) 0 false⟩) : ∀ (m k : Nat) (fr : Fr), bs.length - k = m → k ≤ bs.length →
    getF fr 10 = .isl .L 32 1 0 bs.length 3 → getF fr 12 = .i .i64 (k : Int) →
    ∃ fr', DC pE 97 (.loop c8_L1) ⟨fr, lh, sh⟩ = some (.ext 0, ⟨fr', lh, sh⟩)
  | 0, k, fr, hm, hk, hu, h12 => by
    have : k = bs.length := by omega
    subst this
    rw [DC_loop]
    generalize hK : DC pE 97 (.loop c8_L1) = K
    simp only [DC_seq, DC_skip, DC_exit, DC_region, p_cond, isB_b, isT_b, andThen_nrm, andThen_ext, kv_some, e_nil, o_mv, p_bin, p_lenV, lenI_isl, rd_t, get_same, get_ne, bin_lss, Option.map_some, Bool.false_eq_true, if_false, ne_eq, not_false_eq_true, Nat.reduceLT, Nat.reduceEqDiff, decide_false, c8_L1, hu, h12, Int.lt_irrefl]
    exact ⟨_, rfl⟩
  | m + 1, k, fr, hm, hk, hu, h12 => by
    have hlt : k < bs.length := by omega
    have hlt' : (k : Int) < bs.length := by omega
    have hw : wr .i64 ((k : Int) + 1) = ((k + 1 : Nat) : Int) := by rw [wr64 (by omega)]; omega
    have hx := hi bs[k] (List.getElem_mem hlt)
    have hg : (bs.flatMap bC)[k * 3 + 1]? = some (.i .i64 bs[k].i) := by
      have e : bs.flatMap bC = (bs.take k).flatMap bC ++ ([.b bs[k].off, .i .i64 bs[k].i, .i .i64 bs[k].d] ++ (bs.drop (k + 1)).flatMap bC) := by
        conv => lhs; rw [← List.take_append_drop k bs, List.flatMap_append, List.drop_eq_getElem_cons hlt, List.flatMap_cons]
        rfl
      have hA : ((bs.take k).flatMap bC).length = k * 3 := by rw [bC_len, List.length_take]; omega
      rw [e, List.getElem?_append_right (by omega), hA, show k * 3 + 1 - k * 3 = 1 by omega]
      rfl
    rw [DC_loop]
    generalize hK : DC pE 97 (.loop c8_L1) = K
    simp only [DC_seq, DC_skip, DC_exit, DC_ret, DC_region, DC_block, p_cond, isB_b, isT_b, andThen_nrm, outOf_nrm, kv_some, e_nil, o_mv, p_bin, p_fa, faV_ptr, p_ia, iaV_isl, p_lenV, lenI_isl, p_ld, ldV_L, ldE_cells, rd_t, rd_c, get_same, get_ne, part_f, decide_true, bin_add, bin_eql, bin_lss, Option.map_some, Bool.false_eq_true, if_true, if_false, ne_eq, not_false_eq_true, and_self, Nat.zero_add, Nat.reduceLT, Nat.reduceEqDiff, decide_true, decide_false, Int.toNat_natCast, Int.natCast_nonneg, c8_L1, hu, h12, hlt, hlt', hO, hg, hx, hw, Nat.zero_add]
    rw [← hK]
    refine ML1 bs hi hb h0 lh sh hO m (k + 1) _ (by omega) (by omega) ?_ ?_ <;> simp only [get_same, get_ne, ne_eq, not_false_eq_true, Nat.reduceEqDiff, hu]
theorem ML1' (bs : List Br) (hi : ∀ b ∈ bs, b.i ≠ 0) (hb : bs.length < 1000000) (fr : Fr) (lh : Tri Ent) (sh : List Ent) (v : T) (hv : OwS lh v 32 bs.length (bs.flatMap bC)) (hu : getF fr 10 = v) (h12 : getF fr 12 = .i .i64 0) :
    ∃ fr', DC pE 97 (.loop c8_L1) ⟨fr, lh, sh⟩ = some (.ext 0, ⟨fr', lh, sh⟩) := by
  rcases hv with ⟨e0, e1, e2⟩ | ⟨e0, e1, e2, e3⟩
  · subst e1
    rw [DC_loop]
    generalize hK : DC pE 97 (.loop c8_L1) = K
    simp only [DC_seq, DC_skip, DC_exit, DC_region, p_cond, isB_b, isT_b, andThen_nrm, andThen_ext, kv_some, e_nil, o_mv, p_bin, p_lenV, lenI_nil, rd_t, get_same, get_ne, bin_lss, Option.map_some, Bool.false_eq_true, if_false, ne_eq, not_false_eq_true, Nat.reduceLT, Nat.reduceEqDiff, decide_false, c8_L1, hu, h12, Int.lt_irrefl]
    exact ⟨_, rfl⟩
  · subst e1
    exact ML1 bs hi hb e0 lh sh e2 bs.length 0 fr (by omega) (by omega) hu h12
/-- The end: a breach of the first limit stands first. -/
theorem MR10 (fr : Fr) (lh : Tri Ent) (sh : List Ent) (b : Br) (bs : List Br) (hb : b.i = 0) (h14 : getF fr 14 = .i .i64 0) (Hv : OwS lh (getF fr 13) 77 (b :: bs).length ((b :: bs).flatMap bC)) :
    ∃ s, endR [.tmp 6] false (DC pE 97 c8_R10 ⟨fr, lh, sh⟩) = some (.b true, s) := by
  obtain ⟨sk, hknown⟩ := known_ev
  have hkn : ∀ z fr lh sh, doCall pE (DCall pE) z ⟨fr, lh, sh⟩ 32 [] = some (.b true, ⟨fr, lh, sh⟩) := by intro z fr lh sh; rw [dc32 rfl, hknown]; rfl
  rcases Hv with ⟨e0, _⟩ | ⟨_, e1, e2, e3⟩
  · simp at e0
  · have hg : ((b :: bs).flatMap bC)[1]? = some (.i .i64 0) := by rw [List.flatMap_cons]; show ([T.b b.off, T.i .i64 b.i, T.i .i64 b.d] ++ bs.flatMap bC)[1]? = _; rw [hb]; rfl
    have hp : (0 : Int) < ((b :: bs).length : Nat) := by rw [List.length_cons]; omega
    have hp' : 0 < (b :: bs).length := by simp
    generalize (b :: bs).flatMap bC = C at *
    generalize (b :: bs).length = N at *
    simp (maxDischargeDepth := 6) only [DC_seq, DC_ret, DC_region, andThen_nrm, endR_ret, kv_some, kc_some, e_nil, o_mv, p_pick, pickV_b, p_bin, p_fa, faV_ptr, p_ia, iaV_isl, p_lenV, lenI_isl, p_ld, ldV_L, ldE_cells, p_call, g_passT, setD, rd_t, rd_c, get_same, get_ne, resV, ansV_gen, froz_b, fzV_froz, ups_nil, part_f, decide_true, bin_eql, bin_gtr, Option.bind_some, Option.map_some, List.map_nil, if_true, ne_eq, not_false_eq_true, and_self, Nat.zero_add, Nat.add_zero, Nat.zero_mul, Nat.reduceLT, Nat.reduceEqDiff, decide_true, Int.reduceToNat, Int.reduceLE, c8_R10, h14, e1, e2, hg, hp, hp', hkn, Nat.zero_add, Nat.zero_mul]
    exact ⟨_, rfl⟩
end Go.Proofs.YtfenhjpkomldcaaGreat
