/- TotalsGrow returns true. Conditions: none. -/
import Derived.Test.YtfenhjpkomldcaaGreatTQ
import Derived.Test.YtfenhjpkomldcaaGreatKC
import Derived.Test.YtfenhjpkomldcaaGreatKnown2
set_option maxRecDepth 100000
set_option linter.unusedSimpArgs false
set_option linter.unusedVariables false
namespace Go.Proofs.YtfenhjpkomldcaaGreat
open Go Go.Ev
theorem G2 (u v : T) (us vs : List Br) (hu : IsSl u us.length (us.flatMap bC)) (hv : IsSl v vs.length (vs.flatMap bC)) (h1 : us.length < 1000000) (h2 : vs.length < 1000000) (hin : ∀ x ∈ us, x ∈ vs) (lh : Tri Ent) (sh : List Ent) : ∀ (m k : Nat) (fr : Fr), us.length - k = m → k ≤ us.length →
    getF fr 12 = u → getF fr 14 = v → getF fr 20 = .i .i64 (k : Int) →
    ∃ fr', DC pE 117 (.loop c11_L2) ⟨fr, lh, sh⟩ = some (.ext 0, ⟨fr', lh, sh⟩)
  | 0, k, fr, hm, hk, h12, h14, h20 => by
    have : k = us.length := by omega
    subst this
    rw [DC_loop]
    generalize hK : DC pE 117 (.loop c11_L2) = K
    simp only [DC_seq, DC_skip, DC_exit, DC_region, p_cond, isB_b, isT_b, andThen_nrm, andThen_ext, kv_some, e_nil, o_mv, p_bin, p_lenV, rd_t, get_same, get_ne, bin_lss, Option.map_some, Bool.false_eq_true, if_false, ne_eq, not_false_eq_true, Nat.reduceLT, Nat.reduceEqDiff, decide_false, c11_L2, h12, h20, hu.lenI, Int.lt_irrefl]
    exact ⟨_, rfl⟩
  | m + 1, k, fr, hm, hk, h12, h14, h20 => by
    have hlt : k < us.length := by omega
    have hlt' : (k : Int) < us.length := by omega
    have hia : ∀ kk, iaV u (.i kk (k : Int)) 3 = some (.vp (bC us[k] ++ (us.drop (k + 1)).flatMap bC)) := fun kk => by
      rw [hu.ia (sz := 3) (bC_len us) hlt, flat_drop (f := bC) (fun _ => rfl) us k hlt]
    have hw : wr .i64 ((k : Int) + 1) = ((k + 1 : Nat) : Int) := by rw [wr64 (by omega)]; omega
    have hc := contains_ev v vs us[k] hv h2
    rw [(inL_iff us[k] vs).2 (hin _ (List.getElem_mem hlt))] at hc
    unfold bC at hc hia
    rw [DC_loop]
    generalize hK : DC pE 117 (.loop c11_L2) = K
    simp only [DC_seq, DC_skip, DC_exit, DC_ret, DC_region, DC_block, p_cond, isB_b, isT_b, andThen_nrm, outOf_nrm, kv_some, kc_some, e_nil, o_mv, p_bin, p_un, p_ia, p_lenV, p_ld, ldV_vp, p_call, setD, rd_t, rd_c, get_same, get_ne, froz_agg, froz1_b, froz1_i, part_t, List.all_nil, decide_true, bin_add, bin_lss, un_not, Option.bind_some, Option.map_some, List.map_cons, List.map_nil, List.all_cons, List.all_nil, List.length_cons, List.drop_zero, List.nil_append, List.cons_append, List.take_succ_cons, List.take_zero, Bool.and_self, Bool.not_true, Bool.false_eq_true, if_true, if_false, ne_eq, not_false_eq_true, Nat.zero_add, Nat.reduceLT, Nat.reduceLeDiff, Nat.reduceEqDiff, decide_true, c11_L2, h12, h14, h20, hu.lenI, hlt', hia, hc, hw, hv.froz, dc43]
    rw [← hK]
    refine G2 u v us vs hu hv h1 h2 hin lh sh m (k + 1) _ (by omega) (by omega) ?_ ?_ ?_ <;> simp only [get_same, get_ne, ne_eq, not_false_eq_true, Nat.reduceEqDiff, h12, h14]
theorem G1 (u v : T) (us vs : List Br) (hu : IsSl u us.length (us.flatMap bC)) (hv : IsSl v vs.length (vs.flatMap bC)) (h1 : us.length < 1000000) (h2 : vs.length < 1000000) (hin : ∀ x ∈ us, x ∈ vs) (lh : Tri Ent) (sh : List Ent) : ∀ (m k : Nat) (fr : Fr), us.length - k = m → k ≤ us.length →
    getF fr 16 = u → getF fr 18 = v → getF fr 21 = .i .i64 (k : Int) →
    ∃ fr', DC pE 117 (.loop c11_L1) ⟨fr, lh, sh⟩ = some (.ext 2, ⟨fr', lh, sh⟩)
  | 0, k, fr, hm, hk, h12, h14, h20 => by
    have : k = us.length := by omega
    subst this
    rw [DC_loop]
    generalize hK : DC pE 117 (.loop c11_L1) = K
    simp only [DC_seq, DC_skip, DC_exit, DC_region, p_cond, isB_b, isT_b, andThen_nrm, andThen_ext, kv_some, e_nil, o_mv, p_bin, p_lenV, rd_t, get_same, get_ne, bin_lss, Option.map_some, Bool.false_eq_true, if_false, ne_eq, not_false_eq_true, Nat.reduceLT, Nat.reduceEqDiff, decide_false, c11_L1, h12, h20, hu.lenI, Int.lt_irrefl]
    exact ⟨_, rfl⟩
  | m + 1, k, fr, hm, hk, h12, h14, h20 => by
    have hlt : k < us.length := by omega
    have hlt' : (k : Int) < us.length := by omega
    have hia : ∀ kk, iaV u (.i kk (k : Int)) 3 = some (.vp (bC us[k] ++ (us.drop (k + 1)).flatMap bC)) := fun kk => by
      rw [hu.ia (sz := 3) (bC_len us) hlt, flat_drop (f := bC) (fun _ => rfl) us k hlt]
    have hw : wr .i64 ((k : Int) + 1) = ((k + 1 : Nat) : Int) := by rw [wr64 (by omega)]; omega
    have hc := contains_ev v vs us[k] hv h2
    rw [(inL_iff us[k] vs).2 (hin _ (List.getElem_mem hlt))] at hc
    unfold bC at hc hia
    rw [DC_loop]
    generalize hK : DC pE 117 (.loop c11_L1) = K
    simp only [DC_seq, DC_skip, DC_exit, DC_ret, DC_region, DC_block, p_cond, isB_b, isT_b, andThen_nrm, outOf_nrm, kv_some, kc_some, e_nil, o_mv, p_bin, p_un, p_ia, p_lenV, p_ld, ldV_vp, p_call, setD, rd_t, rd_c, get_same, get_ne, froz_agg, froz1_b, froz1_i, part_t, List.all_nil, decide_true, bin_add, bin_lss, un_not, Option.bind_some, Option.map_some, List.map_cons, List.map_nil, List.all_cons, List.all_nil, List.length_cons, List.drop_zero, List.nil_append, List.cons_append, List.take_succ_cons, List.take_zero, Bool.and_self, Bool.not_true, Bool.false_eq_true, if_true, if_false, ne_eq, not_false_eq_true, Nat.zero_add, Nat.reduceLT, Nat.reduceLeDiff, Nat.reduceEqDiff, decide_true, c11_L1, h12, h14, h20, hu.lenI, hlt', hia, hc, hw, hv.froz, dc43]
    rw [← hK]
    refine G1 u v us vs hu hv h1 h2 hin lh sh m (k + 1) _ (by omega) (by omega) ?_ ?_ ?_ <;> simp only [get_same, get_ne, ne_eq, not_false_eq_true, Nat.reduceEqDiff, h12, h14]
/-- The breaches as records. -/
def toL (p : Int × Int) : Br := ⟨false, p.1, p.2⟩
def toO (d : Int) : Br := ⟨true, 0, d⟩
theorem toL_cells (l : List (Int × Int)) : l.flatMap brT = (l.map toL).flatMap bC := by rw [List.flatMap_map]; rfl
theorem toO_cells (l : List Int) : l.flatMap (ofC 0) = (l.map toO).flatMap bC := by rw [List.flatMap_map]; rfl
theorem outT_rec (bs : List Br) : IsSl (outT bs.length (bs.flatMap bC)) bs.length (bs.flatMap bC) := outT_isl (fun h => by rw [List.length_eq_zero_iff.1 h]; rfl)
/-- What the four calls give at a list of stints. -/
structure Calls4 (z : Zn) (c : List T) (l : T) (us os : List Br) : Prop where
  lim : DCall pE 34 [z.t, .agg c, l] [] = some (.tup [outT us.length (us.flatMap bC), .i .i64 0], [])
  off : DCall pE 41 [z.t, .agg c, l, .i .i64 8999, .i .i64 9006] [] = some (.tup [outT os.length (os.flatMap bC), .i .i64 0], [])
def usOf (z : Zn) (ss : List Sti) (m0 d0 m1 d1 : Int) : List Br := (brAll z ss 0 (lims2 m0 d0 m1 d1)).map toL
def osOf (z : Zn) (ss : List Sti) (cnt : Int) (D : Nat) : List Br := (offL (busyOf z ss 8999 7) D cnt 8999 0 7).map toO
theorem calls4 (z : Zn) (hz : z.ok) (m0 d0 m1 d1 cnt : Int) (D : Nat) (hc : conOk m0 d0 m1 d1 cnt (D : Int)) (l : T) (ss : List Sti) (hl : IsSl l ss.length (ss.flatMap stC)) (hg : Good ss) : Calls4 z (conC m0 d0 m1 d1 cnt (D : Int)) l (usOf z ss m0 d0 m1 d1) (osOf z ss cnt D) := by
  refine ⟨?_, ?_⟩
  · have := tlim_ev z hz m0 d0 m1 d1 cnt (D : Int) hc l ss hl hg.fit hg.val
    rw [this, toL_cells]
    unfold usOf
    rw [List.length_map]
  · have := toff_ev z hz m0 d0 m1 d1 cnt D hc l ss hl hg.fit hg.val 8999 9006 7 (by omega) (by omega) (by omega) (by omega)
    rw [this, toO_cells]
    unfold osOf
    rw [List.length_map]
end Go.Proofs.YtfenhjpkomldcaaGreat
