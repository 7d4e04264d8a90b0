/- The breaches of limits: stints, and the days in order. Conditions: none beyond the theorems' own. -/
import Derived.Test.YtfenhjpkomldcaaGreatTH
set_option maxRecDepth 100000
set_option linter.unusedSimpArgs false
set_option linter.unusedVariables false
namespace Go.Proofs.YtfenhjpkomldcaaGreat
open Go Go.Ev
def dvs (z : Zn) (ss : List Sti) (i : Nat) : List (Int × Int) := ss.map fun s => (z.day s.a, s.xs.getD i 0)
theorem psOf_snoc (D : Int) (l : List (Int × Int)) (p : Int × Int) : psOf D (l ++ [p]) = rangeAdd p.2 D.toNat (p.1 - D + 1) (psOf D l) := by unfold psOf; rw [List.foldl_append]; rfl
structure Fit (ss : List Sti) (nl : Nat) : Prop where
  len : ss.length ≤ 200
  ok : ∀ s ∈ ss, s.ok
  n : ∀ s ∈ ss, s.xs.length = nl
  span : ∀ s ∈ ss, 0 ≤ s.a ∧ s.a < s.b ∧ s.b ≤ 52596000
  val : ∀ s ∈ ss, ∀ x ∈ s.xs, -1099511627776 ≤ x ∧ x ≤ 1099511627776
theorem day_lt {z : Zn} (hz : z.ok) {t : Int} (h1 : 0 ≤ t) (h2 : t < 52596000) : -1 ≤ z.day t ∧ z.day t ≤ 36526 := by
  have := Zn.at_lt hz t
  unfold Zn.day
  omega
theorem bnd_range {x : Int} (hx : -2199023255552 ≤ x ∧ x ≤ 2199023255552) : ∀ (m : Nat) (d : Int) (ps : List (Int × Int)) (n : Nat), bndM ps n → bndM (rangeAdd x m d ps) (n + m)
  | 0, d, ps, n, h => h
  | m + 1, d, ps, n, h => by
    rw [rangeAdd, show n + (m + 1) = n + 1 + m by omega]
    exact bnd_range hx m (d + 1) _ (n + 1) (bndM_put h hx)
theorem bnd_mono {ps : List (Int × Int)} {n n' : Nat} (h : bndM ps n) (hn : n ≤ n') : bndM ps n' := by
  intro e
  have := h e
  omega
theorem OC (z : Zn) (hz : z.ok) (l : T) (ss : List Sti) (nl i : Nat) (hl : IsSl l ss.length (ss.flatMap stC)) (hf : Fit ss nl) (hi : i < nl) (D most : Int) (hD : 1 ≤ D ∧ D ≤ 31) (nm ms : T) (sh : List Ent) (g7 g12 g13 wm : Nat) : ∀ (m k : Nat) (fr : Fr) (lh : Tri Ent), ss.length - k = m → k ≤ ss.length → bndM (psOf D ((dvs z ss i).take k)) (k * 31) →
    getF fr 7 = .isl .L 25 g7 0 ss.length 1 → getF fr 11 = .i .i64 (i : Int) → getF fr 12 = .ptr .L 12 g12 0 → getF fr 13 = .mp .L 54 g13 → getF fr 55 = l → getF fr 56 = .i .i64 ss.length → getF fr 57 = .i .i64 k →
    getO lh 25 = ⟨g7, .cells (ints (ss.map fun s => z.day s.a)) wm false⟩ → getO lh 12 = ⟨g12, .cells [nm, ms, .i .i64 most, .i .i64 D] 0 true⟩ → getO lh 54 = ⟨g13, .map (kT (psOf D ((dvs z ss i).take k))) (vT (psOf D ((dvs z ss i).take k))) false⟩ →
    ∃ fr' lh', DC pE 111 (.loop c69_L3) ⟨fr, lh, sh⟩ = some (.ext 4, ⟨fr', lh', sh⟩) ∧ (getO lh' 54 = ⟨g13, .map (kT (psOf D (dvs z ss i))) (vT (psOf D (dvs z ss i))) false⟩ ∧ ∀ j, j ≠ 54 → j ≠ 15 → getO lh' j = getO lh j)
  | 0, k, fr, lh, hm, hk, hB, h7, h11, h12, h13, h55, h56, h57, hO25, hO12, hO54 => by
    have : k = ss.length := by omega
    subst this
    have e : (dvs z ss i).take ss.length = dvs z ss i := by rw [show ss.length = (dvs z ss i).length by simp [dvs]]; exact List.take_length
    rw [e] at hO54
    rw [DC_loop]
    generalize hK : DC pE 111 (.loop c69_L3) = K
    simp only [DC_seq, DC_skip, DC_exit, DC_region, p_cond, isB_b, isT_b, andThen_nrm, andThen_ext, kv_some, e_nil, p_bin, rd_t, get_same, bin_lss, Option.map_some, Bool.false_eq_true, if_false, ne_eq, Nat.reduceLT, decide_false, c69_L3, h56, h57, Int.lt_irrefl]
    exact ⟨_, _, rfl, hO54, fun j _ _ => rfl⟩
  | m + 1, k, fr, lh, hm, hk, hB, h7, h11, h12, h13, h55, h56, h57, hO25, hO12, hO54 => by
    have hlt : k < ss.length := by omega
    have hlt' : (k : Int) < ss.length := by omega
    have hmem := List.getElem_mem hlt
    have hia : ∀ kk, iaV l (.i kk (k : Int)) 3 = some (.vp (.i .i64 ss[k].a :: .i .i64 ss[k].b :: ss[k].v :: (ss.drop (k + 1)).flatMap stC)) := fun kk => by
      rw [hl.ia (sz := 3) (stC_len ss) hlt, flat_drop (f := stC) (fun _ => rfl) ss k hlt]; rfl
    have h200 := hf.len
    have hw : wr .i64 ((k : Int) + 1) = ((k + 1 : Nat) : Int) := by rw [wr64 (by omega)]; omega
    obtain ⟨hv, hxl⟩ := hf.ok _ hmem
    have hxn := hf.n _ hmem
    have hi' : i < ss[k].xs.length := by omega
    have hsp := hf.span _ hmem
    have hday := day_lt hz hsp.1 (show ss[k].a < 52596000 by omega)
    have hx := hf.val _ hmem ss[k].xs[i] (List.getElem_mem hi')
    have hdl : k < (ss.map fun s => z.day s.a).length := by simpa using hlt
    have hdk : (ss.map fun s => z.day s.a)[k] = z.day ss[k].a := by simp
    have hgk : (ints (ss.map fun s => z.day s.a))[k]? = some (.i .i64 (z.day ss[k].a)) := by simp [ints, hlt]
    have w1 : wr .i64 (z.day ss[k].a - D) = z.day ss[k].a - D := wr64 (by omega)
    have w2 : wr .i64 (z.day ss[k].a - D + 1) = z.day ss[k].a - D + 1 := wr64 (by omega)
    have htk : (dvs z ss i).take (k + 1) = (dvs z ss i).take k ++ [(z.day ss[k].a, ss[k].xs[i])] := by
      rw [List.take_succ_eq_append_getElem (by simpa [dvs] using hlt)]
      simp [dvs, List.getD_eq_getElem?_getD, hi']
    have hps : psOf D ((dvs z ss i).take (k + 1)) = rangeAdd ss[k].xs[i] D.toNat (z.day ss[k].a - D + 1) (psOf D ((dvs z ss i).take k)) := by rw [htk, psOf_snoc]
    have hlen : (ss.map fun s => z.day s.a).length = ss.length := by simp
    have q1 : -2199023255552 ≤ ss[k].xs[i] ∧ ss[k].xs[i] ≤ 2199023255552 := by omega
    have q2 : -1000000 ≤ (ss.map fun s => z.day s.a)[k] ∧ (ss.map fun s => z.day s.a)[k] ≤ 1000000 := by rw [hdk]; omega
    have q3 : z.day ss[k].a - D + 1 + (D.toNat : Int) = (ss.map fun s => z.day s.a)[k] + 1 := by rw [hdk]; omega
    have q4 : k * 31 + D.toNat ≤ 1000000 := by omega
    have hD0 := fun fr1 lh1 => OD (ss.map fun s => z.day s.a) k i hdl ss[k].v ss[k].xs hv hi' q1 q2 sh g7 g13 ((getO lh 15).g + 1) wm (.i .i64 ss[k].a) (.i .i64 ss[k].b) D.toNat (k * 31) (z.day ss[k].a - D + 1) (psOf D ((dvs z ss i).take k)) fr1 lh1 q3 hB q4
    simp only [List.length_map] at hD0
    have hDD := fun fr1 lh1 h7 h11 h13 h14 h15 h16 hO25 hO54 hO15 => loop_fix2 (hD0 fr1 lh1 h7 h11 h13 h14 h15 h16 hO25 hO54 hO15)
    rw [DC_loop]
    generalize hK : DC pE 111 (.loop c69_L3) = K
    simp only [frL_presM, Nat.reduceShiftRight, Nat.reduceMod, DC_seq, DC_skip, DC_exit, DC_region, DC_calm, DC_block, p_cond, isB_b, isT_b, andThen_nrm, outOf_nrm, outOf_ext, kv_some, ks_some, e_nil, o_mv, o_alloc, p_bin, p_fa, faV_ptr, p_ia, iaV_isl, p_ld, ldV_vp, ldV_L, ldE_cells, p_st, stV_L, stB_box, rd_t, rd_c, get_same, get_ne, getO_same, getO_ne, cells_agg, noTup_agg, splice, part_t, part_f, backD, calmOp, Nat.reduceAdd, List.all_nil, decide_true, bin_add, bin_sub, bin_lss, Option.map_some, List.map_cons, List.map_nil, List.all_cons, List.all_nil, List.length_cons, List.length_nil, List.drop_zero, List.getElem?_cons_zero, List.getElem?_cons_succ, List.take_succ_cons, List.take_zero, Bool.and_self, if_true, ne_eq, not_false_eq_true, and_self, Nat.zero_add, Nat.mul_one, Nat.reduceAdd, Nat.reduceLT, Nat.reduceLeDiff, Nat.reduceEqDiff, decide_true, Nat.le_refl, Int.toNat_natCast, Int.natCast_nonneg, c69_L3, h7, h11, h12, h13, h55, h56, h57, hlt, hlt', hia, hO25, hO12, hO54, hgk, w1, w2, hw, (hDD _ _ _ _ _ _ _ _ _ _ _).1, c69_L2_w]
    rw [← hK]
    refine ex2_mono (OC z hz l ss nl i hl hf hi D most hD nm ms sh g7 g12 g13 wm m (k + 1) _ _ (by omega) (by omega) ?_ ?_ ?_ ?_ ?_ ?_ ?_ ?_ ?_ ?_ ?_) (fun fr' lh' h => ?_)
    · rw [hps]; exact bnd_mono (bnd_range q1 _ _ _ _ hB) (by omega)
    · simp only [frL_presM, Nat.reduceShiftRight, Nat.reduceMod, get_ne, ne_eq, not_false_eq_true, Nat.reduceEqDiff, h7, c69_L2_w]
    · simp only [frL_presM, Nat.reduceShiftRight, Nat.reduceMod, get_ne, ne_eq, not_false_eq_true, Nat.reduceEqDiff, h11, c69_L2_w]
    · simp only [frL_presM, Nat.reduceShiftRight, Nat.reduceMod, get_ne, ne_eq, not_false_eq_true, Nat.reduceEqDiff, h12, c69_L2_w]
    · simp only [frL_presM, Nat.reduceShiftRight, Nat.reduceMod, get_ne, ne_eq, not_false_eq_true, Nat.reduceEqDiff, h13, c69_L2_w]
    · simp only [frL_presM, Nat.reduceShiftRight, Nat.reduceMod, get_ne, ne_eq, not_false_eq_true, Nat.reduceEqDiff, h55, c69_L2_w]
    · simp only [frL_presM, Nat.reduceShiftRight, Nat.reduceMod, get_ne, ne_eq, not_false_eq_true, Nat.reduceEqDiff, h56, c69_L2_w]
    · simp only [get_same]
    · simp only [get_same, get_ne, getO_same, getO_ne, ne_eq, not_false_eq_true, Nat.reduceEqDiff, h7, h11, h13, hO25, hO54, (hDD _ _ _ _ _ _ _ _ _ _ _).2.2.2]
    · simp only [get_same, get_ne, getO_same, getO_ne, ne_eq, not_false_eq_true, Nat.reduceEqDiff, h7, h11, h13, hO25, hO12, hO54, (hDD _ _ _ _ _ _ _ _ _ _ _).2.2.2]
    · rw [hps]; simp only [get_same, get_ne, getO_same, getO_ne, ne_eq, not_false_eq_true, Nat.reduceEqDiff, h7, h11, h13, hO25, hO54, (hDD _ _ _ _ _ _ _ _ _ _ _).2.1]
    · refine ⟨h.1, fun j h1 h2 => ?_⟩
      rw [h.2 j h1 h2]
      simp only [get_same, get_ne, getO_same, getO_ne, ne_eq, not_false_eq_true, Nat.reduceEqDiff, h7, h11, h13, hO25, hO54, (hDD _ _ _ _ _ _ _ _ _ _ _).2.2.2, h1, h2]
end Go.Proofs.YtfenhjpkomldcaaGreat
