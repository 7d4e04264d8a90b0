/- The breaches of limits: the loops of OverLimits. Conditions: none beyond the theorems' own. -/
import Derived.Test.YtfenhjpkomldcaaGreatTG
import Derived.Test.YtfenhjpkomldcaaGreatExD

set_option maxRecDepth 100000
set_option linter.unusedSimpArgs false
set_option linter.unusedVariables false
namespace Go.Proofs.YtfenhjpkomldcaaGreat
open Go Go.Ev
theorem splice_ints : ∀ (ds : List Int) (k : Nat) (x : Int), k < ds.length → splice (ints ds) k [.i .i64 x] = ints (ds.set k x)
  | [], k, x, h => by simp at h
  | d :: ds, 0, x, h => by simp [ints, splice]
  | d :: ds, k + 1, x, h => by
    have := splice_ints ds k x (by simpa using h)
    simp only [ints, List.map_cons, splice, List.set_cons_succ] at this ⊢
    rw [this]
def dsAt (z : Zn) (ss : List Sti) (k : Nat) : List Int := (ss.take k).map (fun s => z.day s.a) ++ List.replicate (ss.length - k) 0
theorem dsAt_len (z : Zn) (ss : List Sti) (k : Nat) (h : k ≤ ss.length) : (dsAt z ss k).length = ss.length := by simp [dsAt]; omega
theorem dsAt_set (z : Zn) (ss : List Sti) (k : Nat) (h : k < ss.length) : (dsAt z ss k).set k (z.day ss[k].a) = dsAt z ss (k + 1) := by
  unfold dsAt
  have e1 : ss.length - k = (ss.length - (k + 1)) + 1 := by omega
  have hl : ((ss.take k).map fun s => z.day s.a).length = k := by simp; omega
  rw [e1, List.replicate_succ, List.set_append_right _ _ (by omega), hl, Nat.sub_self, List.set_cons_zero]
  rw [List.take_succ_eq_append_getElem h, List.map_append, List.append_assoc]
  rfl
theorem dsAt_zero (z : Zn) (ss : List Sti) : ints (dsAt z ss 0) = repl [T.i .i64 0] ss.length := by
  unfold dsAt
  simp only [List.take_zero, List.map_nil, List.nil_append, Nat.sub_zero, ints]
  generalize ss.length = n
  induction n with
  | zero => rfl
  | succ n ih => rw [List.replicate_succ, List.map_cons, ih]; rfl
theorem dsAt_full (z : Zn) (ss : List Sti) : dsAt z ss ss.length = ss.map fun s => z.day s.a := by simp [dsAt]
theorem OA (z : Zn) (hz : z.ok) (l : T) (ss : List Sti) (hl : IsSl l ss.length (ss.flatMap stC)) (hb : ss.length ≤ 200) (hs : ∀ s ∈ ss, 0 ≤ s.a ∧ s.a < 52596000) (sh : List Ent) (g7 : Nat) : ∀ (m k : Nat) (fr : Fr) (lh : Tri Ent), ss.length - k = m → k ≤ ss.length →
    getF fr 3 = .ptr .L 3 1 0 → getF fr 7 = .isl .L 25 g7 0 ss.length 1 → getF fr 26 = l → getF fr 27 = .i .i64 ss.length → getF fr 28 = .i .i64 k → getO lh 3 = ⟨1, .cells [.s [108, 111, 99, 97, 108], .i .i64 z.off, shT z.sh] 0 true⟩ → getO lh 25 = ⟨g7, .cells (ints (dsAt z ss k)) 0 false⟩ →
    ∃ fr' lh', DC pE 111 (.loop c69_L5) ⟨fr, lh, sh⟩ = some (.ext 0, ⟨fr', lh', sh⟩) ∧ (getO lh' 25 = ⟨g7, .cells (ints (ss.map fun s => z.day s.a)) 0 false⟩ ∧ getO lh' 4 = getO lh 4)
  | 0, k, fr, lh, hm, hk, h3, h7, h26, h27, h28, hO3, hO25 => by
    have : k = ss.length := by omega
    subst this
    rw [dsAt_full] at hO25
    rw [DC_loop]
    generalize hK : DC pE 111 (.loop c69_L5) = K
    simp only [DC_seq, DC_skip, DC_exit, DC_region, p_cond, isB_b, isT_b, andThen_nrm, andThen_ext, kv_some, e_nil, p_bin, rd_t, get_same, bin_lss, Option.map_some, Bool.false_eq_true, if_false, Nat.reduceLT, decide_false, c69_L5, h27, h28, Int.lt_irrefl]
    exact ⟨_, _, rfl, hO25, rfl⟩
  | m + 1, k, fr, lh, hm, hk, h3, h7, h26, h27, h28, hO3, hO25 => by
    have hlt : k < ss.length := by omega
    have hlt' : (k : Int) < ss.length := by omega
    have hia : ∀ kk, iaV l (.i kk (k : Int)) 3 = some (.vp (.i .i64 ss[k].a :: .i .i64 ss[k].b :: ss[k].v :: (ss.drop (k + 1)).flatMap stC)) := fun kk => by
      rw [hl.ia (sz := 3) (stC_len ss) hlt, flat_drop (f := stC) (fun _ => rfl) ss k hlt]; rfl
    have hw : wr .i64 ((k : Int) + 1) = ((k + 1 : Nat) : Int) := by rw [wr64 (by omega)]; omega
    obtain ⟨ha1, ha2⟩ := hs ss[k] (List.getElem_mem hlt)
    have ht := ztime_ev hz ha1 ha2
    unfold Zn.t at ht
    have hle : k + 1 ≤ ss.length := hlt
    have hsp := splice_ints (dsAt z ss k) k (z.day ss[k].a) (by rw [dsAt_len z ss k hk]; exact hlt)
    rw [dsAt_set z ss k hlt] at hsp
    have hlen : (ints (dsAt z ss k)).length = ss.length := by rw [ints_len, dsAt_len z ss k hk]
    rw [DC_loop]
    generalize hK : DC pE 111 (.loop c69_L5) = K
    simp only [DC_seq, DC_skip, DC_exit, DC_region, DC_block, p_cond, isB_b, isT_b, andThen_nrm, outOf_nrm, kv_some, ks_some, kc_some, e_nil, o_mv, o_alloc, p_bin, p_fa, faV_ptr, p_ia, iaV_isl, p_ext, extV_tup, p_ld, ldV_vp, ldV_L, ldE_cells, p_st, stV_L, stB_box, stB_row, p_call, setD, rd_t, rd_c, get_same, get_ne, getO_same, getO_ne, froz_i, froz_agg, froz1_i, froz1_s, cells_agg, cells_i, noTup_agg, noTup_i, splice, part_t, part_f, Nat.reduceAdd, List.all_nil, decide_true, bin_add, bin_lss, Option.bind_some, Option.map_some, List.map_cons, List.map_nil, List.all_cons, List.all_nil, List.length_cons, List.length_nil, List.drop_zero, List.getElem?_cons_zero, List.getElem?_cons_succ, List.take_succ_cons, List.take_zero, Bool.and_self, if_true, ne_eq, not_false_eq_true, and_self, Nat.zero_add, Nat.add_zero, Nat.mul_one, Nat.reduceAdd, Nat.reduceLT, Nat.reduceLeDiff, Nat.reduceEqDiff, decide_true, Nat.le_refl, Nat.zero_le, Int.toNat_natCast, Int.natCast_nonneg, c69_L5, h3, h7, h26, h27, h28, hlt, hlt', hia, ht, hO3, hO25, hsp, hlen, hle, hw, dc117, shT_f1]
    rw [← hK]
    refine ex2_mono (OA z hz l ss hl hb hs sh g7 m (k + 1) _ _ (by omega) (by omega) ?_ ?_ ?_ ?_ ?_ ?_ ?_) (fun fr' lh' h => ?_)
    all_goals first | (simp only [get_same, get_ne, getO_same, getO_ne, ne_eq, not_false_eq_true, Nat.reduceEqDiff, h3, h7, h26, h27, hO3]; done) | skip
    · exact ⟨h.1, by rw [h.2]; simp only [getO_ne, ne_eq, not_false_eq_true, Nat.reduceEqDiff]⟩
theorem OD (ds : List Int) (k i : Nat) (hk : k < ds.length) (v : T) (xs : List Int) (hv : IsSl v xs.length (ints xs)) (hi : i < xs.length) (hx : -2199023255552 ≤ xs[i] ∧ xs[i] ≤ 2199023255552) (hd : -1000000 ≤ ds[k] ∧ ds[k] ≤ 1000000) (sh : List Ent) (g7 g13 g15 wm : Nat) (p q : T) : ∀ (m n : Nat) (d : Int) (ps : List (Int × Int)) (fr : Fr) (lh : Tri Ent), d + m = ds[k] + 1 → bndM ps n → n + m ≤ 1000000 →
    getF fr 7 = .isl .L 25 g7 0 ds.length 1 → getF fr 11 = .i .i64 (i : Int) → getF fr 13 = .mp .L 54 g13 → getF fr 14 = .i .i64 (k : Int) → getF fr 15 = .ptr .L 15 g15 0 → getF fr 16 = .i .i64 d →
    getO lh 25 = ⟨g7, .cells (ints ds) wm false⟩ → getO lh 54 = ⟨g13, .map (kT ps) (vT ps) false⟩ → getO lh 15 = ⟨g15, .cells [p, q, v] 0 true⟩ →
    ∃ fr' lh', DC pE 111 (.loop c69_L2) ⟨fr, lh, sh⟩ = some (.ext 6, ⟨fr', lh', sh⟩) ∧ (getO lh' 54 = ⟨g13, .map (kT (rangeAdd xs[i] m d ps)) (vT (rangeAdd xs[i] m d ps)) false⟩ ∧ bndM (rangeAdd xs[i] m d ps) (n + m) ∧ ∀ j, j ≠ 54 → getO lh' j = getO lh j)
  | 0, n, d, ps, fr, lh, hm, hB, hN, h7, h11, h13, h14, h15, h16, hO25, hO54, hO15 => by
    have hgt : ¬ d ≤ ds[k] := by omega
    have hg : (ints ds)[k]? = some (.i .i64 ds[k]) := by simp [ints, hk]
    rw [DC_loop]
    generalize hK : DC pE 111 (.loop c69_L2) = K
    simp only [DC_seq, DC_skip, DC_exit, DC_region, p_cond, isB_b, isT_b, andThen_nrm, andThen_ext, kv_some, e_nil, o_mv, p_bin, p_ia, iaV_isl, p_ld, ldV_L, ldE_cells, rd_t, get_same, get_ne, part_f, bin_leq, Option.map_some, Bool.false_eq_true, if_true, if_false, ne_eq, not_false_eq_true, and_self, Nat.zero_add, Nat.add_zero, Nat.mul_one, Nat.reduceLT, Nat.reduceEqDiff, decide_false, Int.toNat_natCast, Int.natCast_nonneg, c69_L2, h7, h14, h16, hk, hO25, hg, hgt]
    exact ⟨_, _, rfl, hO54, hB, fun j _ => rfl⟩
  | m + 1, n, d, ps, fr, lh, hm, hB, hN, h7, h11, h13, h14, h15, h16, hO25, hO54, hO15 => by
    have hle : d ≤ ds[k] := by omega
    have hg : (ints ds)[k]? = some (.i .i64 ds[k]) := by simp [ints, hk]
    have hia : ∀ kk, iaV v (.i kk (i : Int)) 1 = some (.vp (T.i .i64 xs[i] :: (ints xs).drop (i + 1))) := fun kk => by rw [hv.ia (sz := 1) (by rw [ints_len]; omega) hi, Nat.mul_one, ints_drop xs i hi]
    have hb1 := hB d
    have w1 : wr .i64 (getM ps d + xs[i]) = getM ps d + xs[i] := wr64 (by omega)
    have w2 : wr .i64 (d + 1) = d + 1 := wr64 (by omega)
    rw [DC_loop]
    generalize hK : DC pE 111 (.loop c69_L2) = K
    simp only [DC_seq, DC_skip, DC_exit, DC_region, DC_block, p_cond, isB_b, isT_b, andThen_nrm, outOf_nrm, kv_some, ks_some, e_nil, o_mv, p_bin, p_fa, faV_ptr, p_ia, iaV_isl, p_ld, ldV_vp, ldV_L, ldE_cells, notS_mp, p_lk, lkV, p_mu, muV, rd_t, rd_c, get_same, get_ne, froz_i, part_f, decide_true, bin_add, bin_leq, Option.map_some, List.nil_append, List.cons_append, List.getElem?_cons_zero, List.getElem?_cons_succ, Bool.and_self, Bool.not_false, if_true, ne_eq, not_false_eq_true, and_self, Nat.zero_add, Nat.mul_one, Nat.reduceLT, Nat.reduceEqDiff, decide_true, Int.toNat_natCast, Int.natCast_nonneg, DC_drawsK, d_nil, d_pure, pure_mv, pure_bin, pure_fa, pure_ia, d_ld, ldLog_vp, ldLog_ptr, d_lk, d_mu, lkLog_mp, isLm_mp, ke_some, meets_nil, meets_cons, apart_ff, apart1_nil, apart1_cons, has_nil, getL, c69_L2, h7, h11, h13, h14, h15, h16, hk, hO25, hO54, hO15, hg, hle, hia, w1, w2, lkE_map, lkIn_eq, key_i, lk_ev, muE_map, putK_eq, put_ev]
    rw [← hK]
    refine ex2_mono (OD ds k i hk v xs hv hi hx hd sh g7 g13 g15 wm p q m (n + 1) (d + 1) (putM ps d (getM ps d + xs[i])) _ _ (by omega) (bndM_put hB hx) (by omega) ?_ ?_ ?_ ?_ ?_ ?_ ?_ ?_ ?_) (fun fr' lh' h => ?_)
    all_goals first | (simp only [get_same, get_ne, getO_same, getO_ne, ne_eq, not_false_eq_true, Nat.reduceEqDiff, h7, h11, h13, h14, h15, hO25, hO15]; done) | skip
    obtain ⟨a1, a2, a3⟩ := h
    refine ⟨a1, ?_, fun j hj => ?_⟩
    · rw [show n + (m + 1) = n + 1 + m by omega]; exact a2
    · rw [a3 j hj]; simp only [getO_ne, ne_eq, not_false_eq_true, hj]
end Go.Proofs.YtfenhjpkomldcaaGreat
