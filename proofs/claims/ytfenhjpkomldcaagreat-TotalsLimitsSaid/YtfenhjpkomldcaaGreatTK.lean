/- OverLimits. Conditions: none beyond the theorems' own. -/
import Derived.Test.YtfenhjpkomldcaaGreatTJ
set_option maxRecDepth 100000
set_option linter.unusedSimpArgs false
set_option linter.unusedVariables false
namespace Go.Proofs.YtfenhjpkomldcaaGreat
open Go Go.Ev
theorem dx118 {z : Nat} {fr : Fr} {lh : Tri Ent} {sh : List Ent} {args : List T} : doCall pE (DCall pE) z ⟨fr, lh, sh⟩ 118 args = (fzL lh sh false args).bind fun q => (sortedKeys 181 q.1).bind fun r => some (r, ⟨fr, lh, sh⟩) := doCall_X rfl rfl
def keysT (ks : List Int) : T := match ks with | [] => .nilsl | _ => .sl (ints ks) ks.length false
theorem keysT_isl (ks : List Int) : IsSl (keysT ks) ks.length (ints ks) := by
  cases ks with
  | nil => exact Or.inl ⟨rfl, rfl, rfl⟩
  | cons k ks => exact Or.inr ⟨false, rfl⟩
theorem sorted_ev (ps : List (Int × Int)) (h1 : ps.length ≤ 1000000) (h2 : ∀ d ∈ ps.map (·.1), -9223372036854775808 ≤ d ∧ d ≤ 9223372036854775807) :
    sortedKeys 181 [.fn 181 [] [.vp [.vm (kT ps) (vT ps)]]] = some (keysT (sortI (ps.map (·.1)))) := by
  have e : asInts (kT ps) = some (ps.map (·.1)) := by
    have := asInts_ev (ps.map (·.1))
    rw [List.map_map] at this
    exact this
  have hw : (ps.map (·.1)).all wf64 = true := by
    rw [List.all_eq_true]
    intro d hd
    exact wf64_of (h2 d hd).1 (h2 d hd).2
  have hl : (ps.map (·.1)).length ≤ 1000000 := by simpa using h1
  unfold sortedKeys
  simp only [e, if_true, hw, hl, decide_true, Bool.and_self]
  generalize ps.map (·.1) = l at *
  cases l with
  | nil => rfl
  | cons k l =>
    have hlen := sortI_len (k :: l)
    have : sortI (k :: l) ≠ [] := by intro h; rw [h] at hlen; simp at hlen
    unfold keysT
    cases hs : sortI (k :: l) with
    | nil => exact absurd hs this
    | cons a b => rw [hs] at hlen; simp only [ints, hlen]
theorem scalar_fn {f : Nat} {a c : List T} : scalar (.fn f a c) = false := nr rfl
structure Lm where
  nm : T
  ms : T
  most : Int
  d : Int
def lmC (l : Lm) : List T := [l.nm, l.ms, .i .i64 l.most, .i .i64 l.d]
def brAll (z : Zn) (ss : List Sti) : Nat → List Lm → List (Int × Int)
  | _, [] => []
  | i, l :: ls => ((keysOf l.d (dvs z ss i)).filter fun d => l.most < getM (psOf l.d (dvs z ss i)) d).map (fun d => ((i : Int), d)) ++ brAll z ss (i + 1) ls
def brT (p : Int × Int) : List T := brC p.1 p.2
theorem OutS.congr {lh lh' : Tri Ent} {v : T} {k sz n : Nat} {cs : List T} (h : OutS lh v k sz n cs) (e : getO lh' k = getO lh k) : OutS lh' v k sz n cs := by
  rcases h with h | ⟨g, wm, h1, h2, h3⟩
  · exact Or.inl h
  · exact Or.inr ⟨g, wm, h1, by rw [e]; exact h2, h3⟩
theorem OB (z : Zn) (hz : z.ok) (l v : T) (ss : List Sti) (lims : List Lm) (hl : IsSl l ss.length (ss.flatMap stC)) (hf : Fit ss lims.length) (hv : IsSl v lims.length (lims.flatMap lmC)) (hli : ∀ x ∈ lims, 1 ≤ x.d ∧ x.d ≤ 31) (hlf : ∀ x ∈ lims, froz1 x.nm = true ∧ froz1 x.ms = true) (hln : lims.length ≤ 16) (sh : List Ent) (g7 : Nat) : ∀ (m i n : Nat) (cs : List T) (fr : Fr) (lh : Tri Ent), lims.length - i = m → i ≤ lims.length → n ≤ i * 100000 →
    getF fr 2 = l → getF fr 7 = .isl .L 25 g7 0 ss.length 1 → getF fr 47 = v → getF fr 48 = .i .i64 lims.length → getF fr 49 = .i .i64 (i : Int) →
    getO lh 25 = ⟨g7, .cells (ints (ss.map fun s => z.day s.a)) 0 false⟩ → OutS lh (getF fr 10) 107 3 n cs →
    ∃ fr' lh', DC pE 111 (.loop c69_L4) ⟨fr, lh, sh⟩ = some (.ext 2, ⟨fr', lh', sh⟩) ∧ OutS lh' (getF fr' 10) 107 3 (n + (brAll z ss i (lims.drop i)).length) (cs ++ (brAll z ss i (lims.drop i)).flatMap brT)
  | 0, i, n, cs, fr, lh, hm, hk, hn, h2, h7, h47, h48, h49, hO25, hs => by
    have : i = lims.length := by omega
    subst this
    rw [DC_loop]
    generalize hK : DC pE 111 (.loop c69_L4) = K
    simp only [DC_seq, DC_skip, DC_exit, DC_region, p_cond, isB_b, isT_b, andThen_nrm, andThen_ext, kv_some, e_nil, p_bin, rd_t, get_same, bin_lss, Option.map_some, Bool.false_eq_true, if_false, Nat.reduceLT, decide_false, c69_L4, h48, h49, Int.lt_irrefl]
    exact ⟨_, _, rfl, by simpa [brAll, get_ne] using hs⟩
  | m + 1, i, n, cs, fr, lh, hm, hk, hn, h2, h7, h47, h48, h49, hO25, hs => by
    have hlt : i < lims.length := by omega
    have hlt' : (i : Int) < lims.length := by omega
    have hmem := List.getElem_mem hlt
    have hia : ∀ kk, iaV v (.i kk (i : Int)) 4 = some (.vp (lims[i].nm :: lims[i].ms :: .i .i64 lims[i].most :: .i .i64 lims[i].d :: (lims.drop (i + 1)).flatMap lmC)) := fun kk => by
      rw [hv.ia (sz := 4) (flat_len (f := lmC) (fun _ => rfl) lims) hlt, flat_drop (f := lmC) (fun _ => rfl) lims i hlt]; rfl
    have hw : wr .i64 ((i : Int) + 1) = ((i + 1 : Nat) : Int) := by rw [wr64 (by omega)]; omega
    have hD := hli _ hmem
    obtain ⟨hf1, hf2⟩ := hlf _ hmem
    have hdr : lims.drop i = lims[i] :: lims.drop (i + 1) := List.drop_eq_getElem_cons hlt
    have hdl : (dvs z ss i).length = ss.length := by simp [dvs]
    have h200 := hf.len
    have hpl := psOf_len lims[i].d hD.2 (dvs z ss i)
    have hkeys : ∀ d ∈ (psOf lims[i].d (dvs z ss i)).map (·.1), -9223372036854775808 ≤ d ∧ d ≤ 9223372036854775807 := by
      intro d hd
      obtain ⟨p, hp, h1, h2⟩ := (psOf_keys lims[i].d (by omega) (dvs z ss i) d).1 hd
      simp only [dvs, List.mem_map] at hp
      obtain ⟨s, hs', rfl⟩ := hp
      have hsp := hf.span s hs'
      have := day_lt hz hsp.1 (show s.a < 52596000 by omega)
      simp only [] at h1 h2
      omega
    have hsort := sorted_ev (psOf lims[i].d (dvs z ss i)) (by omega) hkeys
    have hkl : (keysOf lims[i].d (dvs z ss i)).length ≤ 6200 := by unfold keysOf; rw [sortI_len, List.length_map]; omega
    have hb0 : bndM (psOf lims[i].d ((dvs z ss i).take 0)) (0 * 31) := by intro e; simp [psOf, getM]
    have hC0 := fun fr1 lh1 => OC z hz l ss lims.length i hl hf hlt lims[i].d lims[i].most hD lims[i].nm lims[i].ms sh g7 ((getO lh 12).g + 1) ((getO lh 54).g + 1) 0 ss.length 0 fr1 lh1 (by omega) (by omega) hb0
    have hC := fun fr1 lh1 h7 h11 h12 h13 h55 h56 (h57 : getF fr1 57 = .i .i64 0) hO25 hO12 (hO54 : getO lh1 54 = ⟨(getO lh 54).g + 1, .map [] [] false⟩) => loop_fix2 (hC0 fr1 lh1 h7 h11 h12 h13 h55 h56 h57 hO25 hO12 hO54)
    have q1 : n + (keysOf lims[i].d (dvs z ss i)).length ≤ 2000000 := by omega
    have hE0 := fun fr1 lh1 => OE (keysT (keysOf lims[i].d (dvs z ss i))) (keysOf lims[i].d (dvs z ss i)) (keysT_isl _) (by omega) (psOf lims[i].d (dvs z ss i)) lims[i].most (i : Int) lims[i].nm lims[i].ms (.i .i64 lims[i].d) sh ((getO lh 12).g + 1) ((getO lh 54).g + 1) (keysOf lims[i].d (dvs z ss i)).length 0 n cs fr1 lh1 (by omega) (by omega) q1
    simp only [List.drop_zero] at hE0
    have hE := fun fr1 lh1 h11 h12 h13 h90 h91 (h92 : getF fr1 92 = .i .i64 0) hO12 hO54 (h10 : getF fr1 10 = getF fr 10) (hO : getO lh1 107 = getO lh 107) => loop_fix2 (hE0 fr1 lh1 h11 h12 h13 h90 h91 h92 hO12 hO54 (by rw [h10]; exact hs.congr hO))
    have hklen := (keysT_isl (keysOf lims[i].d (dvs z ss i))).lenI
    have hko : sortI ((psOf lims[i].d (dvs z ss i)).map (·.1)) = keysOf lims[i].d (dvs z ss i) := rfl
    rw [hko] at hsort
    have hbr : brAll z ss i (lims[i] :: lims.drop (i + 1)) = ((keysOf lims[i].d (dvs z ss i)).filter fun d => lims[i].most < getM (psOf lims[i].d (dvs z ss i)) d).map (fun d => ((i : Int), d)) ++ brAll z ss (i + 1) (lims.drop (i + 1)) := rfl
    have hfl : ((keysOf lims[i].d (dvs z ss i)).filter fun d => lims[i].most < getM (psOf lims[i].d (dvs z ss i)) d).length ≤ 6200 := Nat.le_trans (List.length_filter_le _ _) hkl
    rw [DC_loop, hdr, hbr]
    generalize hK : DC pE 111 (.loop c69_L4) = K
    generalize hB : brAll z ss (i + 1) (lims.drop (i + 1)) = B
    generalize hF : ((keysOf lims[i].d (dvs z ss i)).filter fun d => lims[i].most < getM (psOf lims[i].d (dvs z ss i)) d) = F at *
    simp (maxDischargeDepth := 6) only [frL_presM, Nat.reduceShiftRight, Nat.reduceMod, DC_seq, DC_skip, DC_exit, DC_region, DC_block, p_cond, isB_b, isT_b, andThen_nrm, outOf_nrm, outOf_ext, kv_some, ks_some, kc_some, e_nil, o_mv, o_alloc, o_mkmap, p_bin, p_ia, p_lenV, p_ld, ldV_vp, p_st, stV_L, stB_box, p_call, setD, rd_t, rd_c, get_same, get_ne, getO_same, getO_ne, froz_fn, froz1_vp, fzV_froz, fzL_nil, fzL_cons, fzV_mp, mpV_map, ups_nil, ups_L, cells_agg, noTup_agg, splice, part_t, Nat.reduceAdd, List.all_nil, decide_true, bin_add, bin_lss, Option.bind_some, Option.map_some, List.map_cons, List.map_nil, List.all_cons, List.all_nil, List.length_cons, List.length_nil, List.drop_zero, List.append_nil, List.take_succ_cons, List.take_zero, Bool.and_self, Bool.false_eq_true, if_true, if_false, ne_eq, not_false_eq_true, and_self, Nat.zero_add, Nat.reduceAdd, Nat.reduceLT, Nat.reduceLeDiff, Nat.reduceEqDiff, decide_true, Nat.le_refl, c69_L4, h2, h7, h47, h48, h49, hlt', hia, hw, hO25, hl.lenI, (hC _ _ _ _ _ _ _ _ _ _ _ _).1, (hC _ _ _ _ _ _ _ _ _ _ _ _).2.1, (hC _ _ _ _ _ _ _ _ _ _ _ _).2.2, c69_L3_w, dp119, mkeys_ev, scalar_fn, dx118, hsort, hklen, (hE _ _ _ _ _ _ _ _ _ _ _ _).1, c69_L1_w]
    rw [← hK, ← hB]
    refine ex2_mono (OB z hz l v ss lims hl hf hv hli hlf hln sh g7 m (i + 1) (n + F.length) (cs ++ F.flatMap (brC i)) _ _ (by omega) (by omega) (by omega) ?_ ?_ ?_ ?_ ?_ ?_ ?_) (fun fr' lh' h => ?_)
    · simp (maxDischargeDepth := 6) only [frL_presM, Nat.reduceShiftRight, Nat.reduceMod, get_ne, ne_eq, not_false_eq_true, Nat.reduceEqDiff, h2, c69_L3_w, c69_L1_w]
    · simp (maxDischargeDepth := 6) only [frL_presM, Nat.reduceShiftRight, Nat.reduceMod, get_ne, ne_eq, not_false_eq_true, Nat.reduceEqDiff, h7, c69_L3_w, c69_L1_w]
    · simp (maxDischargeDepth := 6) only [frL_presM, Nat.reduceShiftRight, Nat.reduceMod, get_ne, ne_eq, not_false_eq_true, Nat.reduceEqDiff, h47, c69_L3_w, c69_L1_w]
    · simp (maxDischargeDepth := 6) only [frL_presM, Nat.reduceShiftRight, Nat.reduceMod, get_ne, ne_eq, not_false_eq_true, Nat.reduceEqDiff, h48, c69_L3_w, c69_L1_w]
    · simp (maxDischargeDepth := 6) only [get_same]
    · simp (maxDischargeDepth := 6) only [frL_presM, Nat.reduceShiftRight, Nat.reduceMod, get_same, get_ne, getO_same, getO_ne, ne_eq, not_false_eq_true, Nat.reduceEqDiff, h7, hO25, (hC _ _ _ _ _ _ _ _ _ _ _ _).2.2, c69_L3_w, (hE _ _ _ _ _ _ _ _ _ _ _ _).2.2]
    · simp (maxDischargeDepth := 6) only [get_ne, ne_eq, not_false_eq_true, Nat.reduceEqDiff]
      refine (hE _ _ ?_ ?_ ?_ ?_ ?_ ?_ ?_ ?_ ?_ ?_).2.1 <;> simp (maxDischargeDepth := 6) only [frL_presM, Nat.reduceShiftRight, Nat.reduceMod, get_same, get_ne, getO_same, getO_ne, ne_eq, not_false_eq_true, Nat.reduceEqDiff, h7, hO25, (hC _ _ _ _ _ _ _ _ _ _ _ _).2.2, c69_L3_w]
    · rw [List.length_append, List.length_map, List.flatMap_append, List.flatMap_map, ← List.append_assoc, ← Nat.add_assoc]
      exact h
theorem over_ev (z : Zn) (hz : z.ok) (l v : T) (cc : List T) (ss : List Sti) (lims : List Lm) (hl : IsSl l ss.length (ss.flatMap stC)) (hf : Fit ss lims.length) (hcc : cc[11]? = some v) (hv : IsSl v lims.length (lims.flatMap lmC)) (hli : ∀ x ∈ lims, 1 ≤ x.d ∧ x.d ≤ 31) (hlf : ∀ x ∈ lims, froz1 x.nm = true ∧ froz1 x.ms = true) (hln : lims.length ≤ 16) (h0 : lims.length ≠ 0) :
    DCall pE 69 [z.t, .agg cc, l] [] = some (outT (brAll z ss 0 lims).length ((brAll z ss 0 lims).flatMap brT), []) := by
  rw [p_funO fn69 (by simp [c69])]
  have h0' : ¬ ((lims.length : Nat) : Int) = 0 := by omega
  have h200 := hf.len
  have hbig : ss.length * 8 ≤ 1099511627776 ∧ ss.length ≤ 1099511627776 := by omega
  have hA0 := fun fr lh => OA z hz l ss hl h200 (fun s hs => by have := hf.span s hs; omega) [] 1 ss.length 0 fr lh (by omega) (by omega)
  rw [dsAt_zero] at hA0
  have hA := fun fr lh h3 h7 h26 h27 (h28 : getF fr 28 = .i .i64 0) hO3 hO25 => loop_fix2 (hA0 fr lh h3 h7 h26 h27 h28 hO3 hO25)
  have hB0 := fun fr lh => OB z hz l v ss lims hl hf hv hli hlf hln [] 1 lims.length 0 0 [] fr lh (by omega) (by omega) (by omega)
  simp only [List.drop_zero, Nat.zero_add, List.nil_append] at hB0
  have hB := fun fr lh h2 h7 h47 h48 (h49 : getF fr 49 = .i .i64 0) hO25 (h10 : getF fr 10 = .nilsl) => loop_fix2 (hB0 fr lh h2 h7 h47 h48 h49 hO25 (Or.inl ⟨rfl, h10, rfl⟩))
  have hans := fun fr lh h2 h7 h47 h48 h49 hO25 h10 => OutS.ansO [] (hB fr lh h2 h7 h47 h48 h49 hO25 h10).2
  unfold Zn.t
  simp (maxDischargeDepth := 6) only [frL_presM, Nat.reduceShiftRight, Nat.reduceMod, DC_seq, DC_skip, DC_ret, DC_region, DC_block, p_cond, isB_b, isT_b, andThen_nrm, outOf_ext, endO_ret, kv_some, ka_some, e_nil, o_mv, o_box, p_bin, p_fa, faV_ptr, p_lenV, p_ld, ldV_L, ldE_cells, p_mksl, mkslV, mkOk, rd_t, rd_c, get_same, get_ne, getO_same, getO_ne, getO_nil, noEnt, resV, frOf, frFrom, cells_agg, noTup_agg, part_f, asNat_i, Nat.reduceAdd, bin_eql, Option.bind_some, Option.map_some, List.length_cons, List.length_nil, Bool.false_eq_true, if_true, if_false, reduceCtorEq, ne_eq, not_false_eq_true, and_self, Nat.zero_add, Nat.reduceAdd, Nat.reduceLT, Nat.reduceEqDiff, decide_false, Int.toNat_natCast, Int.natCast_nonneg, c69, hcc, hv.lenI, h0', hl.lenI, hbig, roomy, (hA _ _ _ _ _ _ _ _ _).1, (hA _ _ _ _ _ _ _ _ _).2.1, (hA _ _ _ _ _ _ _ _ _).2.2, c69_L5_w, (hB _ _ _ _ _ _ _ _ _).1, hans]
end Go.Proofs.YtfenhjpkomldcaaGreat
