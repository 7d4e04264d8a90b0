/- TotalsMoves returns true at every input: the whole. Conditions: none beyond the theorems' own. -/
import Derived.Test.YtfenhjpkomldcaaGreatTY
set_option maxRecDepth 100000
set_option maxHeartbeats 4000000
set_option linter.unusedSimpArgs false
set_option linter.unusedVariables false
namespace Go.Proofs.YtfenhjpkomldcaaGreat
open Go Go.Ev
theorem lim_ok (n : Int) : conOk (n % 1024) (1 + n / 8 % 4) (n / 4 % 1024) (1 + n / 16 % 4) (1 + n / 256 % 4 % (1 + n / 64 % 4)) (1 + n / 64 % 4) := by
  have h1 : 0 ≤ n / 64 % 4 := by omega
  have h2 : n / 64 % 4 ≤ 3 := by omega
  generalize n / 64 % 4 = d at *
  have h3 := Int.emod_nonneg (n / 256 % 4) (show 1 + d ≠ 0 by omega)
  have h4 := Int.emod_lt_of_pos (n / 256 % 4) (show 0 < 1 + d by omega)
  generalize n / 256 % 4 % (1 + d) = c at *
  unfold conOk
  refine ⟨⟨?_, ?_⟩, ⟨?_, ?_⟩, ⟨?_, ?_⟩, ⟨?_, ?_⟩, ⟨?_, ?_⟩, ?_, ?_⟩ <;> omega
theorem zn_flat (k : Int) : (znOf (k % 8)).sh = none := by
  unfold znOf
  have : ¬ k % 8 / 8 % 2 = 1 := by omega
  simp only [this, if_false]
theorem d_w (k : Int) : wr .i64 (1 + k / 8 % 64) = 1 + k / 8 % 64 := wr64 (by omega)
theorem moves_core (la : T) (n k : Int) (cc : List T) (z : Zn) (hcl : cc.length = 14) (hcf : cc.all froz1 = true) (hla : froz la = true) (ss : List Sti) (hg : Good ss) (d : Int) (hd : 0 ≤ d ∧ d ≤ 64) (hk : 1 + k / 8 % 64 = d)
    (hlim : DCall pE 27 [.i .i64 n] [] = some (.agg cc, [])) (hzone : DCall pE 33 [.i .i64 (k % 8)] [] = some (z.t, [])) (hst : DCall pE 28 [.agg cc, la] [] = some (outT ss.length (ss.flatMap stC), []))
    (us os : List Br) (hu1 : Near us) (hu2 : us.length < 1000000) (ho1 : Near os) (ho2 : os.length < 1000000)
    (D1 : DCall pE 34 [z.t, .agg cc, outT ss.length (ss.flatMap stC)] [] = some (.tup [outT us.length (us.flatMap bC), .i .i64 0], []))
    (D2 : DCall pE 34 [z.t, .agg cc, outT ss.length ((ss.map (Sti.mv d)).flatMap stC)] [] = some (.tup [outT (us.map (Br.mv d)).length ((us.map (Br.mv d)).flatMap bC), .i .i64 0], []))
    (D3 : DCall pE 41 [z.t, .agg cc, outT ss.length (ss.flatMap stC), .i .i64 9000, .i .i64 9005] [] = some (.tup [outT os.length (os.flatMap bC), .i .i64 0], []))
    (D4 : DCall pE 41 [z.t, .agg cc, outT ss.length ((ss.map (Sti.mv d)).flatMap stC), .i .i64 (9000 + d), .i .i64 (9005 + d)] [] = some (.tup [outT (os.map (Br.mv d)).length ((os.map (Br.mv d)).flatMap bC), .i .i64 0], [])) :
    ∃ s, DCall pE 12 [la, .i .i64 n, .i .i64 k] [] = some (.b true, s) := by
  rw [p_fun fn12 (by simp [c12])]
  have htk : cc.take 14 = cc := by rw [← hcl]; exact List.take_length
  have hsp := splice_full [T.i IntKind.i64 0, T.i IntKind.i64 0, T.i IntKind.i64 0, T.i IntKind.i64 0, T.i IntKind.i64 0, T.i IntKind.i64 0, T.i IntKind.i64 0, T.nilsl, T.nilsl, T.nilsl, T.nilsl, T.nilsl, T.nilsl, T.i IntKind.i64 0] cc (by rw [hcl]; rfl)
  have hzone' := hzone
  unfold Zn.t at hzone
  have hw := d_w k
  rw [hk] at hw
  have hlf : froz (outT ss.length (ss.flatMap stC)) = true := by unfold outT; split <;> rfl
  have hl : IsSl (outT ss.length (ss.flatMap stC)) ss.length (ss.flatMap stC) := outT_isl (fun h => by rw [List.length_eq_zero_iff.1 h]; rfl)
  generalize outT ss.length (ss.flatMap stC) = l at *
  have hL := fun fr lh (a : getF fr 9 = l) (b : getF fr 10 = .i .i64 d) (c : getF fr 12 = .i .i64 0) (e : getF fr 11 = .nilsl) => loop_fix2 (ML3 l ss hl hg d hd [] ss.length 0 fr lh (by omega) (by omega) a b c (Or.inl ⟨rfl, e, rfl⟩))
  simp (maxDischargeDepth := 6) only [and_7, and_63, shr_3, DC_seq, DC_region, DC_block, andThen_nrm, outOf_ext, kv_some, ks_some, kc_some, e_nil, o_mv, o_alloc, p_bin, p_ld, ldV_L, ldE_cells, p_st, stV_L, stB_box, p_call, setD, rd_t, rd_c, get_same, get_ne, getO_same, getO_ne, getO_nil, noEnt, froz_i, froz_agg, frOf, frFrom, cells_agg, noTup_agg, splice, part_t, Nat.reduceAdd, List.all_nil, bin_add, Option.bind_some, Option.map_some, List.map_cons, List.map_nil, List.all_cons, List.all_nil, List.length_cons, List.length_nil, List.drop_zero, Bool.and_self, if_true, reduceCtorEq, ne_eq, not_false_eq_true, and_self, Nat.zero_add, Nat.reduceAdd, Nat.reduceLT, Nat.reduceEqDiff, Nat.le_refl, c12, c12_R1, c12_R2, c12_R3, c12_R4, c12_R5, hlim, hzone, hst, dc27, dc33, dc28, hcl, hcf, htk, hsp, hla, hk, hw, (hL _ _ _ _ _ _).1]
  refine MR6 d hd us os hu1 hu2 ho1 ho2 z cc hcl hcf l hlf ss.length ((ss.map (Sti.mv d)).flatMap stC) D1 D2 D3 D4 _ _ _ ?_ ?_ ?_ ?_ ?_ ?_ rfl ((hL _ _ ?_ ?_ ?_ ?_).2.1) ?_ ?_ ?_ ?_
  all_goals first | (simp only [frL_presM, Nat.reduceShiftRight, Nat.reduceMod, get_same, get_ne, noEnt, ne_eq, not_false_eq_true, Nat.reduceEqDiff, c12_L3_w]; done) | (rw [(hL _ _ (by simp only [get_same, get_ne, ne_eq, not_false_eq_true, Nat.reduceEqDiff]) (by simp only [get_same, get_ne, ne_eq, not_false_eq_true, Nat.reduceEqDiff]) (by simp only [get_same]) (by simp only [get_same, get_ne, ne_eq, not_false_eq_true, Nat.reduceEqDiff])).2.2 _ (by decide)]; simp only [getO_same, getO_ne, getO_nil, noEnt, ne_eq, not_false_eq_true, Nat.reduceEqDiff]; done)
theorem moves_ev (la : T) (xs : List Int) (hl : IsSl la xs.length (ints xs)) (n k : Int) : ∃ s, DCall pE 12 [la, .i .i64 n, .i .i64 k] [] = some (.b true, s) := by
  have hlim := limits_ev con3 n
  have hok := lim_ok n
  generalize n % 1024 = m0, 1 + n / 8 % 4 = d0, n / 4 % 1024 = m1, 1 + n / 16 % 4 = d1, 1 + n / 256 % 4 % (1 + n / 64 % 4) = cnt at *
  obtain ⟨D, hD⟩ : ∃ D : Nat, 1 + n / 64 % 4 = (D : Int) := ⟨(1 + n / 64 % 4).toNat, by omega⟩
  rw [hD] at hlim hok
  have hz := znOf_ok (k % 8)
  have hzone := zone_ev (k % 8)
  have hfl := zn_flat k
  generalize znOf (k % 8) = z at *
  have hst := stints_ev la (.sl (limC m0 d0 m1 d1) 2 false) (conC m0 d0 m1 d1 cnt (D : Int)) xs hl rfl rfl
  have hg := all_good xs
  have hd : 0 ≤ 1 + k / 8 % 64 ∧ 1 + k / 8 % 64 ≤ 64 := by omega
  have hg' := mv_good xs (1 + k / 8 % 64) hd.1 hd.2
  generalize hdd : 1 + k / 8 % 64 = d at *
  generalize stAll xs = ss at *
  have hlen : (ss.map (Sti.mv d)).length = ss.length := List.length_map ..
  have hsl : ∀ ss : List Sti, IsSl (outT ss.length (ss.flatMap stC)) ss.length (ss.flatMap stC) := fun ss => outT_isl (fun h => by rw [List.length_eq_zero_iff.1 h]; rfl)
  have hd2 : ∀ l ∈ lims2 m0 d0 m1 d1, 1 ≤ l.d ∧ l.d ≤ 31 := by
    obtain ⟨_, a, _, b, _⟩ := hok
    intro x hx
    simp only [lims2, List.mem_cons, List.not_mem_nil, or_false] at hx
    rcases hx with rfl | rfl
    · exact a
    · exact b
  have hD31 : D ≤ 31 := by obtain ⟨_, _, _, _, a, _⟩ := hok; omega
  have D1 := tlim_ev z hz m0 d0 m1 d1 cnt (D : Int) hok (outT ss.length (ss.flatMap stC)) ss (hsl ss) hg.fit hg.val
  have D2 := tlim_ev z hz m0 d0 m1 d1 cnt (D : Int) hok (outT (ss.map (Sti.mv d)).length ((ss.map (Sti.mv d)).flatMap stC)) (ss.map (Sti.mv d)) (hsl _) hg'.fit hg'.val
  have D3 := toff_ev z hz m0 d0 m1 d1 cnt D hok (outT ss.length (ss.flatMap stC)) ss (hsl ss) hg.fit hg.val 9000 9005 5 (by omega) (by omega) (by omega) (by omega)
  have D4 := toff_ev z hz m0 d0 m1 d1 cnt D hok (outT (ss.map (Sti.mv d)).length ((ss.map (Sti.mv d)).flatMap stC)) (ss.map (Sti.mv d)) (hsl _) hg'.fit hg'.val (9000 + d) (9005 + d) 5 (by omega) (by omega) (by omega) (by omega)
  rw [br_mv hfl, toL_cells, toL_mv, hlen] at D2
  rw [busy_mv hfl, off_mv, toO_cells, toO_mv, hlen] at D4
  rw [toL_cells] at D1
  rw [toO_cells] at D3
  have hul := br_len z ss (by have := hg.len; omega) (lims2 m0 d0 m1 d1) 0 (fun l hl => (hd2 l hl).2)
  have hol := off_len (busyOf z ss 9000 5) D cnt 9000 5 0
  refine moves_core la n k (conC m0 d0 m1 d1 cnt (D : Int)) z rfl rfl hl.froz ss hg d hd hdd hlim hzone hst ((brAll z ss 0 (lims2 m0 d0 m1 d1)).map toL) ((offL (busyOf z ss 9000 5) D cnt 9000 0 5).map toO)
    (near_L hz hg _ hd2 0) (by rw [List.length_map]; simp only [lims2, List.length_cons, List.length_nil] at hul ⊢; omega) (near_O _ D hD31 cnt 9000 (by omega) 5 0 (by omega)) (by rw [List.length_map]; omega) ?_ ?_ ?_ ?_
  · rw [List.length_map]; exact D1
  · rw [List.length_map, List.length_map]; rw [List.length_map] at D2; exact D2
  · rw [List.length_map]; exact D3
  · rw [List.length_map, List.length_map]; rw [List.length_map] at D4; exact D4
end Go.Proofs.YtfenhjpkomldcaaGreat
