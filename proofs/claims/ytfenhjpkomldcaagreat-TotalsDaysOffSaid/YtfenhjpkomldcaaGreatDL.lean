/- TotalsDaysOff returns true at every input. Conditions: none beyond the theorems' own. -/
import Derived.Test.YtfenhjpkomldcaaGreatDO
import Derived.Test.YtfenhjpkomldcaaGreatVL
set_option maxRecDepth 100000
set_option maxHeartbeats 4000000
set_option linter.unusedSimpArgs false
set_option linter.unusedVariables false
namespace Go.Proofs.YtfenhjpkomldcaaGreat
open Go Go.Ev
theorem q15 (x : Int) (h : 0 ≤ x ∧ x ≤ 15) : 0 ≤ x.tdiv 15 ∧ x.tdiv 15 ≤ 1 := by
  have : x.tdiv 15 = x / 15 := Int.tdiv_eq_ediv_of_nonneg h.1
  omega
theorem doff_core (la lb l x : T) (n k : Int) (cc : List T) (z : Zn) (hcl : cc.length = 14) (hcf : cc.all froz1 = true) (hla : froz la = true) (hlb : froz lb = true) (hl : froz l = true) (hx : froz x = true)
    (hlim : DCall pE 27 [.i .i64 n] [] = some (.agg cc, [])) (hzone : DCall pE 33 [.i .i64 k] [] = some (z.t, [])) (hst : DCall pE 28 [.agg cc, la] [] = some (l, [])) (hsp : DCall pE 29 [l, lb] [] = some (x, []))
    (hb : ∀ (a b : Int), -100000 ≤ a ∧ a ≤ 100000 → ∃ (bs : List Br) (e : Int), bs.length < 1000000 ∧
      DCall pE 41 [z.t, .agg cc, x, .i .i64 a, .i .i64 b] [] = some (.tup [outT bs.length (bs.flatMap bC), .i .i64 e], []) ∧
      DCall pE 42 [z.t, .agg cc, x, .i .i64 a, .i .i64 b] [] = some (.tup [outT bs.length (bs.flatMap bC), .i .i64 e], [])) :
    ∃ s, DCall pE 10 [la, lb, .i .i64 n, .i .i64 k] [] = some (.b true, s) := by
  obtain ⟨sk, hknown⟩ := known_ev
  have hkn : ∀ z fr lh sh, doCall pE (DCall pE) z ⟨fr, lh, sh⟩ 32 [] = some (.b true, ⟨fr, lh, sh⟩) := by intro z fr lh sh; rw [dc32 rfl, hknown]; rfl
  rw [p_fun fn10 (by simp [c10])]
  have htk : cc.take 14 = cc := by rw [← hcl]; exact List.take_length
  have hsp2 := splice_full [T.i IntKind.i64 0, T.i IntKind.i64 0, T.i IntKind.i64 0, T.i IntKind.i64 0, T.i IntKind.i64 0, T.i IntKind.i64 0, T.i IntKind.i64 0, T.nilsl, T.nilsl, T.nilsl, T.nilsl, T.nilsl, T.nilsl, T.i IntKind.i64 0] cc (by rw [hcl]; rfl)
  have hA : 0 ≤ k / 65536 % 4 ∧ k / 65536 % 4 ≤ 3 := by omega
  have hB : 0 ≤ k / 262144 % 8 ∧ k / 262144 % 8 ≤ 7 := by omega
  have hQ := q15 (k / 2097152 % 16) (by omega)
  have wQ : wr .i64 ((k / 2097152 % 16).tdiv 15) = (k / 2097152 % 16).tdiv 15 := wr64 (by omega)
  generalize eA : k / 65536 % 4 = A at *
  generalize eB : k / 262144 % 8 = B at *
  generalize eQ : (k / 2097152 % 16).tdiv 15 = q at *
  have w1 : wr .i64 (8999 + A) = 8999 + A := wr64 (by omega)
  have w2 : wr .i64 (8999 + A + B) = 8999 + A + B := wr64 (by omega)
  have w3 : wr .i64 (q * 9) = q * 9 := wr64 (by omega)
  have w4 : wr .i64 (8999 + A + B - q * 9) = 8999 + A + B - q * 9 := wr64 (by omega)
  have w5 : wr .i64 (8999 + A + 366) = 8999 + A + 366 := wr64 (by omega)
  have w6 : wr .i64 (8999 + A + 366 + 1) = 8999 + A + 366 + 1 := wr64 (by omega)
  unfold Zn.t at hzone hb
  by_cases hC : k / 33554432 % 8 = 7
  · obtain ⟨bs, e, hlen, H1, H2⟩ := hb (8999 + A) (8999 + A + 366 + 1) (by omega)
    have hz := fun lh => fzL_m (z := z) (lh := lh) (sh := []) (rest := [.i .i64 (8999 + A), .i .i64 (8999 + A + 366 + 1)]) hcf (fzV_froz hx) rfl
    have hc := fun lh (hO : getO lh 55 = noEnt) fr => (let ⟨us, h⟩ := hz lh; own_callE (fun _ _ _ _ _ => dp41) H1 (bC_scal _) (bC_len _) h hO fr)
    have hc' := hc (setO (setO (setO (setO Tri.nil 9 ⟨1, .cells [.i .i64 0, .i .i64 0, .i .i64 0, .i .i64 0, .i .i64 0, .i .i64 0, .i .i64 0, .nilsl, .nilsl, .nilsl, .nilsl, .nilsl, .nilsl, .i .i64 0] 0 true⟩) 10 ⟨1, .cells [.s [], .i .i64 0, .nilsl] 0 true⟩) 9 ⟨1, .cells cc 0 true⟩) 10 ⟨1, .cells [.s [108, 111, 99, 97, 108], .i .i64 z.off, shT z.sh] 0 true⟩) (by simp only [getO_ne, getO_nil, noEnt, ne_eq, not_false_eq_true, Nat.reduceEqDiff])
    have hs := fun lh fr sh => same_call2 bs hlen (ownH 55 bs.length (bs.flatMap bC) lh) (own_S (bC_len _)) 73 fr sh
    have hfo : froz1 (outT bs.length (bs.flatMap bC)) = true := froz_outT
    simp (maxDischargeDepth := 6) only [and_3, and_7, and_15, shr_16, shr_18, shr_21, shr_25, DC_seq, DC_skip, DC_ret, DC_region, p_cond, isB_b, isT_b, andThen_nrm, endR_ret, kv_some, ks_some, kc_some, e_nil, o_mv, o_alloc, p_pick, pickV_b, p_bin, p_ext, extV_tup, p_ld, ldV_L, ldE_cells, p_st, stV_L, stB_box, p_call, g_passT, setD, rd_t, rd_c, get_same, get_ne, getO_same, getO_ne, getO_nil, noEnt, resV, ansV_gen, froz_b, froz_i, froz_agg, froz1_i, froz1_s, frOf, frFrom, fzV_froz, ups_nil, cells_agg, noTup_agg, splice, part_t, Nat.reduceAdd, List.all_nil, decide_true, bin_add, bin_sub, bin_mul, bin_quo, bin_eql, Option.bind_some, Option.map_some, List.map_cons, List.map_nil, List.all_cons, List.all_nil, List.length_cons, List.length_nil, List.drop_zero, List.getElem?_cons_zero, List.getElem?_cons_succ, List.take_succ_cons, List.take_zero, Bool.and_self, if_true, if_false, reduceCtorEq, ne_eq, not_false_eq_true, and_self, Nat.zero_add, Nat.reduceAdd, Nat.reduceLT, Nat.reduceEqDiff, decide_true, Nat.le_refl, Int.reduceEq, c10, hlim, hzone, hst, hsp, H2, dc27, dc33, dc28, dc29, dc42, shT_f1, hcl, hcf, htk, hsp2, hla, hlb, hl, hx, hkn, eA, eB, eQ, wQ, w1, w2, w3, w4, w5, w6, hC, hc', hs, ownH_ne]
    exact ⟨_, rfl⟩
  · obtain ⟨bs, e, hlen, H1, H2⟩ := hb (8999 + A) (8999 + A + B - q * 9) (by omega)
    have hz := fun lh => fzL_m (z := z) (lh := lh) (sh := []) (rest := [.i .i64 (8999 + A), .i .i64 (8999 + A + B - q * 9)]) hcf (fzV_froz hx) rfl
    have hc := fun lh (hO : getO lh 55 = noEnt) fr => (let ⟨us, h⟩ := hz lh; own_callE (fun _ _ _ _ _ => dp41) H1 (bC_scal _) (bC_len _) h hO fr)
    have hc' := hc (setO (setO (setO (setO Tri.nil 9 ⟨1, .cells [.i .i64 0, .i .i64 0, .i .i64 0, .i .i64 0, .i .i64 0, .i .i64 0, .i .i64 0, .nilsl, .nilsl, .nilsl, .nilsl, .nilsl, .nilsl, .i .i64 0] 0 true⟩) 10 ⟨1, .cells [.s [], .i .i64 0, .nilsl] 0 true⟩) 9 ⟨1, .cells cc 0 true⟩) 10 ⟨1, .cells [.s [108, 111, 99, 97, 108], .i .i64 z.off, shT z.sh] 0 true⟩) (by simp only [getO_ne, getO_nil, noEnt, ne_eq, not_false_eq_true, Nat.reduceEqDiff])
    have hs := fun lh fr sh => same_call2 bs hlen (ownH 55 bs.length (bs.flatMap bC) lh) (own_S (bC_len _)) 73 fr sh
    have hfo : froz1 (outT bs.length (bs.flatMap bC)) = true := froz_outT
    simp (maxDischargeDepth := 6) only [and_3, and_7, and_15, shr_16, shr_18, shr_21, shr_25, DC_seq, DC_skip, DC_ret, DC_region, p_cond, isB_b, isT_b, andThen_nrm, endR_ret, kv_some, ks_some, kc_some, e_nil, o_mv, o_alloc, p_pick, pickV_b, p_bin, p_ext, extV_tup, p_ld, ldV_L, ldE_cells, p_st, stV_L, stB_box, p_call, g_passT, setD, rd_t, rd_c, get_same, get_ne, getO_same, getO_ne, getO_nil, noEnt, resV, ansV_gen, froz_b, froz_i, froz_agg, froz1_i, froz1_s, frOf, frFrom, fzV_froz, ups_nil, cells_agg, noTup_agg, splice, part_t, Nat.reduceAdd, List.all_nil, decide_true, bin_add, bin_sub, bin_mul, bin_quo, bin_eql, Option.bind_some, Option.map_some, List.map_cons, List.map_nil, List.all_cons, List.all_nil, List.length_cons, List.length_nil, List.drop_zero, List.getElem?_cons_zero, List.getElem?_cons_succ, List.take_succ_cons, List.take_zero, Bool.and_self, Bool.false_eq_true, if_true, if_false, reduceCtorEq, ne_eq, not_false_eq_true, and_self, Nat.zero_add, Nat.reduceAdd, Nat.reduceLT, Nat.reduceEqDiff, decide_true, decide_false, Nat.le_refl, Int.reduceEq, c10, hlim, hzone, hst, hsp, H2, dc27, dc33, dc28, dc29, dc42, shT_f1, hcl, hcf, htk, hsp2, hla, hlb, hl, hx, hkn, eA, eB, eQ, wQ, w1, w2, w3, w4, w5, w6, hC, hc', hs, ownH_ne]
    exact ⟨_, rfl⟩
theorem lim_ok (n : Int) : conOk (n % 1024) (1 + n / 8 % 4) (n / 4 % 1024) (1 + n / 16 % 4) (1 + n / 256 % 4 % (1 + n / 64 % 4)) (1 + n / 64 % 4) := by
  have h1 : 0 ≤ n / 64 % 4 := by omega
  have h2 : n / 64 % 4 ≤ 3 := by omega
  generalize n / 64 % 4 = d at *
  have h3 := Int.emod_nonneg (n / 256 % 4) (show 1 + d ≠ 0 by omega)
  have h4 := Int.emod_lt_of_pos (n / 256 % 4) (show 0 < 1 + d by omega)
  generalize n / 256 % 4 % (1 + d) = c at *
  unfold conOk
  refine ⟨⟨?_, ?_⟩, ⟨?_, ?_⟩, ⟨?_, ?_⟩, ⟨?_, ?_⟩, ⟨?_, ?_⟩, ?_, ?_⟩ <;> omega
theorem doff_ev (la lb : T) (xs ys : List Int) (hl : IsSl la xs.length (ints xs)) (hb : IsSl lb ys.length (ints ys)) (n k : Int) : ∃ s, DCall pE 10 [la, lb, .i .i64 n, .i .i64 k] [] = some (.b true, s) := by
  have hlim := limits_ev con3 n
  have hok := lim_ok n
  generalize n % 1024 = m0, 1 + n / 8 % 4 = d0, n / 4 % 1024 = m1, 1 + n / 16 % 4 = d1, 1 + n / 256 % 4 % (1 + n / 64 % 4) = cnt at *
  obtain ⟨D, hD⟩ : ∃ D : Nat, 1 + n / 64 % 4 = (D : Int) := ⟨(1 + n / 64 % 4).toNat, by omega⟩
  rw [hD] at hlim hok
  have hst := stints_ev la (.sl (limC m0 d0 m1 d1) 2 false) (conC m0 d0 m1 d1 cnt (D : Int)) xs hl rfl rfl
  have hg := all_good xs
  have hv := all_v xs
  generalize stAll xs = ss at *
  obtain ⟨tt, ht, ht6, hto, _⟩ := spoil_all lb ys hb ss hg hv
  have hsl : ∀ ss : List Sti, IsSl (outT ss.length (ss.flatMap stC)) ss.length (ss.flatMap stC) := fun ss => outT_isl (fun h => by rw [List.length_eq_zero_iff.1 h]; rfl)
  exact doff_core la lb _ _ n k (conC m0 d0 m1 d1 cnt (D : Int)) (znOf k) rfl rfl hl.froz hb.froz (hsl ss).froz (hsl tt).froz hlim (zone_ev k) hst ht (fun a b ha => both_off (znOf k) (znOf_ok k) m0 d0 m1 d1 cnt D hok _ tt (hsl tt) hto a b ha)
end Go.Proofs.YtfenhjpkomldcaaGreat
