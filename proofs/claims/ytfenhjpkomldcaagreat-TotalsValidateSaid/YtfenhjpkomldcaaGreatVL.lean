/- TotalsValidate returns true at every input. Conditions: none beyond the theorems' own. -/
import Derived.Test.YtfenhjpkomldcaaGreatSQ
import Derived.Test.YtfenhjpkomldcaaGreatRV
import Derived.Test.YtfenhjpkomldcaaGreatTQ
import Derived.Test.YtfenhjpkomldcaaGreatKC
import Derived.Test.YtfenhjpkomldcaaGreatKnown2
set_option maxRecDepth 100000
set_option maxHeartbeats 4000000
set_option linter.unusedSimpArgs false
set_option linter.unusedVariables false
namespace Go.Proofs.YtfenhjpkomldcaaGreat
open Go Go.Ev
/-- Only frozen things, or a frame's own row: nothing shared is touched. -/
def frzOk (lh : Tri Ent) (sh : List Ent) (args : List T) : Bool := match fzL lh sh false args with | some q => q.2.all (fun u => u.1 == .L) | none => true
theorem d_call0 {E : Env} {call : Orc} {n : Nat} {fr : Fr} {lh : Tri Ent} {sh : List Ent} {ds : List (List Nat × AOper)} {fps : List FP} {d : Option Nat} {f : Nat} {af : AFunc} {as_ : List Opd} (hf : E.fn f = some af) (he : af.eff = false) (hw : af.own = none) (hz : frzOk lh sh (as_.map (rd fr)) = true) (hu : noU ds = true) :
    evDraw E call n (([], ⟨d, .callf f as_, none⟩) :: ds) fps ⟨fr, lh, sh⟩ = ke E call n ds (fps ++ [noFP]) (evOps E call n [⟨d, .callf f as_, none⟩] ⟨fr, lh, sh⟩) := by
  rw [d_of (fp := (operFP E call ⟨d, .callf f as_, none⟩ ⟨fr, lh, sh⟩).getD noFP)]
  · show ke _ _ _ _ _ _ = _
    unfold ke
    cases evOps E call n [⟨d, .callf f as_, none⟩] ⟨fr, lh, sh⟩ with
    | none => rfl
    | some s => exact draw_noU ds _ _ s hu
  · intro hne
    have hco : callOf (St.mk fr lh sh).rho (.callf f as_) = some (some (f, as_.map (rd fr))) := by rw [rho_eq]; rfl
    unfold evOper at hne
    unfold operFP
    simp only [hco] at hne ⊢
    rw [doCall_P hf he hw] at hne
    unfold callFP
    simp only [hf, he, hw]
    unfold frzOk at hz
    have hq : (mapQ (fz false fzFuel) (as_.map (rd fr))).run (St.mk fr lh sh).get sh.length = fzL lh sh false (as_.map (rd fr)) := by unfold fzL; rw [get_fr]
    rw [hq]
    cases hL : fzL lh sh false (as_.map (rd fr)) with
    | none => rw [hL] at hne; exact absurd rfl hne
    | some q =>
      rw [hL] at hne hz
      simp only [Option.bind_some] at hne
      have hin : inB (St.mk fr lh sh) q.2 = true := by
        unfold inB
        simp only at hz
        rw [List.all_eq_true] at hz ⊢
        intro u hu
        rw [hz u hu]; rfl
      simp only [hin, Bool.not_true, Bool.false_eq_true, if_false]
      cases hc : call f q.1 [] with
      | none => rw [hc] at hne; exact absurd rfl hne
      | some r => rfl
def rowB (e : Ent) : Bool := match e.ob with | .cells _ _ false => true | _ => false
theorem rowB_cells {g wm : Nat} {cs : List T} : rowB ⟨g, .cells cs wm false⟩ = true := nr rfl
theorem frz2 {lh : Tri Ent} {sh : List Ent} {a : T} {k g off len sz : Nat} (ha : froz a = true) (hr : rowB (getO lh k) = true) : frzOk lh sh [a, .isl .L k g off len sz] = true := by
  unfold frzOk
  rw [fzL_cons, fzV_froz ha, Option.bind_some, fzL_cons, fzV_isl]
  unfold rowB at hr
  generalize getO lh k = e at hr
  obtain ⟨g', ob⟩ := e
  cases ob with
  | cells cs wm bx =>
    cases bx with
    | true => simp at hr
    | false =>
      rw [islV_cells]
      by_cases h : g' = g ∧ off + len * sz ≤ cs.length
      · rw [if_pos h]; rfl
      · rw [if_neg h]; rfl
  | _ => simp at hr
def zRow : List T := [.i .i64 0, .i .i64 0, .nilsl]
def zSti : Sti := ⟨0, 0, .nilsl, []⟩
theorem repl_len : ∀ n, (repl zRow n).length = n * 3
  | 0 => rfl
  | n + 1 => by
    show (zRow ++ repl zRow n).length = _
    rw [List.length_append, repl_len n]; show 3 + n * 3 = _; omega
theorem repl_flat : ∀ n, repl zRow n = (List.replicate n zSti).flatMap stC
  | 0 => rfl
  | n + 1 => by
    rw [List.replicate_succ, List.flatMap_cons, ← repl_flat n]; rfl
theorem long_ev (lim : T) (cc : List T) (nl : Nat) (hcc : cc[11]? = some lim) (hlim : lenT lim = some nl) : DCall pE 30 [.agg cc, .sl (repl zRow 201) 201 false] [] = some (.i .i64 10, []) := by
  have h := val_ev (.sl (repl zRow 201) 201 false) lim cc (List.replicate 201 zSti) nl (Or.inr ⟨false, by rw [repl_flat, List.length_replicate]⟩) (by
    intro s hs
    rw [List.eq_of_mem_replicate hs]
    exact ⟨Or.inl ⟨rfl, rfl, rfl⟩, by decide⟩) hcc hlim
  rw [h]
  unfold valSpec
  rw [List.length_replicate, if_pos (by omega)]
theorem spoil_nil (b : T) (hb : froz b = true) : DCall pE 29 [.nilsl, b] [] = some (.nilsl, []) := by
  rw [p_fun fn29 (by simp [c29])]
  simp (maxDischargeDepth := 6) only [Int.reduceNeg, DC_seq, DC_skip, DC_ret, DC_region, p_cond, isB_b, isT_b, andThen_nrm, andThen_ret, endR_ret, kv_some, ka_some, e_nil, o_mv, p_bin, p_lenV, lenI_nil, slC_nil, rd_t, rd_c, get_same, get_ne, getO_nil, noEnt, resV, ansV_gen, froz_nilsl, frOf, frFrom, fzV_froz, ups_nil, decide_true, bin_eql, Option.bind_some, Option.map_some, if_true, reduceCtorEq, ne_eq, not_false_eq_true, Nat.zero_add, Nat.zero_mul, Nat.reduceLT, Nat.reduceEqDiff, decide_true, Nat.zero_le, c29, p_appN, appN]
theorem valid_core (la lb l x : T) (n e : Int) (cc : List T) (hcl : cc.length = 14) (hcf : cc.all froz1 = true) (hla : froz la = true) (hlb : froz lb = true) (hl : froz l = true) (hx : froz x = true)
    (hlim : DCall pE 27 [.i .i64 n] [] = some (.agg cc, [])) (hst : DCall pE 28 [.agg cc, la] [] = some (l, [])) (hsp : DCall pE 29 [l, lb] [] = some (x, []))
    (h1 : DCall pE 30 [.agg cc, l] [] = some (.i .i64 0, [])) (h2 : DCall pE 30 [.agg cc, x] [] = some (.i .i64 e, [])) (h3 : DCall pE 31 [.agg cc, x] [] = some (.i .i64 e, []))
    (h4 : DCall pE 30 [.agg cc, .sl (repl [.i .i64 0, .i .i64 0, .nilsl] 201) 201 false] [] = some (.i .i64 10, [])) :
    ∃ s, DCall pE 6 [la, lb, .i .i64 n] [] = some (.b true, s) := by
  obtain ⟨sk, hknown⟩ := known_ev
  have hkn : ∀ z fr lh sh, doCall pE (DCall pE) z ⟨fr, lh, sh⟩ 32 [] = some (.b true, ⟨fr, lh, sh⟩) := by intro z fr lh sh; rw [dc32 rfl, hknown]; rfl
  rw [p_fun fn6 (by simp [c6])]
  have htk : cc.take 14 = cc := by rw [← hcl]; exact List.take_length
  have hsp2 := splice_full [T.i IntKind.i64 0, T.i IntKind.i64 0, T.i IntKind.i64 0, T.i IntKind.i64 0, T.i IntKind.i64 0, T.i IntKind.i64 0, T.i IntKind.i64 0, T.nilsl, T.nilsl, T.nilsl, T.nilsl, T.nilsl, T.nilsl, T.i IntKind.i64 0] cc (by rw [hcl]; rfl)
  have hrl : (repl [T.i .i64 0, T.i .i64 0, T.nilsl] 201).length = 603 := repl_len 201
  have hrt : (repl [T.i .i64 0, T.i .i64 0, T.nilsl] 201).take 603 = repl [T.i .i64 0, T.i .i64 0, T.nilsl] 201 := by rw [← hrl]; exact List.take_length
  simp (maxDischargeDepth := 6) only [DC_seq, DC_ret, DC_region, andThen_nrm, endR_ret, kv_some, ks_some, ka_some, kc_some, e_nil, o_mv, o_alloc, p_pick, pickV_b, p_bin, p_ld, ldV_L, ldE_cells, p_mksl, mkslV, mkOk, p_st, stV_L, stB_box, p_call, setD, rd_t, rd_c, get_same, get_ne, getO_same, getO_ne, getO_nil, noEnt, resV, ansV_gen, froz_b, froz_i, froz_agg, frOf, frFrom, fzV_froz, fzL_nil, fzL_cons, fzV_isl, islV_cells, ups_nil, ups_L, cells_agg, noTup_agg, part_t, asNat_i, scalar_i, Nat.reduceAdd, List.all_nil, decide_true, bin_eql, Option.bind_some, Option.map_some, List.map_cons, List.map_nil, List.all_cons, List.all_nil, List.length_cons, List.length_nil, List.drop_zero, List.append_nil, List.nil_append, List.cons_append, Bool.and_self, Bool.not_false, if_true, reduceCtorEq, ne_eq, not_false_eq_true, and_self, Nat.zero_add, Nat.reduceAdd, Nat.reduceMul, Nat.reduceLT, Nat.reduceLeDiff, Nat.reduceEqDiff, decide_true, Nat.le_refl, Int.reduceToNat, Int.reduceLE, DC_drawsK, d_nil, d_pure, pure_mv, pure_pick, pure_bin, d_ld, ldLog_ptr, noU_nil, noU_cons, d_gpassT, ke_some, meets_nil, meets_cons, apart_no_l, apart_ff, apart1_nil, apart1_cons, has_nil, getL, c6, hlim, hst, hsp, dc27, dc28, dc29, dc30, dc31, dd30, dd31, dd32, hcl, hcf, htk, hsp2, hla, hlb, hl, hx, h1, h2, h3, h4, hkn, hrl, hrt, dp30, d_call0 fn30 rfl rfl, frz2, rowB_cells, roomy]
  exact ⟨_, rfl⟩
theorem gen_v (xs : List Int) : ∀ (n i : Nat) (t : Int), ∀ s ∈ stGen xs n i t, s.v = .sl (ints s.xs) 2 false
  | 0, i, t, s, h => by simp [stGen] at h
  | n + 1, i, t, s, h => by
    simp only [stGen, List.mem_cons] at h
    rcases h with rfl | h
    · rfl
    · exact gen_v xs n (i + 1) _ s h
theorem all_v (xs : List Int) : ∀ s ∈ stAll xs, s.v = .sl (ints s.xs) 2 false := gen_v xs _ 0 _
theorem spS_ok (w k : Int) (s : Sti) (h : s.xs.length = 2) : (spS w k s).ok := by
  unfold spS
  repeat' split
  all_goals exact ⟨Or.inr ⟨false, rfl⟩, by simp [h]⟩
/-- The list as spoil leaves it, from numbers. -/
theorem spoil_all (lb : T) (ys : List Int) (hb : IsSl lb ys.length (ints ys)) (ss : List Sti) (hg : Good ss) (hv : ∀ s ∈ ss, s.v = .sl (ints s.xs) 2 false) :
    ∃ tt : List Sti, DCall pE 29 [outT ss.length (ss.flatMap stC), lb] [] = some (outT tt.length (tt.flatMap stC), []) ∧ tt.length ≤ 6 ∧ (∀ s ∈ tt, s.ok) ∧ (tt = ss ∨ ∃ i, ∃ h : i < ss.length, tt = ss.set i (spS (atV ys 0 % 12) (atV ys 1) ss[i])) := by
  have h6 := hg.len
  by_cases h0 : ss.length = 0
  · have : ss = [] := List.length_eq_zero_iff.1 h0
    subst this
    exact ⟨[], spoil_nil lb hb.froz, by simp, by simp, .inl rfl⟩
  · have hk0 := atV_nn ys 1
    have h1 : (atV ys 1).tmod (ss.length : Int) = atV ys 1 % (ss.length : Int) := tmod_nn hk0
    have h2 := Int.emod_nonneg (atV ys 1) (show (ss.length : Int) ≠ 0 by omega)
    have h3 := Int.emod_lt_of_pos (atV ys 1) (show (0 : Int) < ss.length by omega)
    have hi : (atV ys 1 % (ss.length : Int)).toNat < ss.length := by omega
    have him : (atV ys 1).tmod (ss.length : Int) = ((atV ys 1 % (ss.length : Int)).toNat : Int) := by rw [h1]; omega
    generalize (atV ys 1 % (ss.length : Int)).toNat = i at *
    refine ⟨ss.set i (spS (atV ys 0 % 12) (atV ys 1) ss[i]), ?_, by simpa using h6, ?_, .inr ⟨i, hi, rfl⟩⟩
    · have := spoil_ev lb ys hb ss h0 h6 (fun s hs => ⟨hv s hs, (hg.all s hs).2.2.2.1, (hg.all s hs).1, by have := hg.all s hs; omega⟩) i hi him
      unfold outT
      rw [List.length_set, if_neg h0, if_neg h0]
      exact this
    · intro s hs
      rcases List.mem_or_eq_of_mem_set hs with h | h
      · exact (hg.all s h).2.2.2.2.2
      · rw [h]; exact spS_ok _ _ _ (hg.all _ (List.getElem_mem hi)).2.2.2.1
theorem valid_ev (la lb : T) (xs ys : List Int) (hl : IsSl la xs.length (ints xs)) (hb : IsSl lb ys.length (ints ys)) (n : Int) : ∃ s, DCall pE 6 [la, lb, .i .i64 n] [] = some (.b true, s) := by
  have hlim := limits_ev con3 n
  generalize n % 1024 = m0, 1 + n / 8 % 4 = d0, n / 4 % 1024 = m1, 1 + n / 16 % 4 = d1, 1 + n / 256 % 4 % (1 + n / 64 % 4) = cnt at *
  generalize 1 + n / 64 % 4 = D at *
  have hst := stints_ev la (.sl (limC m0 d0 m1 d1) 2 false) (conC m0 d0 m1 d1 cnt D) xs hl rfl rfl
  have hg := all_good xs
  have hv := all_v xs
  generalize stAll xs = ss at *
  obtain ⟨tt, ht, ht6, hto, _⟩ := spoil_all lb ys hb ss hg hv
  have hsl : ∀ ss : List Sti, IsSl (outT ss.length (ss.flatMap stC)) ss.length (ss.flatMap stC) := fun ss => outT_isl (fun h => by rw [List.length_eq_zero_iff.1 h]; rfl)
  have h1 := val_ev _ (.sl (limC m0 d0 m1 d1) 2 false) (conC m0 d0 m1 d1 cnt D) ss 2 (hsl ss) (fun s hs => (hg.all s hs).2.2.2.2.2) rfl rfl
  rw [hg.val] at h1
  have h2 := val_ev _ (.sl (limC m0 d0 m1 d1) 2 false) (conC m0 d0 m1 d1 cnt D) tt 2 (hsl tt) hto rfl rfl
  have h3 := rvs_ev _ (.sl (limC m0 d0 m1 d1) 2 false) (conC m0 d0 m1 d1 cnt D) tt 2 (hsl tt) hto rfl rfl
  exact valid_core la lb _ _ n _ (conC m0 d0 m1 d1 cnt D) rfl rfl hl.froz hb.froz (hsl ss).froz (hsl tt).froz hlim hst ht h1 h2 h3 (long_ev (.sl (limC m0 d0 m1 d1) 2 false) _ 2 rfl rfl)
end Go.Proofs.YtfenhjpkomldcaaGreat
