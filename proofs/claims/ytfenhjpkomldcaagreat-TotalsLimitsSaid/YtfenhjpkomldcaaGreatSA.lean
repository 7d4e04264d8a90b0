/- spoil, from numbers. Conditions: the theorems' own. -/
import Derived.Test.YtfenhjpkomldcaaGreatSQ
import Derived.Test.YtfenhjpkomldcaaGreatTQ
set_option maxRecDepth 100000
set_option maxHeartbeats 4000000
set_option linter.unusedSimpArgs false
set_option linter.unusedVariables false
namespace Go.Proofs.YtfenhjpkomldcaaGreat
open Go Go.Ev
theorem spoil_nil (b : T) (hb : froz b = true) : DCall pE 29 [.nilsl, b] [] = some (.nilsl, []) := by
  rw [p_fun fn29 (by simp [c29])]
  simp (maxDischargeDepth := 6) only [Int.reduceNeg, DC_seq, DC_skip, DC_ret, DC_region, p_cond, isB_b, isT_b, andThen_nrm, andThen_ret, endR_ret, kv_some, ka_some, e_nil, o_mv, p_bin, p_lenV, lenI_nil, slC_nil, rd_t, rd_c, get_same, get_ne, getO_nil, noEnt, resV, ansV_gen, froz_nilsl, frOf, frFrom, fzV_froz, ups_nil, decide_true, bin_eql, Option.bind_some, Option.map_some, if_true, reduceCtorEq, ne_eq, not_false_eq_true, Nat.zero_add, Nat.zero_mul, Nat.reduceLT, Nat.reduceEqDiff, decide_true, Nat.zero_le, c29, p_appN, appN]
theorem gen_v (xs : List Int) : ∀ (n i : Nat) (t : Int), ∀ s ∈ stGen xs n i t, s.v = .sl (ints s.xs) 2 false
  | 0, i, t, s, h => by simp [stGen] at h
  | n + 1, i, t, s, h => by
    simp only [stGen, List.mem_cons] at h
    rcases h with rfl | h
    · rfl
    · exact gen_v xs n (i + 1) _ s h
theorem all_v (xs : List Int) : ∀ s ∈ stAll xs, s.v = .sl (ints s.xs) 2 false := gen_v xs _ 0 _
theorem spS_ok (w k : Int) (s : Sti) (h : s.xs.length = 2) : (spS w k s).ok := by
  unfold spS
  repeat' split
  all_goals exact ⟨Or.inr ⟨false, rfl⟩, by simp [h]⟩
theorem spoil_all (lb : T) (ys : List Int) (hb : IsSl lb ys.length (ints ys)) (ss : List Sti) (hg : Good ss) (hv : ∀ s ∈ ss, s.v = .sl (ints s.xs) 2 false) :
    ∃ tt : List Sti, DCall pE 29 [outT ss.length (ss.flatMap stC), lb] [] = some (outT tt.length (tt.flatMap stC), []) ∧ tt.length ≤ 6 ∧ (∀ s ∈ tt, s.ok) ∧ (tt = ss ∨ ∃ i, ∃ h : i < ss.length, tt = ss.set i (spS (atV ys 0 % 12) (atV ys 1) ss[i])) := by
  have h6 := hg.len
  by_cases h0 : ss.length = 0
  · have : ss = [] := List.length_eq_zero_iff.1 h0
    subst this
    exact ⟨[], spoil_nil lb hb.froz, by simp, by simp, .inl rfl⟩
  · have hk0 := atV_nn ys 1
    have h1 : (atV ys 1).tmod (ss.length : Int) = atV ys 1 % (ss.length : Int) := tmod_nn hk0
    have h2 := Int.emod_nonneg (atV ys 1) (show (ss.length : Int) ≠ 0 by omega)
    have h3 := Int.emod_lt_of_pos (atV ys 1) (show (0 : Int) < ss.length by omega)
    have hi : (atV ys 1 % (ss.length : Int)).toNat < ss.length := by omega
    have him : (atV ys 1).tmod (ss.length : Int) = ((atV ys 1 % (ss.length : Int)).toNat : Int) := by rw [h1]; omega
    generalize (atV ys 1 % (ss.length : Int)).toNat = i at *
    refine ⟨ss.set i (spS (atV ys 0 % 12) (atV ys 1) ss[i]), ?_, by simpa using h6, ?_, .inr ⟨i, hi, rfl⟩⟩
    · have := spoil_ev lb ys hb ss h0 h6 (fun s hs => ⟨hv s hs, (hg.all s hs).2.2.2.1, (hg.all s hs).1, by have := hg.all s hs; omega⟩) i hi him
      unfold outT
      rw [List.length_set, if_neg h0, if_neg h0]
      exact this
    · intro s hs
      rcases List.mem_or_eq_of_mem_set hs with h | h
      · exact (hg.all s h).2.2.2.2.2
      · rw [h]; exact spS_ok _ _ _ (hg.all _ (List.getElem_mem hi)).2.2.2.1
end Go.Proofs.YtfenhjpkomldcaaGreat
