/- FoldBuilt. Conditions: the theorems' own. -/
import Derived.Test.YtfenhjpkomldcaaGreatM15
import Derived.KernelRfl
set_option maxRecDepth 100000
set_option linter.unusedSimpArgs false
set_option linter.unusedVariables false
set_option linter.unusedSectionVars false
set_option maxHeartbeats 16000000
namespace Go.Proofs.YtfenhjpkomldcaaGreat
open Go Go.Ev
/-- The constants of the built cases. -/
def l0 : Cs := [([116, 119, 111], leafX 1 2), ([115, 104, 105, 102, 116, 95, 116, 105, 109, 101], .mk 10 0 [] [.mk 6 0 [116, 119, 111] [], leafX 2 45])]
def mulT : T := .sl [.i .i64 6, .i .i64 0, .s [116, 119, 111], .nilsl, .i .i64 2, .i .i64 45, .s [], .nilsl] 2 true
def l0c : List T := [.s [116, 119, 111], .i .i64 1, .i .i64 2, .s [], .nilsl, .s [115, 104, 105, 102, 116, 95, 116, 105, 109, 101], .i .i64 10, .i .i64 0, .s [], mulT]
theorem l0_is : IsCl l0 l0c := by
  refine ⟨[.i .i64 1, .i .i64 2, .s [], .nilsl], [.s [115, 104, 105, 102, 116, 95, 116, 105, 109, 101], .i .i64 10, .i .i64 0, .s [], mulT], rfl, leaf_is _ _ _ nil_is, ?_⟩
  refine ⟨[.i .i64 10, .i .i64 0, .s [], mulT], [], rfl, ?_, rfl⟩
  exact node_is 10 _ mulT _ (Or.inr ⟨true, rfl⟩) (IsExs.cons (name_is _) (IsExs.cons (leaf_is _ _ _ nil_is) IsExs.nil))
theorem l0_sm : smC l0 := by
  intro c hc
  simp only [l0, List.mem_cons, List.not_mem_nil, or_false] at hc
  rcases hc with rfl | rfl
  · exact ⟨by decide, leaf_sm _ _⟩
  · exact ⟨by decide, sm3 ⟨name_sm _ (by decide), leaf_sm _ _, trivial⟩⟩
theorem l0_ev : DCall pE 17 [] [] = some (.sl l0c 2 true, []) := dcall_of (m := 20) (by_callK (by kernel_rfl))
theorem l0_sl : IsSl (.sl l0c 2 true) l0.length l0c := Or.inr ⟨true, rfl⟩
theorem lsame_ev (x : Ex) (cs cs' : List T) (h1 : IsEx x cs) (h2 : IsEx x cs') (hn : x.nodes ≤ 100000) : DCall pE 19 [.agg cs, .agg cs'] [] = some (.b true, []) := by
  have h := same_ev x cs cs' h1 h2 hn
  obtain ⟨a, cc, rfl, ha, hxs⟩ := h1.cells
  obtain ⟨a', cc', rfl, ha', hxs'⟩ := h2.cells
  rw [p_fun fn19 (by simp [c19])]
  simp (maxDischargeDepth := 6) only [qGO0, qGO1, qGO2, qGO3, qGO4, qGO5, setD, noEnt, resV, ansV_gen, frOf, frFrom, Nat.reduceAdd, reduceCtorEq, Nat.reduceLT, Nat.reduceEqDiff, c19, h, dc60, ha.froz1, ha'.froz1]
theorem simS_small (l : Cs) (scope : Int) (x : Ex) : (simS l scope x).1.nodes ≤ 100000 ∨ 40000 < x.nodes := by
  by_cases h : 40000 < x.nodes
  · exact .inr h
  · left
    have := foldS_nodes l scope x
    unfold simS
    split
    · simp [leafX, Ex.nodes, nodesL]
    · split
      · simp [leafX, Ex.nodes, nodesL]
      · show (foldS l scope x).nodes ≤ 100000
        omega
theorem fb_ev (xs : List Int) (lT : T) (hl : IsSl lT xs.length (ints xs)) (sc kd : Int) : DCall pE 3 [lT, .i .i64 sc, .i .i64 kd] [] = some (.b true, []) := by
  have m3 : (sc % 256).tmod 3 = sc % 256 % 3 := tmod_nn (by omega)
  obtain ⟨scope, hw1, hsc⟩ : ∃ scope : Int, wr .i64 (1 + sc % 256 % 3) = scope ∧ (scope = 1 ∨ scope = 2 ∨ scope = 3) := ⟨1 + sc % 256 % 3, wr64 (by omega), by omega⟩
  obtain ⟨kind, hw2⟩ : ∃ kind : Int, wr .i64 (1 + kd % 4) = kind := ⟨_, rfl⟩
  obtain ⟨x, cs, s, hx0, hx, hn, hs⟩ := bexpr_ev xs lT hl scope hsc kind
  obtain ⟨c1, s1, hp, hc1⟩ := psim_ev l0 _ l0c l0_sl l0_is (lim_of (by decide)) l0_sm scope x cs hx (by omega) hs
  obtain ⟨c2, hr, hc2⟩ := rsim_ev l0 _ l0c l0_sl l0_is (lim_of (by decide)) l0_sm scope x cs hx (by omega) hs
  have hsm := lsame_ev _ c1 c2 hc1 hc2 ((simS_small l0 scope x).resolve_right (by omega))
  obtain ⟨s3, haw⟩ := awake_ev
  have hcon := l0_ev
  have hcf := l0_sl.froz
  generalize simS l0 scope x = q at *
  obtain ⟨y, e⟩ := q
  simp only at *
  obtain ⟨a, cc, rfl, ha, hxs⟩ := hx.cells
  obtain ⟨p1, q1, rfl, u1, w1⟩ := hc1.cells
  obtain ⟨p2, q2, rfl, u2, w2⟩ := hc2.cells
  rw [p_fun fn3 (by simp [c3])]
  simp (maxDischargeDepth := 6) only [qGO0, qGO1, qGO2, qGO3, qGO4, qGO5, setD, noEnt, resV, ansV_gen, frOf, frFrom, splice, Nat.reduceAdd, reduceCtorEq, Nat.reduceLT, Nat.reduceEqDiff, Int.reduceEq, qDR0, qDR1, getL, c3, m3, hw1, hw2, hx0, dc15, hl.froz, hcon, dc17, dd17, hcf, hp, dc16, dd16, hr, dc18, dd18, ha.froz1, u1.froz1, u2.froz1, hsm, dc19, haw, dc20]
theorem fb_law (t : T) (xs : List Int) (h : IsSl t xs.length (ints xs)) (a b : Int) : ∃ s, DCall pE 3 [t, .i .i64 a, .i .i64 b] [] = some (.b true, s) := ⟨_, fb_ev xs t h a b⟩
end Go.Proofs.YtfenhjpkomldcaaGreat
