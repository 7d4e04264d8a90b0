/- FoldBuilt. FoldRules. FoldRules as a whole. Conditions: the theorems' own. -/
import Derived.Test.YtfenhjpkomldcaaGreatM15
import Derived.KernelRfl
set_option maxRecDepth 100000
set_option linter.unusedSimpArgs false
set_option linter.unusedVariables false
set_option linter.unusedSectionVars false
set_option maxHeartbeats 16000000
namespace Go.Proofs.YtfenhjpkomldcaaGreat
open Go Go.Ev
/-- The constants of the built cases. -/
def l0 : Cs := [([116, 119, 111], leafX 1 2), ([115, 104, 105, 102, 116, 95, 116, 105, 109, 101], .mk 10 0 [] [.mk 6 0 [116, 119, 111] [], leafX 2 45])]
def mulT : T := .sl [.i .i64 6, .i .i64 0, .s [116, 119, 111], .nilsl, .i .i64 2, .i .i64 45, .s [], .nilsl] 2 true
def l0c : List T := [.s [116, 119, 111], .i .i64 1, .i .i64 2, .s [], .nilsl, .s [115, 104, 105, 102, 116, 95, 116, 105, 109, 101], .i .i64 10, .i .i64 0, .s [], mulT]
theorem l0_is : IsCl l0 l0c := by
  refine ⟨[.i .i64 1, .i .i64 2, .s [], .nilsl], [.s [115, 104, 105, 102, 116, 95, 116, 105, 109, 101], .i .i64 10, .i .i64 0, .s [], mulT], rfl, leaf_is _ _ _ nil_is, ?_⟩
  refine ⟨[.i .i64 10, .i .i64 0, .s [], mulT], [], rfl, ?_, rfl⟩
  exact node_is 10 _ mulT _ (Or.inr ⟨true, rfl⟩) (IsExs.cons (name_is _) (IsExs.cons (leaf_is _ _ _ nil_is) IsExs.nil))
theorem l0_sm : smC l0 := by
  intro c hc
  simp only [l0, List.mem_cons, List.not_mem_nil, or_false] at hc
  rcases hc with rfl | rfl
  · exact ⟨by decide, leaf_sm _ _⟩
  · exact ⟨by decide, sm3 ⟨name_sm _ (by decide), leaf_sm _ _, trivial⟩⟩
theorem l0_ev : DCall pE 17 [] [] = some (.sl l0c 2 true, []) := dcall_of (m := 20) (by_callK (by kernel_rfl))
theorem l0_sl : IsSl (.sl l0c 2 true) l0.length l0c := Or.inr ⟨true, rfl⟩
theorem lsame_ev (x : Ex) (cs cs' : List T) (h1 : IsEx x cs) (h2 : IsEx x cs') (hn : x.nodes ≤ 100000) : DCall pE 19 [.agg cs, .agg cs'] [] = some (.b true, []) := by
  have h := same_ev x cs cs' h1 h2 hn
  obtain ⟨a, cc, rfl, ha, hxs⟩ := h1.cells
  obtain ⟨a', cc', rfl, ha', hxs'⟩ := h2.cells
  rw [p_fun fn19 (by simp [c19])]
  simp (maxDischargeDepth := 6) only [qF, qGO0, qGO1, qGO2, qGO3, qGO4, qGO5, Nat.reduceAdd, reduceCtorEq, Nat.reduceLT, Nat.reduceEqDiff, c19, h, dc60, ha.froz1, ha'.froz1]
theorem simS_small (l : Cs) (scope : Int) (x : Ex) : (simS l scope x).1.nodes ≤ 100000 ∨ 40000 < x.nodes := by
  by_cases h : 40000 < x.nodes
  · exact .inr h
  · left
    have := foldS_nodes l scope x
    unfold simS
    split
    · simp [leafX, Ex.nodes, nodesL]
    · split
      · simp [leafX, Ex.nodes, nodesL]
      · show (foldS l scope x).nodes ≤ 100000
        omega
end Go.Proofs.YtfenhjpkomldcaaGreat
namespace Go.Proofs.YtfenhjpkomldcaaGreat
open Go Go.Ev
theorem lnode_ev (op : Int) (a : T) (n : Nat) (cc : List T) (ha : IsSl a n cc) : DCall pE 22 [.i .i64 op, a] [] = some (.agg [.i .i64 op, .i .i64 0, .s [], a], []) := by
  rw [p_fun fn22 (by simp [c22])]
  simp (maxDischargeDepth := 6) only [qF, qGO0, qGO1, qGO2, qGO3, qGO4, qGO5, buildV, splice, fills, Nat.reduceAdd, reduceCtorEq, Nat.reduceLT, Nat.reduceLeDiff, Nat.reduceEqDiff, c22, ha.froz1, ha.cells, ha.noTup]
theorem lnode_do {d : Nat} {fr : Fr} {lh : Tri Ent} {sh : List Ent} {op : Int} {cs : List T} {n : Nat} {ex : Bool} : doCall pE (DCall pE) d ⟨fr, lh, sh⟩ 22 [.i .i64 op, .sl cs n ex] = some (.agg [.i .i64 op, .i .i64 0, .s [], .sl cs n ex], ⟨fr, lh, sh⟩) := by
  rw [dc22 rfl, lnode_ev op (.sl cs n ex) n cs (Or.inr ⟨ex, rfl⟩)]; rfl
theorem number_do {d : Nat} {fr : Fr} {lh : Tri Ent} {sh : List Ent} {n : Int} : doCall pE (DCall pE) d ⟨fr, lh, sh⟩ 21 [.i .i64 n] = some (.agg [.i .i64 1, .i .i64 n, .s [], .nilsl], ⟨fr, lh, sh⟩) := by
  rw [dc21 rfl]
  have : DCall pE 21 [.i .i64 n] [] = some (.agg [.i .i64 1, .i .i64 n, .s [], .nilsl], []) := by
    rw [p_fun fn21 (by simp [c21])]
    simp (maxDischargeDepth := 6) only [qF, qGO0, qGO1, qGO2, qGO3, qGO4, qGO5, buildV, splice, fills, Nat.reduceAdd, reduceCtorEq, Nat.reduceLT, Nat.reduceLeDiff, Nat.reduceEqDiff, c21]
  rw [this]; rfl
/-- One of sixteen expressions. -/
theorem fr_tail (ys : List Ex) (cells : List T) (hlen : ys.length = 16) (hys : IsExs ys cells) (hn : ∀ y ∈ ys, y.nodes ≤ 1000 ∧ y.sm) (w : Int) (fr : Fr) (lh : Tri Ent) (h11 : getF fr 11 = .sl cells 16 true) (h1 : getF fr 1 = .i .i64 w) : endR [.tmp 4] false (DC pE 129 c4_R5 ⟨fr, lh, []⟩) = some (.b true, []) := by
  have m16 : (w % 65536).tmod 16 = w % 65536 % 16 := tmod_nn (by omega)
  obtain ⟨r, hr, hr16⟩ : ∃ r : Nat, w % 65536 % 16 = (r : Int) ∧ r < 16 := ⟨(w % 65536 % 16).toNat, by omega, by omega⟩
  rw [hr] at m16
  have hrl : r < ys.length := by omega
  have hsl : IsSl (.sl cells 16 true) ys.length cells := Or.inr ⟨true, by rw [hlen]⟩
  obtain ⟨b, cb, rr, hia, hb1, hb2, hb⟩ := arg_at hsl hys r hrl
  obtain ⟨hxn, hs⟩ := hn ys[r] (List.getElem_mem hrl)
  generalize ys[r] = x at *
  obtain ⟨c1, s1, hp, hc1⟩ := psim_ev l0 _ l0c l0_sl l0_is (lim_of (by decide)) l0_sm 1 x _ hb (by omega) hs
  obtain ⟨c2, hrf, hc2⟩ := rsim_ev l0 _ l0c l0_sl l0_is (lim_of (by decide)) l0_sm 1 x _ hb (by omega) hs
  have hsm := lsame_ev _ c1 c2 hc1 hc2 ((simS_small l0 1 x).resolve_right (by omega))
  obtain ⟨s3, haw⟩ := awake_ev
  have hcon := l0_ev
  have hcf := l0_sl.froz
  generalize simS l0 1 x = q at *
  obtain ⟨y, e⟩ := q
  simp only at *
  obtain ⟨p1, q1, rfl, u1, w1⟩ := hc1.cells
  obtain ⟨p2, q2, rfl, u2, w2⟩ := hc2.cells
  simp (maxDischargeDepth := 6) only [qF, qGO0, qGO1, qGO2, qGO3, qGO4, qGO5, splice, Nat.reduceAdd, Nat.reduceLT, Nat.reduceLeDiff, Nat.reduceEqDiff, Int.reduceEq, qDR0, qDR1, getL, c4_R5, c4_R6, c4_R7, c4_R8, h11, h1, m16, hia, hcon, dc17, dd17, hcf, hp, dc16, dd16, hrf, dc18, dd18, hb1.froz1, u1.froz1, u2.froz1, hsm, dc19, haw, dc20]
end Go.Proofs.YtfenhjpkomldcaaGreat
namespace Go.Proofs.YtfenhjpkomldcaaGreat
open Go Go.Ev
def rulesX (x n : Ex) : List Ex := [.mk 19 0 [] [.mk 19 0 [] [x]],
  .mk 20 0 [] [leafX 4 0, x],
  .mk 20 0 [] [x, leafX 5 0],
  .mk 21 0 [] [leafX 5 0, x],
  .mk 21 0 [] [x, leafX 4 0],
  .mk 22 0 [] [leafX 4 0, x],
  .mk 22 0 [] [x, leafX 5 0],
  .mk 22 0 [] [x, leafX 4 0],
  .mk 14 0 [] [leafX 4 0, n, leafX 2 0],
  .mk 14 0 [] [leafX 5 0, leafX 2 0, n],
  .mk 8 0 [] [leafX 2 0, n],
  .mk 9 0 [] [n, leafX 2 0],
  .mk 10 0 [] [leafX 1 1, n],
  .mk 11 0 [] [n, leafX 1 1],
  .mk 19 0 [] [.mk 22 0 [] [x, leafX 5 0]],
  .mk 10 0 [] [n, .mk 9 0 [] [leafX 1 3, leafX 1 2]]]
theorem rules_sm (x n : Ex) (hnx : x.nodes ≤ 40) (hnn : n.nodes ≤ 40) (hsx : x.sm) (hsn : n.sm) : ∀ y ∈ rulesX x n, y.nodes ≤ 1000 ∧ y.sm := by
  intro y hy
  simp only [rulesX, List.mem_cons, List.not_mem_nil, or_false] at hy
  rcases hy with rfl | rfl | rfl | rfl | rfl | rfl | rfl | rfl | rfl | rfl | rfl | rfl | rfl | rfl | rfl | rfl
  · exact ⟨by simp only [Ex.nodes, nodesL]; omega, sm3 ⟨sm3 ⟨hsx, trivial⟩, trivial⟩⟩
  · exact ⟨by simp only [leafX, Ex.nodes, nodesL]; omega, sm3 ⟨leaf_sm _ _, ⟨hsx, trivial⟩⟩⟩
  · exact ⟨by simp only [leafX, Ex.nodes, nodesL]; omega, sm3 ⟨hsx, ⟨leaf_sm _ _, trivial⟩⟩⟩
  · exact ⟨by simp only [leafX, Ex.nodes, nodesL]; omega, sm3 ⟨leaf_sm _ _, ⟨hsx, trivial⟩⟩⟩
  · exact ⟨by simp only [leafX, Ex.nodes, nodesL]; omega, sm3 ⟨hsx, ⟨leaf_sm _ _, trivial⟩⟩⟩
  · exact ⟨by simp only [leafX, Ex.nodes, nodesL]; omega, sm3 ⟨leaf_sm _ _, ⟨hsx, trivial⟩⟩⟩
  · exact ⟨by simp only [leafX, Ex.nodes, nodesL]; omega, sm3 ⟨hsx, ⟨leaf_sm _ _, trivial⟩⟩⟩
  · exact ⟨by simp only [leafX, Ex.nodes, nodesL]; omega, sm3 ⟨hsx, ⟨leaf_sm _ _, trivial⟩⟩⟩
  · exact ⟨by simp only [leafX, Ex.nodes, nodesL]; omega, sm3 ⟨leaf_sm _ _, ⟨hsn, ⟨leaf_sm _ _, trivial⟩⟩⟩⟩
  · exact ⟨by simp only [leafX, Ex.nodes, nodesL]; omega, sm3 ⟨leaf_sm _ _, ⟨leaf_sm _ _, ⟨hsn, trivial⟩⟩⟩⟩
  · exact ⟨by simp only [leafX, Ex.nodes, nodesL]; omega, sm3 ⟨leaf_sm _ _, ⟨hsn, trivial⟩⟩⟩
  · exact ⟨by simp only [leafX, Ex.nodes, nodesL]; omega, sm3 ⟨hsn, ⟨leaf_sm _ _, trivial⟩⟩⟩
  · exact ⟨by simp only [leafX, Ex.nodes, nodesL]; omega, sm3 ⟨leaf_sm _ _, ⟨hsn, trivial⟩⟩⟩
  · exact ⟨by simp only [leafX, Ex.nodes, nodesL]; omega, sm3 ⟨hsn, ⟨leaf_sm _ _, trivial⟩⟩⟩
  · exact ⟨by simp only [leafX, Ex.nodes, nodesL]; omega, sm3 ⟨sm3 ⟨hsx, ⟨leaf_sm _ _, trivial⟩⟩, trivial⟩⟩
  · exact ⟨by simp only [leafX, Ex.nodes, nodesL]; omega, sm3 ⟨hsn, ⟨sm3 ⟨leaf_sm _ _, ⟨leaf_sm _ _, trivial⟩⟩, trivial⟩⟩⟩
theorem fru_ev (xs : List Int) (lT : T) (hl : IsSl lT xs.length (ints xs)) (w : Int) : DCall pE 4 [lT, .i .i64 w] [] = some (.b true, []) := by
  obtain ⟨x, cs, s, hx0, hx, hnx, hsx⟩ := bexpr_ev xs lT hl 1 (.inl rfl) 4
  obtain ⟨n, ds, t, hm0, hm, hnn, hsn⟩ := bexpr_ev xs lT hl 1 (.inl rfl) 2
  obtain ⟨p1, q1, rfl, u1, w1⟩ := hx.cells
  obtain ⟨p2, q2, rfl, u2, w2⟩ := hm.cells
  have hsmall := rules_sm x n hnx hnn hsx hsn
  have hl0 := u1.froz1
  have hl1 := u2.froz1
  rw [p_fun fn4 (by simp [c4])]
  simp (maxDischargeDepth := 6) only [qF, qGO0, qGO1, qGO2, qGO3, qGO4, qGO5, buildV, bslV, bslW, splice, fills, repl, Nat.reduceAdd, reduceCtorEq, Nat.reduceMul, Nat.reduceLT, Nat.reduceLeDiff, Nat.reduceEqDiff, qDR0, getL, c4, c4_R1, c4_R2, c4_R3, c4_R4, hx0, hm0, dc15, hl.froz, lnode_do, number_do, dd22, dd21, hl0, hl1]
  refine fr_tail (rulesX x n) ?cells rfl ?hex hsmall w _ _ ?h11 ?h1
  case h11 => simp (maxDischargeDepth := 6) only [qGO2]; rfl
  case h1 => simp (maxDischargeDepth := 6) only [qGO2, qGO4, reduceCtorEq, Nat.reduceEqDiff]
  case hex => exact IsExs.cons (node_is 19 [.mk 19 0 [] [x]] _ _ (Or.inr ⟨true, rfl⟩) (IsExs.cons (node_is 19 [x] _ _ (Or.inr ⟨true, rfl⟩) (IsExs.cons (hx) (IsExs.nil))) (IsExs.nil))) (IsExs.cons (node_is 20 [leafX 4 0, x] _ _ (Or.inr ⟨true, rfl⟩) (IsExs.cons (leaf_is _ _ _ nil_is) (IsExs.cons (hx) (IsExs.nil)))) (IsExs.cons (node_is 20 [x, leafX 5 0] _ _ (Or.inr ⟨true, rfl⟩) (IsExs.cons (hx) (IsExs.cons (leaf_is _ _ _ nil_is) (IsExs.nil)))) (IsExs.cons (node_is 21 [leafX 5 0, x] _ _ (Or.inr ⟨true, rfl⟩) (IsExs.cons (leaf_is _ _ _ nil_is) (IsExs.cons (hx) (IsExs.nil)))) (IsExs.cons (node_is 21 [x, leafX 4 0] _ _ (Or.inr ⟨true, rfl⟩) (IsExs.cons (hx) (IsExs.cons (leaf_is _ _ _ nil_is) (IsExs.nil)))) (IsExs.cons (node_is 22 [leafX 4 0, x] _ _ (Or.inr ⟨true, rfl⟩) (IsExs.cons (leaf_is _ _ _ nil_is) (IsExs.cons (hx) (IsExs.nil)))) (IsExs.cons (node_is 22 [x, leafX 5 0] _ _ (Or.inr ⟨true, rfl⟩) (IsExs.cons (hx) (IsExs.cons (leaf_is _ _ _ nil_is) (IsExs.nil)))) (IsExs.cons (node_is 22 [x, leafX 4 0] _ _ (Or.inr ⟨true, rfl⟩) (IsExs.cons (hx) (IsExs.cons (leaf_is _ _ _ nil_is) (IsExs.nil)))) (IsExs.cons (node_is 14 [leafX 4 0, n, leafX 2 0] _ _ (Or.inr ⟨true, rfl⟩) (IsExs.cons (leaf_is _ _ _ nil_is) (IsExs.cons (hm) (IsExs.cons (leaf_is _ _ _ nil_is) (IsExs.nil))))) (IsExs.cons (node_is 14 [leafX 5 0, leafX 2 0, n] _ _ (Or.inr ⟨true, rfl⟩) (IsExs.cons (leaf_is _ _ _ nil_is) (IsExs.cons (leaf_is _ _ _ nil_is) (IsExs.cons (hm) (IsExs.nil))))) (IsExs.cons (node_is 8 [leafX 2 0, n] _ _ (Or.inr ⟨true, rfl⟩) (IsExs.cons (leaf_is _ _ _ nil_is) (IsExs.cons (hm) (IsExs.nil)))) (IsExs.cons (node_is 9 [n, leafX 2 0] _ _ (Or.inr ⟨true, rfl⟩) (IsExs.cons (hm) (IsExs.cons (leaf_is _ _ _ nil_is) (IsExs.nil)))) (IsExs.cons (node_is 10 [leafX 1 1, n] _ _ (Or.inr ⟨true, rfl⟩) (IsExs.cons (leaf_is _ _ _ nil_is) (IsExs.cons (hm) (IsExs.nil)))) (IsExs.cons (node_is 11 [n, leafX 1 1] _ _ (Or.inr ⟨true, rfl⟩) (IsExs.cons (hm) (IsExs.cons (leaf_is _ _ _ nil_is) (IsExs.nil)))) (IsExs.cons (node_is 19 [.mk 22 0 [] [x, leafX 5 0]] _ _ (Or.inr ⟨true, rfl⟩) (IsExs.cons (node_is 22 [x, leafX 5 0] _ _ (Or.inr ⟨true, rfl⟩) (IsExs.cons (hx) (IsExs.cons (leaf_is _ _ _ nil_is) (IsExs.nil)))) (IsExs.nil))) (IsExs.cons (node_is 10 [n, .mk 9 0 [] [leafX 1 3, leafX 1 2]] _ _ (Or.inr ⟨true, rfl⟩) (IsExs.cons (hm) (IsExs.cons (node_is 9 [leafX 1 3, leafX 1 2] _ _ (Or.inr ⟨true, rfl⟩) (IsExs.cons (leaf_is _ _ _ nil_is) (IsExs.cons (leaf_is _ _ _ nil_is) (IsExs.nil)))) (IsExs.nil)))) (IsExs.nil))))))))))))))))
theorem fru_law (t : T) (xs : List Int) (h : IsSl t xs.length (ints xs)) (a : Int) : ∃ s, DCall pE 4 [t, .i .i64 a] [] = some (.b true, s) := ⟨_, fru_ev xs t h a⟩
end Go.Proofs.YtfenhjpkomldcaaGreat
