/- The reference's reduce. The values of constants, as the reference finds them. Equal expressions are found equal. The program's constants; Simplify. Conditions: the theorems' own. -/
import Derived.Test.YtfenhjpkomldcaaGreatM11
import Derived.KernelRfl
set_option maxRecDepth 100000
set_option linter.unusedSimpArgs false
set_option linter.unusedVariables false
set_option linter.unusedSectionVars false
set_option maxHeartbeats 16000000
namespace Go.Proofs.YtfenhjpkomldcaaGreat
open Go Go.Ev
theorem rzero_do {d : Nat} {fr : Fr} {lh : Tri Ent} {sh : List Ent} (z : Ex) (b : T) (hb : froz1 b = true) : doCall pE (DCall pE) d ⟨fr, lh, sh⟩ 65 [.agg [.i .i64 z.op, .i .i64 z.num, .s z.name, b]] = some (.b (zeroX z), ⟨fr, lh, sh⟩) := by
  rw [dc65 (by simp [froz_agg, froz1_i, froz1_s, hb]), zero_all _ z b (.inr rfl)]; rfl
theorem rone_do {d : Nat} {fr : Fr} {lh : Tri Ent} {sh : List Ent} (z : Ex) (b : T) (hb : froz1 b = true) : doCall pE (DCall pE) d ⟨fr, lh, sh⟩ 163 [.agg [.i .i64 z.op, .i .i64 z.num, .s z.name, b]] = some (.b (oneX z), ⟨fr, lh, sh⟩) := by
  rw [dc163 (by simp [froz_agg, froz1_i, froz1_s, hb]), one_all _ z b (.inr rfl)]; rfl
/-- Not of one. -/
theorem rred1_ev (x : Ex) (hw : x.wf = true) (a : T) (cc : List T) (ha : IsSl a 1 cc) (hx : IsExs [x] cc) :
    ∃ cs, DCall pE 109 [.agg [.i .i64 19, .i .i64 0, .s [], a]] [] = some (.agg cs, []) ∧ IsEx (if x.op = 19 then x.args.headD (leafX 0 0) else .mk 19 0 [] [x]) cs := by
  obtain ⟨b0, r0, hia0, ⟨cb, hb1, hb2⟩, hf0, he0⟩ := argJ (xs := [x]) ha hx 0 (by simp) 0 rfl
  simp only [List.getElem_cons_zero] at hia0 he0 hb1 hb2
  have hn := node_is 19 [x] a cc ha hx
  rw [p_fun fn109 (by simp [c109])]
  by_cases h19 : x.op = 19
  · rw [if_pos h19]
    have hlen : 0 < x.args.length := by
      obtain ⟨_, _, yar, _⟩ := wf_node hw
      rw [h19] at yar; simp [arOk] at yar; omega
    obtain ⟨b1, r1, hia1, _, hf1, he1⟩ := argJ hb1 hb2 0 hlen 0 rfl
    have hh : x.args.headD (leafX 0 0) = x.args[0] := by
      generalize x.args = l at hlen
      cases l with
      | nil => simp at hlen
      | cons y ys => rfl
    rw [hh]
    simp (maxDischargeDepth := 6) only [qF, qGO0, qGO1, qGO2, qGO3, qGO4, qGO5, buildV, splice, fills, Nat.reduceAdd, Nat.reduceLT, Nat.reduceLeDiff, Nat.reduceEqDiff, Int.reduceEq, c109, hia0, h19, hia1, hf1]
    exact ⟨_, rfl, he1⟩
  · rw [if_neg h19]
    simp (maxDischargeDepth := 6) only [qF, qGO0, qGO1, qGO2, qGO3, qGO4, qGO5, buildV, splice, fills, Nat.reduceAdd, Nat.reduceLT, Nat.reduceLeDiff, Nat.reduceEqDiff, Int.reduceEq, c109, ha.froz1, hia0, h19]
    exact ⟨_, rfl, hn⟩
theorem rred_ev {op : Int} {ys : List Ex} (hwf : wfL ys = true) (h7 : 7 ≤ op) (h22 : op ≤ 22) (har : arOk op ys.length = true) (a : T) (cc : List T) (ha : IsSl a ys.length cc) (hx : IsExs ys cc) :
    ∃ cs, DCall pE 109 [.agg [.i .i64 op, .i .i64 0, .s [], a]] [] = some (.agg cs, []) ∧ IsEx (redX op ys) cs := by
  have hnd := node_is op ys a cc ha hx
  have same : ∀ op', op = op' → (op' = 7 ∨ op' = 12 ∨ op' = 13 ∨ op' = 15 ∨ op' = 16 ∨ op' = 17 ∨ op' = 18) → redX op ys = .mk op 0 [] ys := by
    rintro op' rfl ho
    match ys with
    | [] => rfl
    | [x] => show (if op = 19 ∧ x.op = 19 then _ else _) = _; rw [if_neg (by omega)]
    | [x, y] =>
      rw [redX_two]; unfold red2
      rw [if_neg (by omega), if_neg (by omega), if_neg (by omega), if_neg (by omega), if_neg (by omega), if_neg (by omega), if_neg (by omega)]
    | [x, y, z] => show (if op = 14 then _ else _) = _; rw [if_neg (by omega)]
    | _ :: _ :: _ :: _ :: _ => rfl
  have hsame : (op = 7 ∨ op = 12 ∨ op = 13 ∨ op = 15 ∨ op = 16 ∨ op = 17 ∨ op = 18) → ∃ cs, DCall pE 109 [.agg [.i .i64 op, .i .i64 0, .s [], a]] [] = some (.agg cs, []) ∧ IsEx (redX op ys) cs := by
    intro ho
    rw [same op rfl ho, p_fun fn109 (by simp [c109])]
    rcases ho with rfl | rfl | rfl | rfl | rfl | rfl | rfl <;>
      (simp (maxDischargeDepth := 6) only [qF, qGO0, qGO1, qGO2, qGO3, qGO4, qGO5, buildV, splice, fills, Nat.reduceAdd, Nat.reduceLT, Nat.reduceLeDiff, Nat.reduceEqDiff, Int.reduceEq, c109, ha.froz1]; exact ⟨_, rfl, hnd⟩)
  have h12 : op ≠ 12 → op ≠ 13 → op ≠ 7 → op ≠ 19 → op ≠ 14 → op ≠ 15 → ∃ x y, ys = [x, y] := fun e1 e2 e3 e4 e5 e6 => exs2 (ys := ys) (by
    unfold arOk at har
    rw [if_neg (by omega), if_neg (by omega), if_neg (by omega), if_neg (by omega)] at har
    simpa using har)
  by_cases hs : op = 7 ∨ op = 12 ∨ op = 13 ∨ op = 15 ∨ op = 16 ∨ op = 17 ∨ op = 18
  · exact hsame hs
  by_cases h19 : op = 19
  · subst h19
    obtain ⟨x, rfl⟩ := exs1 (ys := ys) (by simpa [arOk] using har)
    obtain ⟨cs, h1, h2⟩ := rred1_ev x (by rw [wfL, Bool.and_eq_true] at hwf; exact hwf.1) a cc ha hx
    refine ⟨cs, h1, ?_⟩
    show IsEx (if (19 : Int) = 19 ∧ x.op = 19 then _ else _) cs
    simpa using h2
  by_cases h14 : op = 14
  · subst h14
    obtain ⟨x, y, z, rfl⟩ := exs3 (ys := ys) (by simpa [arOk] using har)
    obtain ⟨b0, r0, hia0, _, hf0, he0⟩ := argJ ha hx 0 (by simp) 0 rfl
    obtain ⟨b1, r1, hia1, _, hf1, he1⟩ := argJ ha hx 1 (by simp) 1 rfl
    obtain ⟨b2, r2, hia2, _, hf2, he2⟩ := argJ ha hx 2 (by simp) 2 rfl
    simp only [List.getElem_cons_zero, List.getElem_cons_succ] at hia0 hia1 hia2 he0 he1 he2
    rw [p_fun fn109 (by simp [c109])]
    show ∃ cs, _ ∧ IsEx (if x.op = 4 then y else if x.op = 5 then z else .mk 14 0 [] [x, y, z]) cs
    by_cases a4 : x.op = 4
    · simp (maxDischargeDepth := 6) only [qF, qGO0, qGO1, qGO2, qGO3, qGO4, qGO5, buildV, splice, fills, Nat.reduceAdd, Nat.reduceLT, Nat.reduceLeDiff, Nat.reduceEqDiff, Int.reduceEq, c109, hia0, hia1, hf1, a4]
      exact ⟨_, rfl, he1⟩
    by_cases a5 : x.op = 5
    · simp (maxDischargeDepth := 6) only [qF, qGO0, qGO1, qGO2, qGO3, qGO4, qGO5, buildV, splice, fills, Nat.reduceAdd, Nat.reduceLT, Nat.reduceLeDiff, Nat.reduceEqDiff, Int.reduceEq, c109, hia0, hia1, hia2, hf2, a5]
      exact ⟨_, rfl, he2⟩
    · simp (maxDischargeDepth := 6) only [qF, qGO0, qGO1, qGO2, qGO3, qGO4, qGO5, buildV, bslV, bslW, splice, fills, repl, Nat.reduceAdd, Nat.reduceLT, Nat.reduceLeDiff, Nat.reduceEqDiff, Int.reduceEq, c109, ha.froz1, hia0, hia1, hia2, hf0, a4, a5]
      exact ⟨_, rfl, hnd⟩
  obtain ⟨x, y, rfl⟩ := h12 (by omega) (by omega) (by omega) h19 h14 (by omega)
  obtain ⟨b0, r0, hia0, _, hf0, he0⟩ := argJ (xs := [x, y]) ha hx 0 (by simp) 0 rfl
  obtain ⟨b1, r1, hia1, _, hf1, he1⟩ := argJ (xs := [x, y]) ha hx 1 (by simp) 1 rfl
  simp only [List.getElem_cons_zero, List.getElem_cons_succ] at hia0 hia1 he0 he1
  have hz0 := fun d fr lh sh => rzero_do (d := d) (fr := fr) (lh := lh) (sh := sh) x b0 hf0
  have hz1 := fun d fr lh sh => rzero_do (d := d) (fr := fr) (lh := lh) (sh := sh) y b1 hf1
  have hu0 := fun d fr lh sh => rone_do (d := d) (fr := fr) (lh := lh) (sh := sh) x b0 hf0
  have hu1 := fun d fr lh sh => rone_do (d := d) (fr := fr) (lh := lh) (sh := sh) y b1 hf1
  have hwx : x.wf = true := by rw [wfL, Bool.and_eq_true] at hwf; exact hwf.1
  obtain ⟨c1, hred, hc1⟩ := rred1_ev x hwx (.sl [.i .i64 x.op, .i .i64 x.num, .s x.name, b0] 1 true) _ (Or.inr ⟨true, rfl⟩) (IsExs.one he0)
  rw [p_fun fn109 (by simp [c109]), redX_two]
  unfold red2
  rcases (show op = 20 ∨ op = 21 ∨ op = 22 ∨ op = 8 ∨ op = 9 ∨ op = 10 ∨ op = 11 by omega) with rfl | rfl | rfl | rfl | rfl | rfl | rfl
  · by_cases a5 : x.op = 5
    · simp (maxDischargeDepth := 6) only [qF, qGO0, qGO1, qGO2, qGO3, qGO4, qGO5, buildV, splice, fills, Nat.reduceAdd, Nat.reduceLT, Nat.reduceLeDiff, Nat.reduceEqDiff, Int.reduceEq, c109, hia0, hia1, a5, true_or]
      exact ⟨_, rfl, leaf_is _ _ _ nil_is⟩
    by_cases b5 : y.op = 5
    · simp (maxDischargeDepth := 6) only [qF, qGO0, qGO1, qGO2, qGO3, qGO4, qGO5, buildV, bslV, bslW, splice, fills, repl, Nat.reduceAdd, Nat.reduceLT, Nat.reduceLeDiff, Nat.reduceEqDiff, Int.reduceEq, c109, hia0, hia1, hf0, a5, b5, or_true]
      exact ⟨_, rfl, leaf_is _ _ _ nil_is⟩
    by_cases a4 : x.op = 4
    · simp (maxDischargeDepth := 6) only [qF, qGO0, qGO1, qGO2, qGO3, qGO4, qGO5, buildV, splice, fills, Nat.reduceAdd, Nat.reduceLT, Nat.reduceLeDiff, Nat.reduceEqDiff, Int.reduceEq, c109, hia0, hia1, hf1, b5, a4, or_self]
      exact ⟨_, rfl, he1⟩
    by_cases b4 : y.op = 4
    · rw [b4] at he1
      simp (maxDischargeDepth := 6) only [qF, qGO0, qGO1, qGO2, qGO3, qGO4, qGO5, buildV, splice, fills, Nat.reduceAdd, Nat.reduceLT, Nat.reduceLeDiff, Nat.reduceEqDiff, Int.reduceEq, c109, hia0, hia1, hf0, a5, a4, b4, or_self]
      exact ⟨_, rfl, he0⟩
    · simp (maxDischargeDepth := 6) only [qF, qGO0, qGO1, qGO2, qGO3, qGO4, qGO5, buildV, bslV, bslW, splice, fills, repl, Nat.reduceAdd, Nat.reduceLT, Nat.reduceLeDiff, Nat.reduceEqDiff, Int.reduceEq, c109, ha.froz1, hia0, hia1, hf0, a5, b5, a4, b4, or_self]
      exact ⟨_, rfl, hnd⟩
  · by_cases a4 : x.op = 4
    · simp (maxDischargeDepth := 6) only [qF, qGO0, qGO1, qGO2, qGO3, qGO4, qGO5, buildV, splice, fills, Nat.reduceAdd, Nat.reduceLT, Nat.reduceLeDiff, Nat.reduceEqDiff, Int.reduceEq, c109, hia0, hia1, a4, true_or]
      exact ⟨_, rfl, leaf_is _ _ _ nil_is⟩
    by_cases b4 : y.op = 4
    · simp (maxDischargeDepth := 6) only [qF, qGO0, qGO1, qGO2, qGO3, qGO4, qGO5, buildV, splice, fills, Nat.reduceAdd, Nat.reduceLT, Nat.reduceLeDiff, Nat.reduceEqDiff, Int.reduceEq, c109, hia0, hia1, a4, b4, or_true]
      exact ⟨_, rfl, leaf_is _ _ _ nil_is⟩
    by_cases a5 : x.op = 5
    · simp (maxDischargeDepth := 6) only [qF, qGO0, qGO1, qGO2, qGO3, qGO4, qGO5, buildV, splice, fills, Nat.reduceAdd, Nat.reduceLT, Nat.reduceLeDiff, Nat.reduceEqDiff, Int.reduceEq, c109, hia0, hia1, hf1, a5, b4, or_self]
      exact ⟨_, rfl, he1⟩
    by_cases b5 : y.op = 5
    · rw [b5] at he1
      simp (maxDischargeDepth := 6) only [qF, qGO0, qGO1, qGO2, qGO3, qGO4, qGO5, buildV, bslV, bslW, splice, fills, repl, Nat.reduceAdd, Nat.reduceLT, Nat.reduceLeDiff, Nat.reduceEqDiff, Int.reduceEq, c109, hia0, hia1, hf0, a5, b5, a4, or_self]
      exact ⟨_, rfl, he0⟩
    · simp (maxDischargeDepth := 6) only [qF, qGO0, qGO1, qGO2, qGO3, qGO4, qGO5, buildV, bslV, bslW, splice, fills, repl, Nat.reduceAdd, Nat.reduceLT, Nat.reduceLeDiff, Nat.reduceEqDiff, Int.reduceEq, c109, ha.froz1, hia0, hia1, hf0, a5, b5, a4, b4, or_self]
      exact ⟨_, rfl, hnd⟩
  · by_cases a5 : x.op = 5
    · simp (maxDischargeDepth := 6) only [qF, qGO0, qGO1, qGO2, qGO3, qGO4, qGO5, buildV, splice, fills, Nat.reduceAdd, Nat.reduceLT, Nat.reduceLeDiff, Nat.reduceEqDiff, Int.reduceEq, c109, hia0, hia1, a5, true_or]
      exact ⟨_, rfl, leaf_is _ _ _ nil_is⟩
    by_cases b4 : y.op = 4
    · simp (maxDischargeDepth := 6) only [qF, qGO0, qGO1, qGO2, qGO3, qGO4, qGO5, buildV, splice, fills, Nat.reduceAdd, Nat.reduceLT, Nat.reduceLeDiff, Nat.reduceEqDiff, Int.reduceEq, c109, hia0, hia1, a5, b4, or_true]
      exact ⟨_, rfl, leaf_is _ _ _ nil_is⟩
    by_cases a4 : x.op = 4
    · simp (maxDischargeDepth := 6) only [qF, qGO0, qGO1, qGO2, qGO3, qGO4, qGO5, buildV, splice, fills, Nat.reduceAdd, Nat.reduceLT, Nat.reduceLeDiff, Nat.reduceEqDiff, Int.reduceEq, c109, hia0, hia1, hf1, b4, a4, or_self]
      exact ⟨_, rfl, he1⟩
    by_cases b5 : y.op = 5
    · rw [b5] at he1 hia1
      obtain ⟨la, lc, rfl, hl1, hl2⟩ := hc1.cells
      simp (maxDischargeDepth := 6) only [qF, qGO0, qGO1, qGO2, qGO3, qGO4, qGO5, buildV, bslV, bslW, splice, fills, repl, Nat.reduceAdd, Nat.reduceLT, Nat.reduceLeDiff, Nat.reduceEqDiff, Int.reduceEq, c109, hia0, hia1, hf0, a5, b5, a4, or_self, hred, dc109, hl1.froz1]
      refine ⟨_, rfl, ?_⟩
      exact hc1
    · simp (maxDischargeDepth := 6) only [qF, qGO0, qGO1, qGO2, qGO3, qGO4, qGO5, buildV, bslV, bslW, splice, fills, repl, Nat.reduceAdd, Nat.reduceLT, Nat.reduceLeDiff, Nat.reduceEqDiff, Int.reduceEq, c109, ha.froz1, hia0, hia1, hf0, a5, b4, a4, b5, or_self]
      exact ⟨_, rfl, hnd⟩
  · cases e1 : zeroX y with
    | true =>
      rw [e1] at hz1
      simp (maxDischargeDepth := 6) only [qF, qGO0, qGO1, qGO2, qGO3, qGO4, qGO5, buildV, splice, fills, Nat.reduceAdd, Nat.reduceLT, Nat.reduceLeDiff, Nat.reduceEqDiff, Int.reduceEq, c109, hia0, hia1, hf0, hz1]
      exact ⟨_, rfl, he0⟩
    | false =>
      rw [e1] at hz1
      cases e0 : zeroX x with
      | true =>
        rw [e0] at hz0
        simp (maxDischargeDepth := 6) only [qF, qGO0, qGO1, qGO2, qGO3, qGO4, qGO5, buildV, splice, fills, Nat.reduceAdd, Nat.reduceLT, Nat.reduceLeDiff, Nat.reduceEqDiff, Int.reduceEq, c109, hia0, hia1, hf1, hz1, hz0]
        exact ⟨_, rfl, he1⟩
      | false =>
        rw [e0] at hz0
        simp (maxDischargeDepth := 6) only [qF, qGO0, qGO1, qGO2, qGO3, qGO4, qGO5, buildV, splice, fills, Nat.reduceAdd, Nat.reduceLT, Nat.reduceLeDiff, Nat.reduceEqDiff, Int.reduceEq, c109, ha.froz1, hia0, hia1, hz1, hz0]
        exact ⟨_, rfl, hnd⟩
  · cases e1 : zeroX y with
    | true =>
      rw [e1] at hz1
      simp (maxDischargeDepth := 6) only [qF, qGO0, qGO1, qGO2, qGO3, qGO4, qGO5, buildV, splice, fills, Nat.reduceAdd, Nat.reduceLT, Nat.reduceLeDiff, Nat.reduceEqDiff, Int.reduceEq, c109, hia0, hia1, hf0, hz1]
      exact ⟨_, rfl, he0⟩
    | false =>
      rw [e1] at hz1
      simp (maxDischargeDepth := 6) only [qF, qGO0, qGO1, qGO2, qGO3, qGO4, qGO5, buildV, splice, fills, Nat.reduceAdd, Nat.reduceLT, Nat.reduceLeDiff, Nat.reduceEqDiff, Int.reduceEq, c109, ha.froz1, hia0, hia1, hz1]
      exact ⟨_, rfl, hnd⟩
  · cases e1 : oneX y with
    | true =>
      rw [e1] at hu1
      simp (maxDischargeDepth := 6) only [qF, qGO0, qGO1, qGO2, qGO3, qGO4, qGO5, buildV, splice, fills, Nat.reduceAdd, Nat.reduceLT, Nat.reduceLeDiff, Nat.reduceEqDiff, Int.reduceEq, c109, hia0, hia1, hf0, hu1]
      exact ⟨_, rfl, he0⟩
    | false =>
      rw [e1] at hu1
      cases e0 : oneX x with
      | true =>
        rw [e0] at hu0
        simp (maxDischargeDepth := 6) only [qF, qGO0, qGO1, qGO2, qGO3, qGO4, qGO5, buildV, splice, fills, Nat.reduceAdd, Nat.reduceLT, Nat.reduceLeDiff, Nat.reduceEqDiff, Int.reduceEq, c109, hia0, hia1, hf1, hu1, hu0]
        exact ⟨_, rfl, he1⟩
      | false =>
        rw [e0] at hu0
        simp (maxDischargeDepth := 6) only [qF, qGO0, qGO1, qGO2, qGO3, qGO4, qGO5, buildV, splice, fills, Nat.reduceAdd, Nat.reduceLT, Nat.reduceLeDiff, Nat.reduceEqDiff, Int.reduceEq, c109, ha.froz1, hia0, hia1, hu1, hu0]
        exact ⟨_, rfl, hnd⟩
  · cases e1 : oneX y with
    | true =>
      rw [e1] at hu1
      simp (maxDischargeDepth := 6) only [qF, qGO0, qGO1, qGO2, qGO3, qGO4, qGO5, buildV, splice, fills, Nat.reduceAdd, Nat.reduceLT, Nat.reduceLeDiff, Nat.reduceEqDiff, Int.reduceEq, c109, hia0, hia1, hf0, hu1]
      exact ⟨_, rfl, he0⟩
    | false =>
      rw [e1] at hu1
      simp (maxDischargeDepth := 6) only [qF, qGO0, qGO1, qGO2, qGO3, qGO4, qGO5, buildV, splice, fills, Nat.reduceAdd, Nat.reduceLT, Nat.reduceLeDiff, Nat.reduceEqDiff, Int.reduceEq, c109, ha.froz1, hia0, hia1, hu1]
      exact ⟨_, rfl, hnd⟩
end Go.Proofs.YtfenhjpkomldcaaGreat
namespace Go.Proofs.YtfenhjpkomldcaaGreat
open Go Go.Ev
theorem rapp0_ev (op num : Int) (h : op = 1 ∨ op = 2 ∨ op = 3 ∨ op = 4 ∨ op = 5) (a : T) : DCall pE 108 [.i .i64 op, .i .i64 num, a] [] = some (.i .i64 (if op = 1 ∨ op = 2 ∨ op = 3 then num else if op = 4 then 1 else 0), []) := by
  rw [p_fun fn108 (by simp [c108])]
  rcases h with rfl | rfl | rfl | rfl | rfl <;> simp (maxDischargeDepth := 6) only [qF, qGO0, qGO1, qGO2, qGO3, qGO4, qGO5, backD, calmOp, Nat.reduceAdd, reduceCtorEq, Nat.reduceLT, Nat.reduceEqDiff, Int.reduceEq, c108, true_or, or_true, or_self]
theorem val0L_in {cl : List Nat → Int × Int} {vx : List Nat → Int} (hc : vxOk cl vx) {scope : Int} (hsc : ∀ s, attrK scope s = 0) : ∀ {xs : List Ex} {ts : List Int}, wfL xs = true → tyL cl scope xs = .ok ts → inKs ts (val0L vx xs)
  | [], ts, _, h => by rw [tyL] at h; cases h; trivial
  | x :: xs, ts, hw, h => by
    obtain ⟨t, us, rfl, e1, e2⟩ := tyL_cons h
    rw [wfL, Bool.and_eq_true] at hw
    exact ⟨(fold0 hc scope hsc x t hw.1 e1).2, val0L_in hc hsc hw.2 e2⟩
theorem tabC_take (l : Cs) (k : Nat) : ∀ n, n ≤ k → n ≤ l.length → tabC (l.take k) n = tabC l n
  | 0, _, _ => rfl
  | n + 1, h, hl => by
    rw [tabC_succ l (by omega), tabC_succ (l.take k) (by rw [List.length_take]; omega), tabC_take l k n (by omega) (by omega), List.take_take, Nat.min_eq_left (by omega), List.getElem_take]
theorem typeS_take (l : Cs) {k : Nat} (hk : k ≤ l.length) (x : Ex) : typeS (l.take k) 0 x = entC (l.take k) (tabC l k) x := by
  unfold typeS entC
  rw [List.length_take, Nat.min_eq_left hk, tabC_take l k k (Nat.le_refl _) hk]
section
variable (l : Cs) (n : Nat) (hnl : n ≤ l.length) (lT vT : T) (cl : List T) (hl : IsSl lT n cl) (hcl : IsCl (l.take n) cl) (hlen : l.length ≤ Lim) (hv : IsSl vT n (ints (vlC l n)))
def rvalP (y : Ex) : Prop := ∀ k cs, IsEx y cs → y.nodes ≤ 100000 → y.wf = true → y.ty (CL l n) 0 = (k, 0) → DCall pE 110 [vT, lT, .i .i64 0, .nilsl, .agg cs] [] = some (.i .i64 (y.val0 (VX l n)), [])
include hl hv
theorem rval1 (xs : List Ex) (ih : ∀ y ∈ xs, rvalP l n lT vT y) (a : T) (cc : List T) (ha : IsSl a xs.length cc) (hx : IsExs xs cc) (hn : nodesL xs ≤ 100000) (hwf : wfL xs = true) (ts : List Int) (hty : tyL (CL l n) 0 xs = .ok ts) (op num : Int) (s : List Nat) (g : Nat) (fr : Fr) (lh : Tri Ent) (sh : List Ent)
    (h0 : getF fr 0 = vT) (h1 : getF fr 1 = lT) (h2 : getF fr 2 = .i .i64 0) (h3 : getF fr 3 = .nilsl) (h9 : getF fr 9 = .ptr .L 9 g 0) (h13 : getF fr 13 = .nilsl) (h14 : getF fr 14 = .i .i64 0) (o9 : getO lh 9 = ⟨g, .cells [.i .i64 op, .i .i64 num, .s s, a] 0 true⟩) :
    DC pE 70 (.loop c110_L1) ⟨fr, lh, sh⟩ = some (.ext 0, ⟨frL pE 70 c110_L1 fr lh sh, lhL pE 70 c110_L1 fr lh sh, shL pE 70 c110_L1 fr lh sh⟩) ∧
    (OutS (lhL pE 70 c110_L1 fr lh sh) (getF (frL pE 70 c110_L1 fr lh sh) 13) 63 1 xs.length (ints (val0L (VX l n) xs)) ∧ getO (lhL pE 70 c110_L1 fr lh sh) 9 = getO lh 9 ∧ shL pE 70 c110_L1 fr lh sh = sh) := by
  refine loop_rule (P := fun fr' lh' sh' => OutS lh' (getF fr' 13) 63 1 xs.length (ints (val0L (VX l n) xs)) ∧ getO lh' 9 = getO lh 9 ∧ sh' = sh)
    (loop_inv (fun k st => ∃ (fr : Fr) (lh1 : Tri Ent), st = ⟨fr, lh1, sh⟩ ∧ getF fr 0 = vT ∧ getF fr 1 = lT ∧ getF fr 2 = .i .i64 0 ∧ getF fr 3 = .nilsl ∧ getF fr 9 = .ptr .L 9 g 0 ∧ getF fr 14 = .i .i64 (k : Int) ∧ getO lh1 9 = getO lh 9 ∧
      OutS lh1 (getF fr 13) 63 1 k (ints (val0L (VX l n) (xs.take k)))) _ xs.length ?_ ?_ 0 _ (Nat.zero_le _) ⟨fr, lh, rfl, h0, h1, h2, h3, h9, h14, rfl, by rw [h13]; exact OutS.nil⟩)
  · rintro k _ hkx ⟨fr, lh1, rfl, h0, h1, h2, h3, h9, h14, o9', hO⟩
    left
    rw [o9] at o9'
    have hk' : (k : Int) < xs.length := by omega
    have hlen' := nodesL_len xs
    have hyk := nodesL_mem (List.getElem_mem hkx)
    have hw := wr_succL (k := k) (lim_of (by omega))
    obtain ⟨b, cb, rr, hia, hb1, hb2, hb⟩ := arg_at ha hx k hkx
    obtain ⟨t, ht⟩ := tyL_get hty k hkx
    have hcall := ih xs[k] (List.getElem_mem hkx) t _ hb (by omega) (wfL_mem.1 hwf _ (List.getElem_mem hkx)) ht
    have hap := OutS_one hO (lim_of (by omega)) (sh := sh) (T.i .i64 (xs[k].val0 (VX l n))) true
    have hnx : val0L (VX l n) (xs.take (k + 1)) = val0L (VX l n) (xs.take k) ++ [xs[k].val0 (VX l n)] := by
      rw [List.take_succ_eq_append_getElem hkx, val0L_map, List.map_append, ← val0L_map]; rfl
    generalize xs[k].val0 (VX l n) = q at hcall hap hnx
    generalize h13 : getF fr 13 = v13 at hO hap
    simp (maxDischargeDepth := 6) only [qF, qGO0, qGO1, qGO2, qGO3, qGO4, qGO5, bslV, bslW, splice, fills, repl, reduceCtorEq, Nat.reduceLT, Nat.reduceLeDiff, Nat.reduceEqDiff, c110_L1, h0, h1, h2, h3, h9, h13, h14, o9', ha.lenI, hk', hia, hw, hcall, dc110, hb1.froz1, hv.froz, hl.froz, hO.notS, hap.1]
    refine ⟨_, rfl, _, _, rfl, ?_, ?_, ?_, ?_, ?_, ?_, ?_, ?_⟩
    all_goals first | (simp (maxDischargeDepth := 6) only [qGO2, qGO4, reduceCtorEq, Nat.reduceEqDiff, h0, h1, h2, h3, h9]; done) | skip
    · rw [hap.2.2 9 (by decide), o9', o9]
    · simp (maxDischargeDepth := 6) only [qGO2, qGO4, Nat.reduceEqDiff]
      rw [hnx, ints_app]
      exact hap.2.1
  · rintro _ ⟨fr, lh1, rfl, h0, h1, h2, h3, h9, h14, o9', hO⟩
    rw [o9] at o9'
    rw [List.take_length] at hO
    simp (maxDischargeDepth := 6) only [qGO0, qGO1, qGO2, qGO3, qGO4, qGO5, Nat.reduceLT, Nat.reduceEqDiff, c110_L1, h9, h14, o9', ha.lenI, Int.lt_irrefl]
    refine ⟨_, _, (by simp : Out.ext 0 ≠ .nrm), rfl, rfl, ?_, by rw [o9', o9], rfl⟩
    simp (maxDischargeDepth := 6) only [qGO2, qGO4, Nat.reduceEqDiff]
    exact hO
include hnl hcl hlen
theorem rval_ev (x : Ex) : rvalP l n lT vT x := by
  induction x using Ex.ind with
  | h x ih =>
    intro k cs hx hn hwf ht
    obtain ⟨a, cc, rfl, ha, hxs⟩ := hx.cells
    obtain ⟨h1, h2, har, hnum, hname, hwl⟩ := wf_node hwf
    have hnd := x.nodes_eq
    rw [p_fun fn110 (by simp [c110]), Ex.val0_eq]
    by_cases h6 : x.op = 6
    · rw [if_pos h6]
      have hat := rattr_ev 0 x.name
      unfold attrE at hat
      rw [Ex.ty_eq, if_pos h6, if_neg (by simp [attrK_0])] at ht
      rw [if_pos (attrK_0 _), attrK_0] at hat
      obtain ⟨i, hil, hin, hidx, _⟩ := CL_some hnl ht
      have hidx' : idxC (l.take n) x.name = some i := by rw [idxC_take, hidx]; simp [hin]
      have hci := cidx_ev (l.take n) x.name lT cl (by rw [List.length_take, Nat.min_eq_left hnl]; exact hl) hcl (by rw [List.length_take]; omega)
      rw [idxV_some hidx'] at hci
      have e1 := fun kk => int_at (ts := vlC l n) (by rw [vlC_len]; exact hv) (k := i) (by rw [vlC_len]; exact hin) kk
      have e2 : VX l n x.name = (vlC l n)[i]'(by rw [vlC_len]; exact hin) := by
        unfold VX vxk; rw [hidx']; simp [List.getD_eq_getElem?_getD, List.getElem?_eq_getElem (show i < (vlC l n).length by rw [vlC_len]; exact hin)]
      rw [e2]
      simp (maxDischargeDepth := 6) only [qF, qGO0, qGO1, qGO2, qGO3, qGO4, qGO5, Nat.reduceAdd, reduceCtorEq, Nat.reduceLT, Nat.reduceEqDiff, Int.reduceEq, c110, h6, hat, dc85, hci, dc105, hl.froz, e1]
    · rw [if_neg h6]
      obtain ⟨ts, hts, hr, hk⟩ := ty_node ht h6
      have hL := fun fr lh sh h0 h1 h2 h3 h9 h13 h14 o9 => rval1 l n lT vT cl hl hv x.args (fun y hy => ih y hy) a cc ha hxs (by omega) hwl ts hts x.op x.num x.name 1 fr lh sh h0 h1 h2 h3 h9 h13 h14 o9
      have hO := fun fr lh sh h0 h1 h2 h3 h9 h13 h14 o9 => OutS.fzV (sh := sh) (keep := false) (hL fr lh sh h0 h1 h2 h3 h9 h13 h14 o9).2.1
      have hll := nodesL_len x.args
      have hin := val0L_in (vx_ok l n hnl) (scope := 0) (fun s => attrK_0 s) hwl hts
      have htl := tyL_len hts
      have hvlen : (val0L (VX l n) x.args).length = x.args.length := by rw [val0L_map, List.length_map]
      by_cases h5 : x.op ≤ 5
      · have h15 : x.op = 1 ∨ x.op = 2 ∨ x.op = 3 ∨ x.op = 4 ∨ x.op = 5 := by omega
        have happ := rapp0_ev x.op x.num h15 (outT x.args.length (ints (val0L (VX l n) x.args)))
        have hval : (if x.op = 1 ∨ x.op = 2 ∨ x.op = 3 then x.num else if x.op = 4 then 1 else if x.op = 5 then 0 else apS x.op (val0L (VX l n) x.args)) = (if x.op = 1 ∨ x.op = 2 ∨ x.op = 3 then x.num else if x.op = 4 then 1 else 0) := by
          rcases h15 with h | h | h | h | h <;> simp [h]
        rw [hval]
        generalize (if x.op = 1 ∨ x.op = 2 ∨ x.op = 3 then x.num else if x.op = 4 then 1 else 0) = q at happ ⊢
        simp (maxDischargeDepth := 6) only [qF, qGO0, qGO1, qGO2, qGO3, qGO4, qGO5, Nat.reduceShiftRight, Nat.reduceMod, Nat.reduceAdd, reduceCtorEq, Nat.reduceLT, Nat.reduceEqDiff, c110, c110_L1_w, h6, hL, hO, happ, dp108]
      · have h7 : 7 ≤ x.op := by omega
        have hap := ap_ok hin h7 h2 (by rw [htl]; exact har) hr hk
        have happ := rapply_ev x.op x.num (val0L (VX l n) x.args) (outT x.args.length (ints (val0L (VX l n) x.args))) (by rw [hvlen]; exact outT_isl (fun h0 => by rw [h0] at hvlen; rw [List.length_eq_zero_iff.1 hvlen]; rfl)) (by rw [hvlen]; exact lim_of (by omega)) h7 h2 (by rw [hvlen]; exact har) hap.1
        rw [if_neg (by omega), if_neg (by omega), if_neg (by omega)]
        generalize apS x.op (val0L (VX l n) x.args) = q at happ ⊢
        simp (maxDischargeDepth := 6) only [qF, qGO0, qGO1, qGO2, qGO3, qGO4, qGO5, Nat.reduceShiftRight, Nat.reduceMod, Nat.reduceAdd, reduceCtorEq, Nat.reduceLT, Nat.reduceEqDiff, c110, c110_L1_w, h6, hL, hO, happ, dp108]
end
section
variable (l : Cs) (lT : T) (cl : List T) (hl : IsSl lT l.length cl) (hcl : IsCl l cl) (hlen : l.length ≤ Lim) (hsm : smC l)
/-- The first k constants. -/
theorem cl_take {k : Nat} (hk : k < l.length) (hl : IsSl lT l.length cl) (hcl : IsCl l cl) : ∃ ex, lT = .sl cl l.length ex ∧ IsSl (.sl (List.take (k * 5) cl) k (ex && decide (k = l.length))) k (cl.take (k * 5)) ∧ IsCl (l.take k) (cl.take (k * 5)) ∧ cl.length = l.length * 5 := by
  rcases hl with ⟨_, hz, _⟩ | ⟨ex, rfl⟩
  · omega
  · exact ⟨ex, rfl, Or.inr ⟨_, rfl⟩, hcl.take k, hcl.len⟩
theorem smC_take (hsm : smC l) (k : Nat) : smC (l.take k) := fun c hc => hsm c (List.mem_of_mem_take hc)
include hl hcl hlen hsm
theorem con1 (fr : Fr) (lh : Tri Ent) (sh : List Ent) (h0 : getF fr 0 = lT) (h3 : getF fr 3 = .nilsl) (h4 : getF fr 4 = .i .i64 0) :
    DC pE 43 (.loop c58_L1) ⟨fr, lh, sh⟩ = some (.ext 0, ⟨frL pE 43 c58_L1 fr lh sh, lhL pE 43 c58_L1 fr lh sh, shL pE 43 c58_L1 fr lh sh⟩) ∧
    (OutS (lhL pE 43 c58_L1 fr lh sh) (getF (frL pE 43 c58_L1 fr lh sh) 3) 41 1 l.length (ints (vlC l l.length)) ∧ shL pE 43 c58_L1 fr lh sh = sh) := by
  refine loop_rule (P := fun fr' lh' sh' => OutS lh' (getF fr' 3) 41 1 l.length (ints (vlC l l.length)) ∧ sh' = sh)
    (loop_inv (fun k st => ∃ (fr : Fr) (lh1 : Tri Ent), st = ⟨fr, lh1, sh⟩ ∧ getF fr 0 = lT ∧ getF fr 4 = .i .i64 (k : Int) ∧ OutS lh1 (getF fr 3) 41 1 k (ints (vlC l k))) _ l.length ?_ ?_ 0 _ (Nat.zero_le _) ⟨fr, lh, rfl, h0, h4, by rw [h3]; exact OutS.nil⟩)
  · rintro k _ hk ⟨fr, lh1, rfl, h0, h4, hO⟩
    left
    have hk' : (k : Int) < l.length := by omega
    have hw := wr_succL (k := k) (by omega)
    obtain ⟨b, cb, r, hia, hb1, hb2, hb⟩ := const_at hl hcl k hk
    obtain ⟨hsn, hss⟩ := hsm l[k] (List.getElem_mem hk)
    obtain ⟨ex, rfl, hs1, hs2, hcll⟩ := cl_take l lT cl hk hl hcl
    have hkl : k ≤ l.length := by omega
    have hlt : (l.take k).length = k := by rw [List.length_take, Nat.min_eq_left hkl]
    have hty := rtype_ev (l.take k) (.sl (List.take (k * 5) cl) k (ex && decide (k = l.length))) (cl.take (k * 5)) (by rw [hlt]; exact hs1) hs2 (by rw [hlt]; omega) (smC_take l hsm k) 0 l[k].2 _ hb hsn hss
    rw [typeS_take l hkl] at hty
    have hval := fun (hv : l[k].2.wf = true) (ht : l[k].2.ty (CL l k) 0 = ((entC (l.take k) (tabC l k) l[k].2).1, 0)) => rval_ev l k hkl (.sl (List.take (k * 5) cl) k (ex && decide (k = l.length))) (outT k (ints (vlC l k))) (cl.take (k * 5)) hs1 hs2 hlen hO.isl l[k].2 (entC (l.take k) (tabC l k) l[k].2).1 _ hb (by omega) hv ht
    have hnx := vlC_succ l hk
    by_cases he : (entC (l.take k) (tabC l k) l[k].2).2 = 0
    · rw [if_pos he] at hnx
      have hv0 : validE l[k].2 = 0 := by
        unfold entC at he
        by_cases hv : validE l[k].2 ≠ 0
        · rw [if_pos hv] at he; exact absurd he hv
        · simpa using hv
      have hval := hval (valid_wf hv0) (by
        have : entC (l.take k) (tabC l k) l[k].2 = l[k].2.ty (CL l k) 0 := by unfold entC CL; rw [if_neg (by simp [hv0])]
        rw [← this]; exact Prod.ext rfl he)
      change DCall pE 110 _ [] = some (.i .i64 (l[k].2.val0 (vxk (l.take k) (vlC l k))), []) at hval
      generalize l[k].2.val0 (vxk (l.take k) (vlC l k)) = q at hval hnx
      generalize entC (l.take k) (tabC l k) l[k].2 = p at hty he
      obtain ⟨p1, p2⟩ := p
      simp only at hty he
      subst he
      have hap := OutS_one hO (by omega) (sh := sh) (T.i .i64 q) true
      generalize h3 : getF fr 3 = v3 at hO hap
      simp (maxDischargeDepth := 6) only [qF, qGO0, qGO1, qGO2, qGO3, qGO4, qGO5, slVV, subV, bslV, bslW, splice, fills, repl, optVal, reduceCtorEq, Nat.reduceLT, Nat.reduceLeDiff, Nat.reduceEqDiff, qDR0, c58_L1, h0, h3, h4, hk', hia, hw, hty, dc56, dd56, hb1.froz1, hkl, hcll, Nat.sub_zero, hO.fzV, hval, dp110, de110, hO.notS, hap.1]
      refine ⟨_, rfl, _, _, rfl, ?_, ?_, ?_⟩
      all_goals first | (simp (maxDischargeDepth := 6) only [qGO2, qGO4, reduceCtorEq, Nat.reduceEqDiff, h0]; done) | skip
      simp (maxDischargeDepth := 6) only [qGO2, qGO4, Nat.reduceEqDiff]
      rw [hnx, ints_app]
      exact hap.2.1
    · rw [if_neg he] at hnx
      generalize entC (l.take k) (tabC l k) l[k].2 = p at hty he
      obtain ⟨p1, p2⟩ := p
      simp only at hty he
      have hap := OutS_one hO (by omega) (sh := sh) (T.i .i64 0) true
      generalize h3 : getF fr 3 = v3 at hO hap
      simp (maxDischargeDepth := 6) only [qF, qGO0, qGO1, qGO2, qGO3, qGO4, qGO5, slVV, subV, bslV, bslW, splice, fills, repl, optVal, reduceCtorEq, Nat.reduceLT, Nat.reduceLeDiff, Nat.reduceEqDiff, qDR0, c58_L1, h0, h3, h4, hk', hia, hw, hty, dc56, dd56, hb1.froz1, hkl, hcll, Nat.sub_zero, he, hO.notS, hap.1]
      refine ⟨_, rfl, _, _, rfl, ?_, ?_, ?_⟩
      all_goals first | (simp (maxDischargeDepth := 6) only [qGO2, qGO4, reduceCtorEq, Nat.reduceEqDiff, h0]; done) | skip
      simp (maxDischargeDepth := 6) only [qGO2, qGO4, Nat.reduceEqDiff]
      rw [hnx, ints_app]
      exact hap.2.1
  · rintro _ ⟨fr, lh1, rfl, h0, h4, hO⟩
    simp (maxDischargeDepth := 6) only [qGO0, qGO1, qGO2, qGO4, qGO5, reduceCtorEq, Nat.reduceLT, Nat.reduceEqDiff, c58_L1, h0, h4, hl.lenI, Int.lt_irrefl]
    refine ⟨_, _, (by simp : Out.ext 0 ≠ .nrm), rfl, rfl, ?_, rfl⟩
    simp (maxDischargeDepth := 6) only [qGO2, qGO4, Nat.reduceEqDiff]
    exact hO
theorem consts_ev : DCall pE 58 [lT] [] = some (outT l.length (ints (vlC l l.length)), []) := by
  have hL := fun fr lh sh h0 h3 h4 => con1 l lT cl hl hcl hlen hsm fr lh sh h0 h3 h4
  have hO := fun m keep fr lh sh h0 h3 h4 => OutS.fzW (m := m) (keep := keep) (sh := sh) (hL fr lh sh h0 h3 h4).2.1
  have hO' := fun keep fr lh sh h0 h3 h4 => OutS.fzV (keep := keep) (sh := sh) (hL fr lh sh h0 h3 h4).2.1
  rw [p_fun fn58 (by simp [c58])]
  simp (maxDischargeDepth := 6) only [qF, qGO0, qGO1, qGO2, qGO4, reduceCtorEq, Nat.reduceLT, Nat.reduceEqDiff, c58, hL, hO', qUP0]
end
end Go.Proofs.YtfenhjpkomldcaaGreat
namespace Go.Proofs.YtfenhjpkomldcaaGreat
open Go Go.Ev
def sameP (y : Ex) : Prop := ∀ cs cs' : List T, IsEx y cs → IsEx y cs' → y.nodes ≤ 100000 → DCall pE 60 [.agg cs, .agg cs'] [] = some (.b true, [])
theorem same1 (xs : List Ex) (ih : ∀ y ∈ xs, sameP y) (a a' : T) (cc cc' : List T) (ha : IsSl a xs.length cc) (hx : IsExs xs cc) (ha' : IsSl a' xs.length cc') (hx' : IsExs xs cc') (hn : nodesL xs ≤ 100000) (op num : Int) (s : List Nat) (g2 g3 : Nat) (fr : Fr) (lh : Tri Ent) (sh : List Ent)
    (h2 : getF fr 2 = .ptr .L 2 g2 0) (h3 : getF fr 3 = .ptr .L 3 g3 0) (h5 : getF fr 5 = .i .i64 0) (o2 : getO lh 2 = ⟨g2, .cells [.i .i64 op, .i .i64 num, .s s, a] 0 true⟩) (o3 : getO lh 3 = ⟨g3, .cells [.i .i64 op, .i .i64 num, .s s, a'] 0 true⟩) :
    DC pE 53 (.loop c60_L1) ⟨fr, lh, sh⟩ = some (.ext 0, ⟨frL pE 53 c60_L1 fr lh sh, lhL pE 53 c60_L1 fr lh sh, shL pE 53 c60_L1 fr lh sh⟩) ∧ shL pE 53 c60_L1 fr lh sh = sh := by
  refine loop_rule (P := fun fr' lh' sh' => sh' = sh)
    (loop_inv (fun k st => ∃ (fr : Fr), st = ⟨fr, lh, sh⟩ ∧ getF fr 2 = .ptr .L 2 g2 0 ∧ getF fr 3 = .ptr .L 3 g3 0 ∧ getF fr 5 = .i .i64 (k : Int)) _ xs.length ?_ ?_ 0 _ (Nat.zero_le _) ⟨fr, rfl, h2, h3, h5⟩)
  · rintro k _ hkx ⟨fr, rfl, h2, h3, h5⟩
    left
    have hk' : (k : Int) < xs.length := by omega
    have hlen' := nodesL_len xs
    have hyk := nodesL_mem (List.getElem_mem hkx)
    have hw := wr_succL (k := k) (lim_of (by omega))
    obtain ⟨b, cb, rr, hia, hb1, hb2, hb⟩ := arg_at ha hx k hkx
    obtain ⟨b', cb', rr', hia', hb1', hb2', hb'⟩ := arg_at ha' hx' k hkx
    have hcall := ih xs[k] (List.getElem_mem hkx) _ _ hb hb' (by omega)
    simp (maxDischargeDepth := 6) only [qF, qGO0, qGO1, qGO2, qGO3, qGO4, Nat.reduceLT, Nat.reduceLeDiff, Nat.reduceEqDiff, qDR0, getL, c60_L1, h2, h3, h5, o2, o3, ha.lenI, hk', hia, hia', hw, hcall, dc60, dd60, hb1.froz1, hb1'.froz1]
    refine ⟨_, rfl, _, rfl, ?_, ?_, ?_⟩
    all_goals (simp (maxDischargeDepth := 6) only [qGO2, qGO4, Nat.reduceEqDiff, h2, h3])
  · rintro _ ⟨fr, rfl, h2, h3, h5⟩
    simp (maxDischargeDepth := 6) only [qGO0, qGO1, qGO2, qGO3, qGO4, qGO5, Nat.reduceLT, Nat.reduceEqDiff, c60_L1, h2, h5, o2, ha.lenI, Int.lt_irrefl]
    exact ⟨_, _, (by simp : Out.ext 0 ≠ .nrm), rfl, rfl, rfl⟩
theorem same_ev (x : Ex) : sameP x := by
  induction x using Ex.ind with
  | h x ih =>
    intro cs cs' hx hx' hn
    obtain ⟨a, cc, rfl, ha, hxs⟩ := hx.cells
    obtain ⟨a', cc', rfl, ha', hxs'⟩ := hx'.cells
    have hnd := x.nodes_eq
    have hL := fun fr lh sh h2 h3 h5 o2 o3 => same1 x.args (fun y hy => ih y hy) a a' cc cc' ha hxs ha' hxs' (by omega) x.op x.num x.name 1 1 fr lh sh h2 h3 h5 o2 o3
    rw [p_fun fn60 (by simp [c60])]
    simp (maxDischargeDepth := 6) only [qF, qGO0, qGO1, qGO2, qGO3, qGO4, qGO5, reduceCtorEq, Nat.reduceLT, Nat.reduceEqDiff, c60, ha.lenI, ha'.lenI, hL]
end Go.Proofs.YtfenhjpkomldcaaGreat
namespace Go.Proofs.YtfenhjpkomldcaaGreat
open Go Go.Ev
theorem valid_size {x : Ex} (hv : validE x = 0) : x.nodes ≤ 200 ∧ x.depth ≤ 16 := by
  unfold validE at hv
  by_cases h : big x
  · rw [if_pos h] at hv; cases hv
  · unfold big at h; omega
theorem validE_of {x : Ex} (hw : x.wf = true) (hn : x.nodes ≤ 200) (hd : x.depth ≤ 16) : validE x = 0 := by
  unfold validE
  rw [if_neg (by unfold big; omega), if_pos hw]
section
variable (l : Cs) (lT kT : T) (cl : List T) (hl : IsSl lT l.length cl) (hcl : IsCl l cl) (hlen : l.length ≤ Lim) (hsm : smC l) (hkT : froz kT = true)
include hl hcl hlen hsm hkT
theorem pcst_ev : ∀ i, i < l.length → cstS l lT kT i := by
  intro i
  induction i using Nat.strongRecOn with
  | ind i ih =>
    intro hi s t m hidx hcla hm
    have hlk : lkIn (.one .str) (m.map fun p => sK p.1) (m.map fun p => T.agg p.2) (.s s) (.agg [.i .i64 0, .i .i64 0, .s [], .nilsl]) true = _ := lk_A (kT := sK) (vT := T.agg) heqS (fun _ => rfl) m s (.agg [.i .i64 0, .i .i64 0, .s [], .nilsl])
    rw [p_fun fn99 (by simp [c99])]
    cases hq : lookA m s with
    | some cs =>
      obtain ⟨t', hcla', hcs, hT⟩ := hm s cs hq
      rw [hcla] at hcla'
      injection hcla' with e1 e2
      subst e1
      rw [hq] at hlk
      simp only at hlk
      generalize litX t (VXa l s) = y at *
      obtain ⟨ca, cb, rfl, hq1, hq2⟩ := hcs.cells
      simp (maxDischargeDepth := 6) only [qF, qGO0, qGO1, qGO2, qGO3, qGO4, qGO5, lkV, splice, Nat.reduceAdd, reduceCtorEq, Nat.reduceLT, Nat.reduceEqDiff, qDR0, qDR1, getL, c99, sm1, sm0, lkE_map, hlk, hq1.froz1]
      exact ⟨_, m, rfl, hcs, hT, hm, fun _ _ _ _ => rfl⟩
    | none =>
      rw [hq] at hlk
      simp only at hlk
      obtain ⟨i', hi', hidx', hv, ht, _, hfs, hin, _, _⟩ := foldS_const hcla
      rw [hidx] at hidx'
      cases hidx'
      obtain ⟨b, cb, r, hia, hb1, hb2, hb⟩ := const_at hl hcl i hi
      obtain ⟨cs, m', hcall, hcs, hm', hfr, hT⟩ := simp_ev l lT kT hkT i (Nat.le_of_lt hi) (fun j hj => ih j hj (by omega)) 0 l[i].2 t m _ hm hb (valid_size hv).1 (valid_wf hv) ht
      rw [hfs] at hcs
      have hT := hT rfl
      have hix := ixf_ev l s lT cl hl hcl hlen
      rw [idxV_some hidx] at hix
      have hneg : ¬ (i : Int) < 0 := by omega
      have hc1 : ([T.s s] : List T).all froz1 = true := rfl
      have hpf := fun lh sh keep (h : getO lh 3 = ⟨1, .cells [.s s] 0 true⟩) => fzV_fnF (f := 145) (sh := sh) (keep := keep) h hc1
      have hno : lookA m' s = none := by rw [hfr s i hidx (Nat.le_refl _), hq]
      have hput : putK (.one .str) (.s s) (.agg cs) (m'.map fun p => sK p.1) (m'.map fun p => T.agg p.2) = _ := put_A (kT := sK) (vT := T.agg) heqS m' s cs hno
      have hMok : MapOk l (m' ++ [(s, cs)]) := by
        intro s' c' h'
        rw [lookA_app] at h'
        cases h2 : lookA m' s' with
        | some u => rw [h2] at h'; cases h'; exact hm' s' _ h2
        | none =>
          rw [h2] at h'
          simp only at h'
          split at h'
          · rename_i e; subst e; cases h'; exact ⟨t, hcla, hcs, hT⟩
          · cases h'
      have hFr : MFr l (i + 1) m (m' ++ [(s, cs)]) := by
        intro s' j hj hle
        rw [lookA_app, hfr s' j hj (by omega)]
        cases lookA m s' with
        | some u => rfl
        | none =>
          simp only
          rw [if_neg]
          intro e; subst e
          rw [hidx] at hj; cases hj; omega
      generalize litX t (VXa l s) = y at *
      obtain ⟨ca, cb', rfl, hq1, hq2⟩ := hcs.cells
      simp (maxDischargeDepth := 6) only [qF, qGO0, qGO1, qGO2, qGO3, qGO4, qGO5, buildV, lkV, splice, fills, Nat.reduceAdd, reduceCtorEq, Nat.reduceLT, Nat.reduceLeDiff, Nat.reduceEqDiff, qDR0, qDR1, getL, qKP0, c99, sm1, sm0, lkE_map, hlk, hl.froz, hpf, hix, dp144, hneg, hia, hb1.kept1, hcall, dc54, hq1.froz1, key_s, hput, sm0s]
      exact ⟨_, _, rfl, hcs, hT, hMok, hFr⟩
end
end Go.Proofs.YtfenhjpkomldcaaGreat
