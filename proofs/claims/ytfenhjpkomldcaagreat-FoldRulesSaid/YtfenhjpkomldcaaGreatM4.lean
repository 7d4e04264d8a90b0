/- The type of a node by the types of its arguments: the program's and the reference's. Types as the reference finds them. Types as the reference finds them. Conditions: the theorems' own. -/
import Derived.Test.YtfenhjpkomldcaaGreatM3
import Derived.KernelRfl
set_option maxRecDepth 100000
set_option linter.unusedSimpArgs false
set_option linter.unusedVariables false
set_option linter.unusedSectionVars false
set_option maxHeartbeats 16000000
namespace Go.Proofs.YtfenhjpkomldcaaGreat
open Go Go.Ev
theorem sl_of {a : T} {t : Int} {ts : List Int} (ha : IsSl a (t :: ts).length (ints (t :: ts))) : ∃ ex, a = .sl (.i .i64 t :: ints ts) (ts.length + 1) ex := by
  rcases ha with ⟨_, h, _⟩ | ⟨ex, h⟩
  · simp at h
  · exact ⟨ex, h⟩
theorem len1 {ts : List Int} (h : ts.length = 1) : ∃ a, ts = [a] := by
  match ts, h with
  | [a], _ => exact ⟨a, rfl⟩
theorem len2 {ts : List Int} (h : ts.length = 2) : ∃ a b, ts = [a, b] := by
  match ts, h with
  | [a, b], _ => exact ⟨a, b, rfl⟩
theorem len3 {ts : List Int} (h : ts.length = 3) : ∃ a b c, ts = [a, b, c] := by
  match ts, h with
  | [a, b, c], _ => exact ⟨a, b, c, rfl⟩
theorem allK_cons (t : Int) (ts : List Int) (k : Int) : allK (t :: ts) k = (decide (t = k) && allK ts k) := rfl
theorem allK_nil (k : Int) : allK [] k = true := rfl
/-- The type of a sum. -/
theorem sumK (t : Int) (ts : List Int) : (if allK (t :: ts) 1 then (1 : Int) else if allK (t :: ts) 2 then 2 else 0) = if (t = 1 ∨ t = 2) ∧ allK (t :: ts) t = true then t else 0 := by
  rw [allK_cons, allK_cons, allK_cons, decide_eq_true (p := t = t) rfl, Bool.true_and]
  by_cases h1 : t = 1
  · subst h1; simp
  · by_cases h2 : t = 2
    · subst h2; simp
    · simp [h1, h2]
theorem pcomp_all (op k : Int) (ts : List Int) (a : T) (ha : IsSl a ts.length (ints ts)) (hl : ts.length ≤ Lim) (h : op = 15 ∧ k = 3 ∨ (op = 19 ∨ op = 20 ∨ op = 21 ∨ op = 22) ∧ k = 4) : DCall pE 249 [.i .i64 op, a] [] = some (.b (allK ts k), []) := by
  have h1 := pall_ev ts k a ha hl
  rw [p_fun fn249 (by simp [c249])]
  rcases h with ⟨rfl, rfl⟩ | ⟨rfl | rfl | rfl | rfl, rfl⟩ <;> simp (maxDischargeDepth := 6) only [qF, qGO0, qGO1, qGO2, qGO3, qGO4, qGO5, backD, calmOp, Nat.reduceAdd, reduceCtorEq, Nat.reduceLT, Nat.reduceEqDiff, Int.reduceEq, c249, h1, dc247, ha.froz]
theorem pcomp_two (op x y : Int) (a : T) (ha : IsSl a 2 (ints [x, y])) (h : op = 16 ∨ op = 17) : DCall pE 249 [.i .i64 op, a] [] = some (.b (decide ((x = 1 ∨ x = 2) ∧ x = y)), []) := by
  obtain ⟨ex, rfl⟩ := sl_of (ts := [y]) ha
  have hm := amount_ev x
  rw [p_fun fn249 (by simp [c249])]
  by_cases hx : x = 1 ∨ x = 2
  · rw [decide_eq_true hx] at hm
    rcases h with rfl | rfl <;> simp (maxDischargeDepth := 6) only [qF, qGO0, qGO1, qGO2, qGO3, qGO4, qGO5, iaV_sl, backD, calmOp, Nat.reduceAdd, reduceCtorEq, Nat.reduceLT, Nat.reduceLeDiff, Nat.reduceEqDiff, Int.reduceToNat, Int.reduceLE, Int.reduceEq, qDR0, getL, c249, hm, dc246, dd246, ints, hx]
  · rw [decide_eq_false hx] at hm
    rcases h with rfl | rfl <;> simp (maxDischargeDepth := 6) only [qF, qGO0, qGO1, qGO2, qGO3, qGO4, qGO5, iaV_sl, backD, calmOp, Nat.reduceAdd, reduceCtorEq, Nat.reduceLT, Nat.reduceLeDiff, Nat.reduceEqDiff, Int.reduceToNat, Int.reduceLE, Int.reduceEq, qDR0, c249, hm, dc246, dd246, ints, hx]
theorem pcomp_eq (x y : Int) (a : T) (ha : IsSl a 2 (ints [x, y])) : DCall pE 249 [.i .i64 18, a] [] = some (.b (decide (x = y)), []) := by
  obtain ⟨ex, rfl⟩ := sl_of (ts := [y]) ha
  rw [p_fun fn249 (by simp [c249])]
  simp (maxDischargeDepth := 6) only [qF, qGO0, qGO1, qGO2, qGO3, qGO4, qGO5, iaV_sl, backD, calmOp, Nat.reduceAdd, reduceCtorEq, Nat.reduceLT, Nat.reduceLeDiff, Nat.reduceEqDiff, Int.reduceToNat, Int.reduceLE, Int.reduceEq, qDR0, c249, ints]
theorem presult_ev (op : Int) (ts : List Int) (a : T) (ha : IsSl a ts.length (ints ts)) (hl : ts.length ≤ Lim) (h1 : 1 ≤ op) (h2 : op ≤ 22) (h6 : op ≠ 6) (har : arOk op ts.length = true) : DCall pE 215 [.i .i64 op, a] [] = some (.i .i64 (resK op ts), []) := by
  rw [p_fun fn215 (by simp [c215])]
  have hsum : ∀ t ts', ts = t :: ts' → (op = 7 ∨ op = 8 ∨ op = 9 ∨ op = 12 ∨ op = 13) → endR c215.res c215.eff (DC pE c215.n c215.code ⟨frOf [.i .i64 op, a], .nil, []⟩) = some (.i .i64 (if (t = 1 ∨ t = 2) ∧ allK ts t = true then t else 0), []) := by
    rintro t ts' rfl ho
    have hall := pall_ev (t :: ts') t a ha hl
    have hm := amount_ev t
    have hfz := ha.froz
    obtain ⟨ex, rfl⟩ := sl_of ha
    have hz : 0 < ts'.length + 1 := Nat.succ_pos _
    by_cases hx : t = 1 ∨ t = 2
    · rw [decide_eq_true hx] at hm
      cases hk : allK (t :: ts') t <;> rw [hk] at hall <;> rcases ho with rfl | rfl | rfl | rfl | rfl <;>
        simp (maxDischargeDepth := 6) only [qF, qGO0, qGO1, qGO2, qGO3, qGO4, qGO5, iaV_sl, backD, calmOp, Nat.reduceAdd, reduceCtorEq, Nat.reduceLT, Nat.reduceLeDiff, Nat.reduceEqDiff, Int.reduceToNat, Int.reduceLE, Int.reduceEq, c215, hm, dc246, hall, dc247, hx, hz]
    · rw [decide_eq_false hx] at hm
      rcases ho with rfl | rfl | rfl | rfl | rfl <;> simp (maxDischargeDepth := 6) only [qF, qGO0, qGO1, qGO2, qGO3, qGO4, qGO5, iaV_sl, backD, calmOp, Nat.reduceAdd, reduceCtorEq, Nat.reduceLT, Nat.reduceLeDiff, Nat.reduceEqDiff, Int.reduceToNat, Int.reduceLE, Int.reduceEq, c215, hm, dc246, hx, hz]
  have hcmp : ∀ b : Bool, DCall pE 249 [.i .i64 op, a] [] = some (.b b, []) → (op = 15 ∨ op = 16 ∨ op = 17 ∨ op = 18 ∨ op = 19 ∨ op = 20 ∨ op = 21 ∨ op = 22) → endR c215.res c215.eff (DC pE c215.n c215.code ⟨frOf [.i .i64 op, a], .nil, []⟩) = some (.i .i64 (if b = true then 4 else 0), []) := by
    intro b hb ho
    cases b <;> rcases ho with rfl | rfl | rfl | rfl | rfl | rfl | rfl | rfl <;> simp (maxDischargeDepth := 6) only [qF, qGO0, qGO1, qGO2, qGO3, qGO4, qGO5, backD, calmOp, Nat.reduceAdd, reduceCtorEq, Nat.reduceLT, Nat.reduceEqDiff, Int.reduceEq, c215, hb, dc249, ha.froz]
  rcases op_cases h1 h2 with rfl | rfl | rfl | rfl | rfl | rfl | rfl | rfl | rfl | rfl | rfl | rfl | rfl | rfl | rfl | rfl | rfl | rfl | rfl | rfl | rfl | rfl
  iterate 5 · simp (maxDischargeDepth := 6) only [qF, qGO0, qGO1, qGO2, qGO3, qGO4, qGO5, backD, calmOp, Nat.reduceAdd, reduceCtorEq, Nat.reduceLT, Nat.reduceEqDiff, Int.reduceEq, c215, resK]
  · exact absurd rfl h6
  · obtain ⟨x, rfl⟩ := len1 (by simpa [arOk] using har)
    rw [hsum x [] rfl (by simp), ← sumK]; rfl
  · obtain ⟨x, y, rfl⟩ := len2 (by simpa [arOk] using har)
    rw [hsum x [y] rfl (by simp), ← sumK]; rfl
  · obtain ⟨x, y, rfl⟩ := len2 (by simpa [arOk] using har)
    rw [hsum x [y] rfl (by simp), ← sumK]; rfl
  · obtain ⟨x, y, rfl⟩ := len2 (by simpa [arOk] using har)
    obtain ⟨ex, rfl⟩ := sl_of ha
    have hp := product_ev 10 x y
    simp (maxDischargeDepth := 6) only [qF, qGO0, qGO1, qGO2, qGO3, qGO4, qGO5, iaV_sl, backD, calmOp, Nat.reduceAdd, reduceCtorEq, Nat.reduceLT, Nat.reduceLeDiff, Nat.reduceEqDiff, Int.reduceToNat, Int.reduceLE, Int.reduceEq, qDR0, getL, c215, ints, hp, dc248, dd248]; rfl
  · obtain ⟨x, y, rfl⟩ := len2 (by simpa [arOk] using har)
    obtain ⟨ex, rfl⟩ := sl_of ha
    have hp := product_ev 11 x y
    simp (maxDischargeDepth := 6) only [qF, qGO0, qGO1, qGO2, qGO3, qGO4, qGO5, iaV_sl, backD, calmOp, Nat.reduceAdd, reduceCtorEq, Nat.reduceLT, Nat.reduceLeDiff, Nat.reduceEqDiff, Int.reduceToNat, Int.reduceLE, Int.reduceEq, qDR0, getL, c215, ints, hp, dc248, dd248]; rfl
  · match ts, har with
    | x :: ts, _ => rw [hsum x ts rfl (by simp), ← sumK]; rfl
  · match ts, har with
    | x :: ts, _ => rw [hsum x ts rfl (by simp), ← sumK]; rfl
  · obtain ⟨x, y, z, rfl⟩ := len3 (by simpa [arOk] using har)
    obtain ⟨ex, rfl⟩ := sl_of ha
    have hr : resK 14 [x, y, z] = if x = 4 ∧ y = z then y else 0 := rfl
    rw [hr]
    by_cases hx : x = 4
    · by_cases hy : y = z <;> simp (maxDischargeDepth := 6) only [qF, qGO0, qGO1, qGO2, qGO3, qGO4, qGO5, iaV_sl, backD, calmOp, Nat.reduceAdd, reduceCtorEq, Nat.reduceLT, Nat.reduceLeDiff, Nat.reduceEqDiff, Int.reduceToNat, Int.reduceLE, Int.reduceEq, qDR0, getL, c215, ints, hx, hy]
    · simp (maxDischargeDepth := 6) only [qF, qGO0, qGO1, qGO2, qGO3, qGO4, qGO5, iaV_sl, backD, calmOp, Nat.reduceAdd, reduceCtorEq, Nat.reduceLT, Nat.reduceLeDiff, Nat.reduceEqDiff, Int.reduceToNat, Int.reduceLE, Int.reduceEq, qDR0, getL, c215, ints, hx]
  · exact hcmp _ (pcomp_all 15 3 ts a ha hl (by simp)) (by simp)
  · obtain ⟨x, y, rfl⟩ := len2 (by simpa [arOk] using har)
    rw [hcmp _ (pcomp_two 16 x y a ha (by simp)) (by simp)]
    have hr : resK 16 [x, y] = if (x = 1 ∨ x = 2) ∧ x = y then 4 else 0 := rfl
    rw [hr]; simp only [decide_eq_true_eq]
  · obtain ⟨x, y, rfl⟩ := len2 (by simpa [arOk] using har)
    rw [hcmp _ (pcomp_two 17 x y a ha (by simp)) (by simp)]
    have hr : resK 17 [x, y] = if (x = 1 ∨ x = 2) ∧ x = y then 4 else 0 := rfl
    rw [hr]; simp only [decide_eq_true_eq]
  · obtain ⟨x, y, rfl⟩ := len2 (by simpa [arOk] using har)
    rw [hcmp _ (pcomp_eq x y a ha) (by simp)]
    have hr : resK 18 [x, y] = if x = y then 4 else 0 := rfl
    rw [hr]; simp only [decide_eq_true_eq]
  · exact hcmp _ (pcomp_all 19 4 ts a ha hl (by simp)) (by simp)
  · exact hcmp _ (pcomp_all 20 4 ts a ha hl (by simp)) (by simp)
  · exact hcmp _ (pcomp_all 21 4 ts a ha hl (by simp)) (by simp)
  · exact hcmp _ (pcomp_all 22 4 ts a ha hl (by simp)) (by simp)
theorem rresult_ev (op : Int) (ts : List Int) (a : T) (ha : IsSl a ts.length (ints ts)) (hl : ts.length ≤ Lim) (h1 : 1 ≤ op) (h2 : op ≤ 22) (h6 : op ≠ 6) (har : arOk op ts.length = true) : DCall pE 157 [.i .i64 op, a] [] = some (.i .i64 (resK op ts), []) := by
  rw [p_fun fn157 (by simp [c157])]
  have a1 := rall_ev ts 1 a ha hl
  have a2 := rall_ev ts 2 a ha hl
  have a3 := rall_ev ts 3 a ha hl
  have a4 := rall_ev ts 4 a ha hl
  have hfz := ha.froz
  have hsum : (op = 7 ∨ op = 8 ∨ op = 9 ∨ op = 12 ∨ op = 13) → endR c157.res c157.eff (DC pE c157.n c157.code ⟨frOf [.i .i64 op, a], .nil, []⟩) = some (.i .i64 (if allK ts 1 then 1 else if allK ts 2 then 2 else 0), []) := by
    intro ho
    cases k1 : allK ts 1 <;> rw [k1] at a1 <;> cases k2 : allK ts 2 <;> rw [k2] at a2 <;> rcases ho with rfl | rfl | rfl | rfl | rfl <;>
        simp (maxDischargeDepth := 6) only [qF, qGO0, qGO1, qGO2, qGO3, qGO4, qGO5, backD, calmOp, Nat.reduceAdd, reduceCtorEq, Nat.reduceLT, Nat.reduceEqDiff, Int.reduceEq, c157, a1, a2, dc219, hfz]
  rcases op_cases h1 h2 with rfl | rfl | rfl | rfl | rfl | rfl | rfl | rfl | rfl | rfl | rfl | rfl | rfl | rfl | rfl | rfl | rfl | rfl | rfl | rfl | rfl | rfl
  iterate 5 · simp (maxDischargeDepth := 6) only [qF, qGO0, qGO1, qGO2, qGO3, qGO4, qGO5, backD, calmOp, Nat.reduceAdd, reduceCtorEq, Nat.reduceLT, Nat.reduceEqDiff, Int.reduceEq, c157, resK]
  · exact absurd rfl h6
  · exact hsum (by simp)
  · exact hsum (by simp)
  · exact hsum (by simp)
  · obtain ⟨x, y, rfl⟩ := len2 (by simpa [arOk] using har)
    obtain ⟨ex, rfl⟩ := sl_of ha
    have hr : resK 10 [x, y] = prodK 10 x y := rfl
    rw [hr]
    simp only [allK_cons, allK_nil, Bool.and_true] at a1
    by_cases x1 : x = 1
    · by_cases y1 : y = 1
      · simp (maxDischargeDepth := 6) only [x1, y1, qGO3, qGO4, Nat.reduceAdd, ints] at a1
        simp (maxDischargeDepth := 6) only [qF, qGO0, qGO1, qGO2, qGO3, qGO4, qGO5, iaV_sl, backD, calmOp, Nat.reduceAdd, reduceCtorEq, Nat.reduceLT, Nat.reduceLeDiff, Nat.reduceEqDiff, Int.reduceToNat, Int.reduceLE, Int.reduceEq, c157, ints, a1, dc219, x1, y1, prodK]
      · by_cases y2 : y = 2 <;> simp (maxDischargeDepth := 6) only [x1, y1, y2, qGO3, qGO4, qGO5, Nat.reduceAdd, Int.reduceEq, ints] at a1 <;> simp (maxDischargeDepth := 6) only [qF, qGO0, qGO1, qGO2, qGO3, qGO4, qGO5, iaV_sl, backD, calmOp, Nat.reduceAdd, reduceCtorEq, Nat.reduceLT, Nat.reduceLeDiff, Nat.reduceEqDiff, Int.reduceToNat, Int.reduceLE, Int.reduceEq, c157, ints, a1, dc219, x1, y1, y2, prodK]
    · by_cases x2 : x = 2
      · by_cases y1 : y = 1 <;> simp (maxDischargeDepth := 6) only [x2, y1, qGO3, qGO4, qGO5, Nat.reduceAdd, Int.reduceEq, ints] at a1 <;> simp (maxDischargeDepth := 6) only [qF, qGO0, qGO1, qGO2, qGO3, qGO4, qGO5, iaV_sl, backD, calmOp, Nat.reduceAdd, reduceCtorEq, Nat.reduceLT, Nat.reduceLeDiff, Nat.reduceEqDiff, Int.reduceToNat, Int.reduceLE, Int.reduceEq, c157, ints, a1, dc219, x2, y1, prodK]
      · simp (maxDischargeDepth := 6) only [x1, qGO4, qGO5, Nat.reduceAdd, ints] at a1
        simp (maxDischargeDepth := 6) only [qF, qGO0, qGO1, qGO2, qGO3, qGO4, qGO5, iaV_sl, backD, calmOp, Nat.reduceAdd, reduceCtorEq, Nat.reduceLT, Nat.reduceLeDiff, Nat.reduceEqDiff, Int.reduceToNat, Int.reduceLE, Int.reduceEq, c157, ints, a1, dc219, x1, x2, prodK]
  · obtain ⟨x, y, rfl⟩ := len2 (by simpa [arOk] using har)
    obtain ⟨ex, rfl⟩ := sl_of ha
    have hr : resK 11 [x, y] = prodK 11 x y := rfl
    rw [hr]
    simp only [allK_cons, allK_nil, Bool.and_true] at a1 a2
    by_cases x1 : x = 1
    · by_cases y1 : y = 1
      · simp (maxDischargeDepth := 6) only [x1, y1, qGO3, qGO4, Nat.reduceAdd, ints] at a1
        simp (maxDischargeDepth := 6) only [qF, qGO0, qGO1, qGO2, qGO3, qGO4, qGO5, iaV_sl, backD, calmOp, Nat.reduceAdd, reduceCtorEq, Nat.reduceLT, Nat.reduceLeDiff, Nat.reduceEqDiff, Int.reduceToNat, Int.reduceLE, Int.reduceEq, c157, ints, a1, dc219, x1, y1, prodK]
      · simp (maxDischargeDepth := 6) only [x1, y1, qGO3, qGO4, qGO5, Nat.reduceAdd, Int.reduceEq, ints] at a1 a2
        simp (maxDischargeDepth := 6) only [qF, qGO0, qGO1, qGO2, qGO3, qGO4, qGO5, iaV_sl, backD, calmOp, Nat.reduceAdd, reduceCtorEq, Nat.reduceLT, Nat.reduceLeDiff, Nat.reduceEqDiff, Int.reduceToNat, Int.reduceLE, Int.reduceEq, c157, ints, a1, a2, dc219, x1, y1, prodK]
    · by_cases x2 : x = 2
      · by_cases y1 : y = 1
        · simp (maxDischargeDepth := 6) only [x2, y1, qGO3, qGO4, qGO5, Nat.reduceAdd, Int.reduceEq, ints] at a1 a2
          simp (maxDischargeDepth := 6) only [qF, qGO0, qGO1, qGO2, qGO3, qGO4, qGO5, iaV_sl, backD, calmOp, Nat.reduceAdd, reduceCtorEq, Nat.reduceLT, Nat.reduceLeDiff, Nat.reduceEqDiff, Int.reduceToNat, Int.reduceLE, Int.reduceEq, c157, ints, a1, a2, dc219, x2, y1, prodK]
        · by_cases y2 : y = 2 <;> simp (maxDischargeDepth := 6) only [x2, y1, y2, qGO3, qGO4, qGO5, Nat.reduceAdd, Int.reduceEq, ints] at a1 a2 <;> simp (maxDischargeDepth := 6) only [qF, qGO0, qGO1, qGO2, qGO3, qGO4, qGO5, iaV_sl, backD, calmOp, Nat.reduceAdd, reduceCtorEq, Nat.reduceLT, Nat.reduceLeDiff, Nat.reduceEqDiff, Int.reduceToNat, Int.reduceLE, Int.reduceEq, c157, ints, a1, a2, dc219, x2, y1, y2, prodK]
      · simp (maxDischargeDepth := 6) only [x1, x2, qGO4, qGO5, Nat.reduceAdd, ints] at a1 a2
        simp (maxDischargeDepth := 6) only [qF, qGO0, qGO1, qGO2, qGO3, qGO4, qGO5, iaV_sl, backD, calmOp, Nat.reduceAdd, reduceCtorEq, Nat.reduceLT, Nat.reduceLeDiff, Nat.reduceEqDiff, Int.reduceToNat, Int.reduceLE, Int.reduceEq, c157, ints, a1, a2, dc219, x1, x2, prodK]
  · exact hsum (by simp)
  · exact hsum (by simp)
  · obtain ⟨x, y, z, rfl⟩ := len3 (by simpa [arOk] using har)
    obtain ⟨ex, rfl⟩ := sl_of ha
    have hr : resK 14 [x, y, z] = if x = 4 ∧ y = z then y else 0 := rfl
    rw [hr]
    by_cases hx : x = 4
    · by_cases hy : y = z <;> simp (maxDischargeDepth := 6) only [qF, qGO0, qGO1, qGO2, qGO3, qGO4, qGO5, iaV_sl, backD, calmOp, Nat.reduceAdd, reduceCtorEq, Nat.reduceLT, Nat.reduceLeDiff, Nat.reduceEqDiff, Int.reduceToNat, Int.reduceLE, Int.reduceEq, c157, ints, hx, hy]
    · simp (maxDischargeDepth := 6) only [qF, qGO0, qGO1, qGO2, qGO3, qGO4, qGO5, iaV_sl, backD, calmOp, Nat.reduceAdd, reduceCtorEq, Nat.reduceLT, Nat.reduceLeDiff, Nat.reduceEqDiff, Int.reduceToNat, Int.reduceLE, Int.reduceEq, c157, ints, hx]
  · have hr : resK 15 ts = if allK ts 3 then 4 else 0 := rfl
    rw [hr]
    cases k3 : allK ts 3 <;> rw [k3] at a3 <;> simp (maxDischargeDepth := 6) only [qF, qGO0, qGO1, qGO2, qGO3, qGO4, qGO5, backD, calmOp, Nat.reduceAdd, reduceCtorEq, Nat.reduceLT, Nat.reduceEqDiff, Int.reduceEq, c157, a3, dc219, hfz]
  iterate 2
    · obtain ⟨x, y, rfl⟩ := len2 (by simpa [arOk] using har)
      have hr : ∀ op, (op = 16 ∨ op = 17) → resK op [x, y] = if allK [x, y] 1 then 4 else if allK [x, y] 2 then 4 else 0 := by
        intro op ho
        have : resK op [x, y] = if (x = 1 ∨ x = 2) ∧ x = y then 4 else 0 := by rcases ho with rfl | rfl <;> rfl
        rw [this]
        simp only [allK_cons, allK_nil, Bool.and_true]
        by_cases x1 : x = 1
        · subst x1; by_cases y1 : y = 1
          · simp [y1]
          · simp [y1, Ne.symm y1]
        · by_cases x2 : x = 2
          · subst x2; by_cases y1 : y = 2
            · simp [y1]
            · simp [y1, Ne.symm y1]
          · simp [x1, x2]
      rw [hr _ (by simp)]
      cases k1 : allK [x, y] 1 <;> rw [k1] at a1 <;> cases k2 : allK [x, y] 2 <;> rw [k2] at a2 <;> simp (maxDischargeDepth := 6) only [qF, qGO0, qGO1, qGO2, qGO3, qGO4, qGO5, backD, calmOp, Nat.reduceAdd, reduceCtorEq, Nat.reduceLT, Nat.reduceEqDiff, Int.reduceEq, c157, a1, a2, dc219, hfz]
  · obtain ⟨x, y, rfl⟩ := len2 (by simpa [arOk] using har)
    obtain ⟨ex, rfl⟩ := sl_of ha
    have hr : resK 18 [x, y] = if x = y then 4 else 0 := rfl
    rw [hr]
    by_cases hy : x = y <;> simp (maxDischargeDepth := 6) only [qF, qGO0, qGO1, qGO2, qGO3, qGO4, qGO5, iaV_sl, backD, calmOp, Nat.reduceAdd, reduceCtorEq, Nat.reduceLT, Nat.reduceLeDiff, Nat.reduceEqDiff, Int.reduceToNat, Int.reduceLE, Int.reduceEq, c157, ints, hy]
  iterate 4
    · have hr : ∀ op, (op = 19 ∨ op = 20 ∨ op = 21 ∨ op = 22) → resK op ts = if allK ts 4 then 4 else 0 := by
        intro op ho; rcases ho with rfl | rfl | rfl | rfl <;> rfl
      rw [hr _ (by simp)]
      cases k4 : allK ts 4 <;> rw [k4] at a4 <;> simp (maxDischargeDepth := 6) only [qF, qGO0, qGO1, qGO2, qGO3, qGO4, qGO5, backD, calmOp, Nat.reduceAdd, reduceCtorEq, Nat.reduceLT, Nat.reduceEqDiff, Int.reduceEq, c157, a4, dc219, hfz]
end Go.Proofs.YtfenhjpkomldcaaGreat
namespace Go.Proofs.YtfenhjpkomldcaaGreat
open Go Go.Ev
/-- The cells of some constants. -/
def IsCl : Cs → List T → Prop
  | [], cs => cs = []
  | c :: l, cs => ∃ ex r, cs = (T.s c.1 :: ex) ++ r ∧ IsEx c.2 ex ∧ IsCl l r
theorem IsCl.len : ∀ {l : Cs} {cs : List T}, IsCl l cs → cs.length = l.length * 5
  | [], cs, h => by rw [IsCl] at h; rw [h]; rfl
  | c :: l, cs, h => by
    rw [IsCl] at h
    obtain ⟨ex, r, rfl, h1, h2⟩ := h
    rw [List.length_append, List.length_cons, h1.len, h2.len, List.length_cons]; omega
theorem IsCl.drop : ∀ {l : Cs} {cs : List T} (k : Nat) (hk : k < l.length), IsCl l cs → ∃ ex r, cs.drop (k * 5) = (T.s l[k].1 :: ex) ++ r ∧ IsEx l[k].2 ex ∧ IsCl (l.drop (k + 1)) r
  | [], cs, k, hk, h => by simp at hk
  | x :: xs, cs, 0, hk, h => by
    rw [IsCl] at h
    obtain ⟨c, r, rfl, h1, h2⟩ := h
    exact ⟨c, r, by simp, h1, by simpa using h2⟩
  | x :: xs, cs, k + 1, hk, h => by
    rw [IsCl] at h
    obtain ⟨c, r, rfl, h1, h2⟩ := h
    obtain ⟨c', r', e, h3, h4⟩ := IsCl.drop k (by simpa using hk) h2
    refine ⟨c', r', ?_, h3, by simpa using h4⟩
    have : (k + 1) * 5 = (T.s x.1 :: c).length + k * 5 := by rw [List.length_cons, h1.len]; omega
    rw [this, List.drop_append, Nat.add_sub_cancel_left, List.drop_eq_nil_of_le (by omega), e]; rfl
theorem IsCl.take : ∀ {l : Cs} {cs : List T} (k : Nat), IsCl l cs → IsCl (l.take k) (cs.take (k * 5))
  | l, cs, 0, h => by simp [IsCl]
  | [], cs, k + 1, h => by rw [IsCl] at h; subst h; simp [IsCl]
  | x :: xs, cs, k + 1, h => by
    rw [IsCl] at h
    obtain ⟨c, r, rfl, h1, h2⟩ := h
    have : (k + 1) * 5 = (T.s x.1 :: c).length + k * 5 := by rw [List.length_cons, h1.len]; omega
    rw [List.take_succ_cons, IsCl]
    refine ⟨c, r.take (k * 5), ?_, h1, IsCl.take k h2⟩
    rw [this, List.take_append, Nat.add_sub_cancel_left, List.take_of_length_le (by omega)]
theorem const_at {l : Cs} {a : T} {cc : List T} (h1 : IsSl a l.length cc) (h2 : IsCl l cc) (k : Nat) (hk : k < l.length) :
    ∃ b cb r, (∀ kk, iaV a (.i kk (k : Int)) 5 = some (.vp (.s l[k].1 :: .i .i64 l[k].2.op :: .i .i64 l[k].2.num :: .s l[k].2.name :: b :: r))) ∧ IsSl b l[k].2.args.length cb ∧ IsExs l[k].2.args cb ∧ IsEx l[k].2 [.i .i64 l[k].2.op, .i .i64 l[k].2.num, .s l[k].2.name, b] := by
  obtain ⟨c, r, e, h3, h4⟩ := IsCl.drop k hk h2
  obtain ⟨b, cb, rfl, h5, h6⟩ := h3.cells
  refine ⟨b, cb, r, fun kk => ?_, h5, h6, h3⟩
  rw [h1.ia (sz := 5) h2.len hk, e]; rfl
theorem idxC_lt : ∀ {l : Cs} {s : List Nat} {i : Nat}, idxC l s = some i → i < l.length
  | [], s, i, h => by simp [idxC] at h
  | c :: cs, s, i, h => by
    rw [idxC] at h
    split at h
    · simp at h; subst h; simp
    · cases hd : idxC cs s with
      | none => simp [hd] at h
      | some j =>
        simp [hd] at h
        have := idxC_lt hd
        subst h; simpa using this
theorem idxC_drop {l : Cs} {s : List Nat} : ∀ (k : Nat) , k ≤ l.length → (∀ j (h : j < k) (hl : j < l.length), l[j].1 ≠ s) → idxC l s = (idxC (l.drop k) s).map (· + k)
  | 0, _, _ => by simp
  | k + 1, hk, h => by
    have := idxC_drop (l := l) k (by omega) fun j hj hl => h j (by omega) hl
    have hlt : k < l.length := by omega
    rw [this, List.drop_eq_getElem_cons hlt, idxC, if_neg (h k (by omega) hlt)]
    cases idxC (l.drop (k + 1)) s with
    | none => rfl
    | some i => simp; omega
theorem idxC_take (l : Cs) (s : List Nat) : ∀ n, idxC (l.take n) s = match idxC l s with | some i => if i < n then some i else none | none => none := by
  induction l with
  | nil => intro n; simp [idxC]
  | cons c l ih =>
    intro n
    cases n with
    | zero =>
      simp only [List.take_zero, idxC]
      cases h : (if c.1 = s then some 0 else (idxC l s).map (· + 1)) <;> simp
    | succ n =>
      rw [List.take_succ_cons, idxC, idxC, ih n]
      by_cases h : c.1 = s
      · simp [h]
      · rw [if_neg h, if_neg h]
        cases idxC l s with
        | none => rfl
        | some i => simp only [Option.map_some]; by_cases hi : i < n <;> simp [hi]
def idxV (l : Cs) (s : List Nat) : Int := match idxC l s with | none => -1 | some i => (i : Int)
theorem idxV_some {l : Cs} {s : List Nat} {i : Nat} (h : idxC l s = some i) : idxV l s = (i : Int) := by unfold idxV; rw [h]
theorem idxV_none {l : Cs} {s : List Nat} (h : idxC l s = none) : idxV l s = -1 := by unfold idxV; rw [h]
theorem cidx1 (l : Cs) (s : List Nat) (a : T) (cc : List T) (ha : IsSl a l.length cc) (hc : IsCl l cc) (hs : l.length ≤ Lim) (o : Out) (ho : o = if idxC l s = none then .ext 0 else .ret) (fr : Fr) (lh : Tri Ent) (sh : List Ent) (h0 : getF fr 0 = a) (h1 : getF fr 1 = .s s) (h5 : getF fr 5 = .i .i64 0) :
    DC pE 20 (.loop c105_L1) ⟨fr, lh, sh⟩ = some (o, ⟨frL pE 20 c105_L1 fr lh sh, lhL pE 20 c105_L1 fr lh sh, shL pE 20 c105_L1 fr lh sh⟩) ∧
    ((∀ i, idxC l s = some i → getF (frL pE 20 c105_L1 fr lh sh) 4 = .i .i64 (i : Int)) ∧ lhL pE 20 c105_L1 fr lh sh = lh ∧ shL pE 20 c105_L1 fr lh sh = sh) := by
  refine loop_rule (P := fun fr lh' sh' => (∀ i, idxC l s = some i → getF fr 4 = .i .i64 (i : Int)) ∧ lh' = lh ∧ sh' = sh) (loop_inv (fun k st => ∃ fr : Fr, st = ⟨fr, lh, sh⟩ ∧ getF fr 0 = a ∧ getF fr 1 = .s s ∧ getF fr 5 = .i .i64 (k : Int) ∧ k ≤ l.length ∧ ∀ j (h : j < k) (hl : j < l.length), l[j].1 ≠ s) _ l.length ?_ ?_ 0 _ (Nat.zero_le _) ⟨fr, rfl, h0, h1, h5, Nat.zero_le _, by simp⟩)
  · rintro k _ hk ⟨fr, rfl, h0, h1, h5, hkl, hno⟩
    have hk' : (k : Int) < l.length := by omega
    have hw := wr_succL (k := k) (by omega)
    have hd := idxC_drop k hkl hno
    rw [List.drop_eq_getElem_cons hk, idxC] at hd
    obtain ⟨b, cb, r, hia, _, _, _⟩ := const_at ha hc k hk
    by_cases hcc : l[k].1 = s
    · right
      rw [if_pos hcc] at hd
      simp only [Option.map_some, Nat.zero_add] at hd
      simp (maxDischargeDepth := 6) only [qGO0, qGO1, qGO2, qGO3, qGO4, qGO5, reduceCtorEq, Nat.reduceLT, Nat.reduceEqDiff, c105_L1, h0, h1, h5, ha.lenI, hk', hia, hcc]
      refine ⟨_, _, (by simp : Out.ret ≠ .nrm), rfl, by rw [ho, hd]; rfl, fun i hi => ?_, rfl, rfl⟩
      rw [hd] at hi
      cases hi
      simp (maxDischargeDepth := 6) only [qGO2]
    · left
      simp (maxDischargeDepth := 6) only [qGO0, qGO1, qGO2, qGO3, qGO4, qGO5, reduceCtorEq, Nat.reduceLT, Nat.reduceEqDiff, c105_L1, h0, h1, h5, ha.lenI, hk', hia, hcc, hw]
      refine ⟨_, rfl, _, rfl, ?_, ?_, ?_, by omega, ?_⟩
      all_goals first | (simp (maxDischargeDepth := 6) only [qGO2, qGO4, reduceCtorEq, Nat.reduceEqDiff, h0, h1]; done) | skip
      intro j hj hl
      by_cases e : j = k
      · subst e; exact hcc
      · exact hno j (by omega) hl
  · rintro _ ⟨fr, rfl, h0, h1, h5, hkl, hno⟩
    have hd := idxC_drop l.length hkl hno
    rw [List.drop_length, idxC] at hd
    simp (maxDischargeDepth := 6) only [qGO0, qGO1, qGO2, qGO4, qGO5, reduceCtorEq, Nat.reduceLT, Nat.reduceEqDiff, c105_L1, h0, h5, ha.lenI, Int.lt_irrefl]
    refine ⟨_, _, (by simp : Out.ext 0 ≠ .nrm), rfl, by rw [ho, hd]; rfl, fun i hi => ?_, rfl, rfl⟩
    rw [hd] at hi; cases hi
theorem cidx_ev (l : Cs) (s : List Nat) (a : T) (cc : List T) (ha : IsSl a l.length cc) (hc : IsCl l cc) (hs : l.length ≤ Lim) : DCall pE 105 [a, .s s] [] = some (.i .i64 (idxV l s), []) := by
  have hL := fun fr lh sh => cidx1 l s a cc ha hc hs _ rfl fr lh sh
  rw [p_fun fn105 (by simp [c105])]
  cases hd : idxC l s with
  | none =>
    rw [idxV_none hd]
    simp only [hd, if_true, reduceCtorEq, false_implies, implies_true, true_and] at hL
    simp (maxDischargeDepth := 6) only [qF, qGO0, qGO1, qGO2, qGO3, qGO4, Int.reduceNeg, reduceCtorEq, Nat.reduceLT, Nat.reduceEqDiff, c105, hL]
  | some i =>
    rw [idxV_some hd]
    simp only [hd, reduceCtorEq, if_false, Option.some.injEq, forall_eq'] at hL
    simp (maxDischargeDepth := 6) only [qF, qGO0, qGO1, qGO2, qGO3, qGO4, Int.reduceNeg, reduceCtorEq, Nat.reduceLT, Nat.reduceEqDiff, c105, hL]
end Go.Proofs.YtfenhjpkomldcaaGreat
namespace Go.Proofs.YtfenhjpkomldcaaGreat
open Go Go.Ev
def preT (ts : List Int) : Except Int (List Int) → Except Int (List Int)
  | .error e => .error e
  | .ok us => .ok (ts ++ us)
def outE : Except Int (List Int) → Out
  | .error _ => .ret
  | .ok _ => .ext 0
theorem tyL_drop {cl : List Nat → Int × Int} {scope : Int} {xs : List Ex} {k : Nat} (hk : k < xs.length) : tyL cl scope (xs.drop k) = if (xs[k].ty cl scope).2 ≠ 0 then .error (xs[k].ty cl scope).2 else preT [(xs[k].ty cl scope).1] (tyL cl scope (xs.drop (k + 1))) := by
  rw [drop_args hk, tyL]
  split
  · rfl
  · cases tyL cl scope (xs.drop (k + 1)) <;> rfl
theorem preT_preT (a b : List Int) (x : Except Int (List Int)) : preT a (preT b x) = preT (a ++ b) x := by cases x <;> simp [preT]
theorem tyL_len {cl : List Nat → Int × Int} {scope : Int} : ∀ {xs : List Ex} {ts : List Int}, tyL cl scope xs = .ok ts → ts.length = xs.length
  | [], ts, h => by rw [tyL] at h; cases h; rfl
  | x :: xs, ts, h => by
    rw [tyL] at h
    split at h
    · cases h
    · cases hx : tyL cl scope xs with
      | error e => rw [hx] at h; cases h
      | ok us => rw [hx] at h; cases h; simp [tyL_len hx]
theorem OutS_one {lh : Tri Ent} {sh : List Ent} {v : T} {k n : Nat} {cs : List T} (h : OutS lh v k 1 n cs) (hn : n ≤ Lim) (x : T) (ex : Bool) :
    appW lh sh k 1 8 v (.sl [x] 1 ex) = some (nxV lh sh k 1 8 v (.sl [x] 1 ex), nxH lh sh k 1 8 v (.sl [x] 1 ex)) ∧ OutS (nxH lh sh k 1 8 v (.sl [x] 1 ex)) (nxV lh sh k 1 8 v (.sl [x] 1 ex)) k 1 (n + 1) (cs ++ [x]) ∧ ∀ j, j ≠ k → getO (nxH lh sh k 1 8 v (.sl [x] 1 ex)) j = getO lh j :=
  OutS.appW h (m := 0) (by rw [slC_sl]; rfl) rfl (by unfold roomy; unfold Lim at hn; omega)
section
variable (l : Cs) (tab : List (Int × Int)) (lT kT eT : T) (cl : List T) (hl : IsSl lT l.length cl) (hcl : IsCl l cl) (hlen : l.length ≤ Lim) (htab : tab.length = l.length) (hk : IsSl kT tab.length (ints (tab.map (·.1)))) (he : IsSl eT tab.length (ints (tab.map (·.2))))
def rtyP (scope : Int) (y : Ex) : Prop := ∀ cs : List T, IsEx y cs → y.nodes ≤ 100000 → y.wf = true → DCall pE 103 [.agg [kT, eT], lT, .i .i64 scope, .agg cs] [] = some (.tup [.i .i64 (y.ty (clk l tab) scope).1, .i .i64 (y.ty (clk l tab) scope).2], [])
include hl hk he
theorem rty1 (scope : Int) (xs : List Ex) (ih : ∀ y ∈ xs, rtyP l tab lT kT eT scope y) (a : T) (cc : List T) (ha : IsSl a xs.length cc) (hx : IsExs xs cc) (hn : nodesL xs ≤ 100000) (hwf : wfL xs = true) (op num : Int) (s : List Nat) (r : Except Int (List Int)) (hr : r = tyL (clk l tab) scope xs) (o : Out) (ho : o = outE r) (g g4 : Nat) (fr : Fr) (lh : Tri Ent) (sh : List Ent)
    (h1 : getF fr 1 = lT) (h2 : getF fr 2 = .i .i64 scope) (h4 : getF fr 4 = .ptr .L 4 g4 0) (h7 : getF fr 7 = .ptr .L 7 g 0) (h10 : getF fr 10 = .nilsl) (h11 : getF fr 11 = .i .i64 0) (o4 : getO lh 4 = ⟨g4, .cells [kT, eT] 0 true⟩) (o7 : getO lh 7 = ⟨g, .cells [.i .i64 op, .i .i64 num, .s s, a] 0 true⟩) :
    DC pE 80 (.loop c103_L1) ⟨fr, lh, sh⟩ = some (o, ⟨frL pE 80 c103_L1 fr lh sh, lhL pE 80 c103_L1 fr lh sh, shL pE 80 c103_L1 fr lh sh⟩) ∧
    ((∀ e, r = .error e → getF (frL pE 80 c103_L1 fr lh sh) 8 = .i .i64 0 ∧ getF (frL pE 80 c103_L1 fr lh sh) 9 = .i .i64 e) ∧ (∀ ts, r = .ok ts → OutS (lhL pE 80 c103_L1 fr lh sh) (getF (frL pE 80 c103_L1 fr lh sh) 10) 43 1 ts.length (ints ts)) ∧
      getO (lhL pE 80 c103_L1 fr lh sh) 4 = getO lh 4 ∧ getO (lhL pE 80 c103_L1 fr lh sh) 7 = getO lh 7 ∧ shL pE 80 c103_L1 fr lh sh = sh) := by
  refine loop_rule (P := fun fr' lh' sh' => (∀ e, r = .error e → getF fr' 8 = .i .i64 0 ∧ getF fr' 9 = .i .i64 e) ∧ (∀ ts, r = .ok ts → OutS lh' (getF fr' 10) 43 1 ts.length (ints ts)) ∧ getO lh' 4 = getO lh 4 ∧ getO lh' 7 = getO lh 7 ∧ sh' = sh)
    (loop_inv (fun k st => ∃ (fr : Fr) (lh1 : Tri Ent) (ts : List Int), st = ⟨fr, lh1, sh⟩ ∧ getF fr 1 = lT ∧ getF fr 2 = .i .i64 scope ∧ getF fr 4 = .ptr .L 4 g4 0 ∧ getF fr 7 = .ptr .L 7 g 0 ∧ getF fr 11 = .i .i64 (k : Int) ∧ getO lh1 4 = getO lh 4 ∧ getO lh1 7 = getO lh 7 ∧
      OutS lh1 (getF fr 10) 43 1 k (ints ts) ∧ ts.length = k ∧ r = preT ts (tyL (clk l tab) scope (xs.drop k))) _ xs.length ?_ ?_ 0 _ (Nat.zero_le _) ⟨fr, lh, [], rfl, h1, h2, h4, h7, h11, rfl, rfl, by rw [h10]; exact OutS.nil, rfl, by rw [hr, List.drop_zero]; cases tyL (clk l tab) scope xs <;> rfl⟩)
  · rintro k _ hkx ⟨fr, lh1, ts, rfl, h1, h2, h4, h7, h11, o4', o7', hO, hts, hty⟩
    rw [o4] at o4'
    rw [o7] at o7'
    have hk' : (k : Int) < xs.length := by omega
    have hlen' := nodesL_len xs
    have hyk := nodesL_mem (List.getElem_mem hkx)
    have hw := wr_succL (k := k) (lim_of (by omega))
    obtain ⟨b, cb, rr, hia, hb1, hb2, hb⟩ := arg_at ha hx k hkx
    have hcall := ih xs[k] (List.getElem_mem hkx) _ hb (by omega) (wfL_mem.1 hwf _ (List.getElem_mem hkx))
    rw [tyL_drop hkx] at hty
    by_cases hf : (xs[k].ty (clk l tab) scope).2 = 0
    · left
      rw [if_neg (by simp [hf]), preT_preT] at hty
      have hap := OutS_one hO (lim_of (by omega)) (sh := sh) (T.i .i64 (xs[k].ty (clk l tab) scope).1) true
      generalize xs[k].ty (clk l tab) scope = q at hcall hf hty hap
      obtain ⟨q1, q2⟩ := q
      simp only at hcall hf hty hap
      subst hf
      generalize h10 : getF fr 10 = v10 at hO hap
      simp (maxDischargeDepth := 6) only [qF, qGO0, qGO1, qGO2, qGO3, qGO4, qGO5, bslV, bslW, splice, fills, repl, Nat.reduceAdd, Nat.reduceLT, Nat.reduceLeDiff, Nat.reduceEqDiff, qDR0, getL, c103_L1, h1, h2, h4, h7, h10, h11, o4', o7', ha.lenI, hk', hia, hw, hcall, dc103, dd103, hb1.froz1, hk.froz1, he.froz1, hl.froz, hO.notS, hap.1]
      refine ⟨_, rfl, _, _, ts ++ [q1], rfl, ?_, ?_, ?_, ?_, ?_, ?_, ?_, ?_, by simp [hts], hty⟩
      all_goals first | (simp (maxDischargeDepth := 6) only [qGO2, qGO4, Nat.reduceEqDiff, h1, h2, h4, h7]; done) | skip
      · rw [hap.2.2 4 (by decide), o4', o4]
      · rw [hap.2.2 7 (by decide), o7', o7]
      · simp (maxDischargeDepth := 6) only [qGO2, qGO4, Nat.reduceEqDiff]
        rw [show ints (ts ++ [q1]) = ints ts ++ [.i .i64 q1] by simp [ints]]
        exact hap.2.1
    · right
      rw [if_pos (by simp [hf])] at hty
      generalize xs[k].ty (clk l tab) scope = q at hcall hf hty
      obtain ⟨q1, q2⟩ := q
      simp only at hcall hf hty
      simp (maxDischargeDepth := 6) only [qF, qGO0, qGO1, qGO2, qGO3, qGO4, qGO5, Nat.reduceAdd, Nat.reduceLT, Nat.reduceLeDiff, Nat.reduceEqDiff, qDR0, getL, c103_L1, h1, h2, h4, h7, h11, o4', o7', ha.lenI, hk', hia, hcall, dc103, dd103, hb1.froz1, hk.froz1, he.froz1, hl.froz, hf]
      refine ⟨_, _, (by simp : Out.ret ≠ .nrm), rfl, by rw [ho, hty]; rfl, fun e he => ?_, fun t ht => (by rw [hty] at ht; cases ht), by rw [o4', o4], by rw [o7', o7], rfl⟩
      rw [hty] at he
      cases he
      exact ⟨by simp (maxDischargeDepth := 6) only [qGO2, qGO4, Nat.reduceEqDiff], by simp (maxDischargeDepth := 6) only [qGO2]⟩
  · rintro _ ⟨fr, lh1, ts, rfl, h1, h2, h4, h7, h11, o4', o7', hO, hts, hty⟩
    rw [o4] at o4'
    rw [o7] at o7'
    rw [List.drop_length, tyL, preT, List.append_nil] at hty
    simp (maxDischargeDepth := 6) only [qGO0, qGO1, qGO2, qGO3, qGO4, qGO5, Nat.reduceLT, Nat.reduceEqDiff, c103_L1, h7, h11, o7', ha.lenI, Int.lt_irrefl]
    refine ⟨_, _, (by simp : Out.ext 0 ≠ .nrm), rfl, by rw [ho, hty]; rfl, fun e he => (by rw [hty] at he; cases he), fun t ht => ?_, by rw [o4', o4], by rw [o7', o7], rfl⟩
    rw [hty] at ht
    cases ht
    simp (maxDischargeDepth := 6) only [qGO2, qGO4, Nat.reduceEqDiff]
    rw [hts]; exact hO
include hcl hlen htab
theorem rty_ev (scope : Int) (x : Ex) : rtyP l tab lT kT eT scope x := by
  induction x using Ex.ind with
  | h x ih =>
    intro cs hx hn hwf
    obtain ⟨a, cc, rfl, ha, hxs⟩ := hx.cells
    rw [p_fun fn103 (by simp [c103]), Ex.ty_eq]
    have hnd := x.nodes_eq
    rw [Ex.wf_eq, Bool.and_eq_true] at hwf
    obtain ⟨hno, hwl⟩ := hwf
    have hL := fun fr lh sh => rty1 l tab lT kT eT cl hl hk he scope x.args (fun y hy => ih y hy) a cc ha hxs (by omega) hwl x.op x.num x.name _ rfl _ rfl 1 1 fr lh sh
    have hat := rattr_ev scope x.name
    have hci := cidx_ev l x.name lT cl hl hcl hlen
    have hll := nodesL_len x.args
    have hlim : x.args.length ≤ Lim := lim_of (by omega)
    simp only [nodeOk, Bool.and_eq_true, decide_eq_true_eq] at hno
    obtain ⟨hop1, hop2, har, _, _⟩ := hno
    by_cases h6 : x.op = 6
    · rw [if_pos h6]
      have hnil : x.args = [] := by
        rw [h6] at har
        simp [arOk] at har
        exact har
      rw [hnil] at hL
      simp only [tyL, outE, reduceCtorEq, false_implies, implies_true, Except.ok.injEq, forall_eq', true_and] at hL
      unfold attrE at hat
      by_cases hz : attrK scope x.name = 0
      · rw [if_neg (by simp [hz])]
        rw [if_pos hz, hz] at hat
        cases hi : idxC l x.name with
        | none =>
          rw [idxV_none hi] at hci
          have : clk l tab x.name = (0, 6) := by unfold clk; rw [hi]
          rw [this]
          simp (maxDischargeDepth := 6) only [qF, qGO0, qGO1, qGO2, qGO3, qGO4, qGO5, Int.reduceNeg, Nat.reduceShiftRight, Nat.reduceMod, Nat.reduceAdd, reduceCtorEq, Nat.reduceLT, Nat.reduceEqDiff, Int.reduceLT, Int.reduceEq, c103, c103_L1_w, h6, hL, hat, dc85, hci, dc105, hl.froz]
        | some i =>
          rw [idxV_some hi] at hci
          have hlt := idxC_lt hi
          have hneg : ¬ (i : Int) < 0 := by omega
          have e1 := fun kk => int_at (ts := tab.map (·.1)) (by simpa using hk) (k := i) (by simp; omega) kk
          have e2 := fun kk => int_at (ts := tab.map (·.2)) (by simpa using he) (k := i) (by simp; omega) kk
          have : clk l tab x.name = tab[i]'(by omega) := by unfold clk; rw [hi]; simp [List.getD_eq_getElem?_getD, List.getElem?_eq_getElem (show i < tab.length by omega)]
          rw [this]
          simp only [List.getElem_map] at e1 e2
          simp (maxDischargeDepth := 6) only [qF, qGO0, qGO1, qGO2, qGO3, qGO4, qGO5, Nat.reduceShiftRight, Nat.reduceMod, backD, calmOp, Nat.reduceAdd, reduceCtorEq, Nat.reduceLT, Nat.reduceEqDiff, Int.reduceEq, c103, c103_L1_w, h6, hL, hat, dc85, hci, dc105, hl.froz, hneg, e1, e2]
      · rw [if_pos hz]
        rw [if_neg hz] at hat
        simp (maxDischargeDepth := 6) only [qF, qGO0, qGO1, qGO2, qGO3, qGO4, qGO5, Nat.reduceShiftRight, Nat.reduceMod, Nat.reduceAdd, reduceCtorEq, Nat.reduceLT, Nat.reduceEqDiff, c103, c103_L1_w, h6, hL, hat, dc85]
    · rw [if_neg h6]
      cases hr : tyL (clk l tab) scope x.args with
      | error e =>
        simp only [hr, outE, Except.error.injEq, reduceCtorEq, false_implies, implies_true, forall_eq', true_and] at hL
        simp (maxDischargeDepth := 6) only [qF, qGO0, qGO1, qGO2, qGO3, qGO4, Nat.reduceAdd, reduceCtorEq, Nat.reduceLT, Nat.reduceEqDiff, c103, hL]
      | ok ts =>
        have hlen2 := tyL_len hr
        simp only [hr, outE, Except.ok.injEq, reduceCtorEq, false_implies, implies_true, forall_eq', true_and] at hL
        have hO := fun fr lh sh h1 h2 h4 h7 h10 h11 o4 o7 => OutS.fzV (sh := sh) (keep := false) (hL fr lh sh h1 h2 h4 h7 h10 h11 o4 o7).2.1
        have hres := rresult_ev x.op ts (outT ts.length (ints ts)) (outT_isl (fun h0 => by rw [List.length_eq_zero_iff.1 h0]; rfl)) (by rw [hlen2]; exact hlim) hop1 hop2 h6 (by rw [hlen2]; exact har)
        by_cases hz : resK x.op ts = 0
        · rw [hz] at hres
          simp (maxDischargeDepth := 6) only [qF, qGO0, qGO1, qGO2, qGO3, qGO4, qGO5, Nat.reduceShiftRight, Nat.reduceMod, Nat.reduceAdd, reduceCtorEq, Nat.reduceLT, Nat.reduceEqDiff, c103, c103_L1_w, h6, hL, hO, hres, dp157, hz]
        · simp (maxDischargeDepth := 6) only [qF, qGO0, qGO1, qGO2, qGO3, qGO4, qGO5, Nat.reduceShiftRight, Nat.reduceMod, Nat.reduceAdd, reduceCtorEq, Nat.reduceLT, Nat.reduceEqDiff, c103, c103_L1_w, h6, hL, hO, hres, dp157, hz]
end
end Go.Proofs.YtfenhjpkomldcaaGreat
