/- The built expressions: a leaf. Conditions: the theorems' own. -/
import Derived.Test.YtfenhjpkomldcaaGreatM13
import Derived.KernelRfl
set_option maxRecDepth 100000
set_option linter.unusedSimpArgs false
set_option linter.unusedVariables false
set_option linter.unusedSectionVars false
set_option maxHeartbeats 16000000
namespace Go.Proofs.YtfenhjpkomldcaaGreat
open Go Go.Ev
theorem name_is (s : List Nat) : IsEx (.mk 6 0 s []) [.i .i64 6, .i .i64 0, .s s, .nilsl] := IsEx.of (x := .mk 6 0 s []) nil_is IsExs.nil
theorem name_sm (s : List Nat) (h : s.length ≤ 100) : (Ex.mk 6 0 s []).sm := by rw [Ex.sm_eq]; exact ⟨lim_of (show s.length ≤ 100000 by omega), trivial⟩
theorem str_part {ns : List (List Nat)} {r : Nat} (h : r < ns.length) : Ev.part (ns.map T.s) r 1 false = some (T.s ns[r]) := by
  unfold Ev.part
  have hl : (List.map T.s ns).length = ns.length := List.length_map ..
  simp [h, hl]
section
variable (xs : List Int) (lT : T) (hl : IsSl lT xs.length (ints xs)) (scope : Int) (hsc : scope = 1 ∨ scope = 2 ∨ scope = 3)
include hl hsc
theorem leaf_ev (kind : Int) (a : Nat) (ha : a < 900000) : ∃ y cs a', DCall pE 94 [.ptr .S 0 1 0, .i .i64 scope, .i .i64 kind] (srS lT a) = some (.agg cs, srS lT a') ∧ IsEx y cs ∧ y.nodes = 1 ∧ y.sm ∧ a' ≤ a + 3 := by
  obtain ⟨r1, hr1, hn1⟩ := next_ev xs lT hl a (by omega) 3 (by decide)
  have tail : ∀ b, b ≤ a + 2 → ∃ r2 r8 r5 r22 : Nat, (r2 : Int) < 4 ∧ r8 < 8 ∧ r5 < 5 ∧ r22 < 2 ∧ DCall pE 93 [.ptr .S 0 1 0, .i .i64 4] (srS lT b) = some (.i .i64 (r2 : Int), srS lT (b + 1)) ∧ DCall pE 93 [.ptr .S 0 1 0, .i .i64 8] (srS lT (b + 1)) = some (.i .i64 (r8 : Int), srS lT (b + 1 + 1)) ∧ DCall pE 93 [.ptr .S 0 1 0, .i .i64 5] (srS lT b) = some (.i .i64 (r5 : Int), srS lT (b + 1)) ∧ DCall pE 93 [.ptr .S 0 1 0, .i .i64 2] (srS lT b) = some (.i .i64 (r22 : Int), srS lT (b + 1)) := by
    intro b hb
    obtain ⟨r2, h2, n2⟩ := next_ev xs lT hl b (by omega) 4 (by decide)
    obtain ⟨r8, h8, n8⟩ := next_ev xs lT hl (b + 1) (by omega) 8 (by decide)
    obtain ⟨r5, h5, n5⟩ := next_ev xs lT hl b (by omega) 5 (by decide)
    obtain ⟨r22, h22, n22⟩ := next_ev xs lT hl b (by omega) 2 (by decide)
    exact ⟨r2, r8, r5, r22, h2, by omega, by omega, by omega, n2, n8, n5, n22⟩
  rw [p_fun fn94 (by simp [c94])]
  have t1 : ([T.i .i64 0, T.i .i64 1, T.i .i64 1, T.i .i64 2, T.i .i64 3, T.i .i64 5, T.i .i64 60, T.i .i64 1099511627776] : List T) = ints [0, 1, 1, 2, 3, 5, 60, 1099511627776] := rfl
  have hia1 := fun (r : Nat) (hr : r < 8) ex kk => int_at (a := .sl [T.i .i64 0, T.i .i64 1, T.i .i64 1, T.i .i64 2, T.i .i64 3, T.i .i64 5, T.i .i64 60, T.i .i64 1099511627776] 8 ex) (ts := [0, 1, 1, 2, 3, 5, 60, 1099511627776]) (Or.inr ⟨ex, rfl⟩) (k := r) hr kk
  have hia2 := fun (r : Nat) (hr : r < 8) ex kk => int_at (a := .sl [T.i .i64 0, T.i .i64 0, T.i .i64 15, T.i .i64 60, T.i .i64 90, T.i .i64 600, T.i .i64 780, T.i .i64 1099511627776] 8 ex) (ts := [0, 0, 15, 60, 90, 600, 780, 1099511627776]) (Or.inr ⟨ex, rfl⟩) (k := r) hr kk
  have hia3 := fun (r : Nat) (hr : r < 5) ex kk => int_at (a := .sl [T.i .i64 0, T.i .i64 300, T.i .i64 720, T.i .i64 1320, T.i .i64 1439] 5 ex) (ts := [0, 300, 720, 1320, 1439]) (Or.inr ⟨ex, rfl⟩) (k := r) hr kk
  have hia4 := fun (r : Nat) (hr : r < 2) ex kk => int_at (a := .sl [T.i .i64 4, T.i .i64 5] 2 ex) (ts := [4, 5]) (Or.inr ⟨ex, rfl⟩) (k := r) hr kk
  by_cases hp : (0 : Int) < (r1 : Int)
  · obtain ⟨ns, A, s, hat, hA, hns, hnn⟩ := attrs_ev scope hsc
    have hL := fun fr lh sh h1 h2 h7 h8 h9 o6 => leaf1 scope kind ns A hA hns ⟨1, .cells [.i .i64 0, .i .i64 0, .s [], .nilsl] 0 true⟩ fr lh sh h1 h2 h7 h8 h9 o6
    have hlen := fun fr lh sh h1 h2 h7 h8 h9 o6 => (hL fr lh sh h1 h2 h7 h8 h9 o6).2.1.lenI
    by_cases hz : (nmsK scope kind ns).length = 0
    · obtain ⟨r2, r8, r5, r22, q2, q8, q5, q22, n2, n8, n5, n22⟩ := tail (a + 1) (by omega)
      rw [hz] at hlen
      by_cases k1 : kind = 1
      · subst k1
        by_cases hr2 : (r2 : Int) = 0
        · rw [hr2] at n2
          simp (maxDischargeDepth := 6) only [qF, qGO0, qGO1, qGO2, qGO3, qGO4, qGO5, Nat.reduceShiftRight, Nat.reduceMod, buildV, bslV, bslW, splice, fills, repl, Nat.reduceAdd, reduceCtorEq, Nat.reduceLT, Nat.reduceLeDiff, Nat.reduceEqDiff, Int.reduceEq, qKP0, c94, c94_L1_w, hn1, dc93, hp, hat, dc84, hL, hlen, n2, Int.lt_irrefl]
          exact ⟨_, _, _, rfl, name_is _, rfl, name_sm _ (by decide), by omega⟩
        · have hia := hia1 r8 q8
          simp (maxDischargeDepth := 6) only [qF, qGO0, qGO1, qGO2, qGO3, qGO4, qGO5, Nat.reduceShiftRight, Nat.reduceMod, buildV, bslV, bslW, splice, fills, repl, Nat.reduceAdd, reduceCtorEq, Nat.reduceLT, Nat.reduceLeDiff, Nat.reduceEqDiff, Int.reduceEq, qKP0, c94, c94_L1_w, hn1, dc93, hp, hat, dc84, hL, hlen, n2, hr2, n8, hia, Int.lt_irrefl]
          exact ⟨_, _, _, rfl, leaf_is _ _ _ nil_is, rfl, leaf_sm _ _, by omega⟩
      by_cases k2 : kind = 2
      · subst k2
        by_cases hr2 : (r2 : Int) = 0
        · rw [hr2] at n2
          simp (maxDischargeDepth := 6) only [qF, qGO0, qGO1, qGO2, qGO3, qGO4, qGO5, Nat.reduceShiftRight, Nat.reduceMod, buildV, bslV, bslW, splice, fills, repl, Nat.reduceAdd, reduceCtorEq, Nat.reduceLT, Nat.reduceLeDiff, Nat.reduceEqDiff, Int.reduceEq, qKP0, c94, c94_L1_w, hn1, dc93, hp, hat, dc84, hL, hlen, n2, Int.lt_irrefl]
          exact ⟨_, _, _, rfl, name_is _, rfl, name_sm _ (by decide), by omega⟩
        · have hia := hia2 r8 q8
          simp (maxDischargeDepth := 6) only [qF, qGO0, qGO1, qGO2, qGO3, qGO4, qGO5, Nat.reduceShiftRight, Nat.reduceMod, buildV, bslV, bslW, splice, fills, repl, Nat.reduceAdd, reduceCtorEq, Nat.reduceLT, Nat.reduceLeDiff, Nat.reduceEqDiff, Int.reduceEq, qKP0, c94, c94_L1_w, hn1, dc93, hp, hat, dc84, hL, hlen, n2, hr2, n8, hia, Int.lt_irrefl]
          exact ⟨_, _, _, rfl, leaf_is _ _ _ nil_is, rfl, leaf_sm _ _, by omega⟩
      by_cases k3 : kind = 3
      · subst k3
        have hia := hia3 r5 q5
        simp (maxDischargeDepth := 6) only [qF, qGO0, qGO1, qGO2, qGO3, qGO4, qGO5, Nat.reduceShiftRight, Nat.reduceMod, buildV, bslV, bslW, splice, fills, repl, Nat.reduceAdd, reduceCtorEq, Nat.reduceLT, Nat.reduceLeDiff, Nat.reduceEqDiff, Int.reduceEq, qKP0, c94, c94_L1_w, hn1, dc93, hp, hat, dc84, hL, hlen, n5, hia, Int.lt_irrefl]
        exact ⟨_, _, _, rfl, leaf_is _ _ _ nil_is, rfl, leaf_sm _ _, by omega⟩
      · have hia := hia4 r22 q22
        simp (maxDischargeDepth := 6) only [qF, qGO0, qGO1, qGO2, qGO3, qGO4, qGO5, Nat.reduceShiftRight, Nat.reduceMod, buildV, bslV, bslW, splice, fills, repl, Nat.reduceAdd, reduceCtorEq, Nat.reduceLT, Nat.reduceLeDiff, Nat.reduceEqDiff, qKP0, c94, c94_L1_w, hn1, dc93, hp, hat, dc84, hL, hlen, k1, k2, k3, n22, hia, Int.lt_irrefl]
        exact ⟨_, _, _, rfl, leaf_is _ _ _ nil_is, rfl, leaf_sm _ _, by omega⟩
    · have hpos : (0 : Int) < ((nmsK scope kind ns).length : Int) := by omega
      obtain ⟨r2, hr2, hn2⟩ := next_ev xs lT hl (a + 1) (by omega) ((nmsK scope kind ns).length : Int) hpos
      have hr2' : r2 < (nmsK scope kind ns).length := by omega
      have hnm := fun fr lh sh h1 h2 h7 h8 h9 o6 => outS_names (hL fr lh sh h1 h2 h7 h8 h9 o6).2.1 hz
      have hsm : (nmsK scope kind ns)[r2].length ≤ 100 := hnn _ (List.mem_filter.1 (List.getElem_mem hr2')).1
      have hpt := str_part hr2'
      simp (maxDischargeDepth := 6) only [qF, qGO0, qGO1, qGO2, qGO3, qGO4, qGO5, Nat.reduceShiftRight, Nat.reduceMod, buildV, splice, fills, Nat.reduceAdd, reduceCtorEq, Nat.reduceLT, Nat.reduceLeDiff, Nat.reduceEqDiff, qKP0, c94, c94_L1_w, hn1, dc93, hp, hat, dc84, hL, hpos, hn2, hnm, hr2', hpt]
      exact ⟨_, _, _, rfl, name_is _, rfl, name_sm _ hsm, by omega⟩
  · obtain ⟨r2, r8, r5, r22, q2, q8, q5, q22, n2, n8, n5, n22⟩ := tail (a + 1) (by omega)
    by_cases k1 : kind = 1
    · subst k1
      by_cases hr2 : (r2 : Int) = 0
      · rw [hr2] at n2
        simp (maxDischargeDepth := 6) only [qF, qGO0, qGO1, qGO2, qGO3, qGO4, qGO5, buildV, bslV, bslW, splice, fills, repl, Nat.reduceAdd, reduceCtorEq, Nat.reduceLT, Nat.reduceLeDiff, Nat.reduceEqDiff, Int.reduceEq, qKP0, c94, hn1, dc93, hp, n2]
        exact ⟨_, _, _, rfl, name_is _, rfl, name_sm _ (by decide), by omega⟩
      · have hia := hia1 r8 q8
        simp (maxDischargeDepth := 6) only [qF, qGO0, qGO1, qGO2, qGO3, qGO4, qGO5, buildV, bslV, bslW, splice, fills, repl, Nat.reduceAdd, reduceCtorEq, Nat.reduceLT, Nat.reduceLeDiff, Nat.reduceEqDiff, Int.reduceEq, qKP0, c94, hn1, dc93, hp, n2, hr2, n8, hia]
        exact ⟨_, _, _, rfl, leaf_is _ _ _ nil_is, rfl, leaf_sm _ _, by omega⟩
    by_cases k2 : kind = 2
    · subst k2
      by_cases hr2 : (r2 : Int) = 0
      · rw [hr2] at n2
        simp (maxDischargeDepth := 6) only [qF, qGO0, qGO1, qGO2, qGO3, qGO4, qGO5, buildV, bslV, bslW, splice, fills, repl, Nat.reduceAdd, reduceCtorEq, Nat.reduceLT, Nat.reduceLeDiff, Nat.reduceEqDiff, Int.reduceEq, qKP0, c94, hn1, dc93, hp, n2]
        exact ⟨_, _, _, rfl, name_is _, rfl, name_sm _ (by decide), by omega⟩
      · have hia := hia2 r8 q8
        simp (maxDischargeDepth := 6) only [qF, qGO0, qGO1, qGO2, qGO3, qGO4, qGO5, buildV, bslV, bslW, splice, fills, repl, Nat.reduceAdd, reduceCtorEq, Nat.reduceLT, Nat.reduceLeDiff, Nat.reduceEqDiff, Int.reduceEq, qKP0, c94, hn1, dc93, hp, n2, hr2, n8, hia]
        exact ⟨_, _, _, rfl, leaf_is _ _ _ nil_is, rfl, leaf_sm _ _, by omega⟩
    by_cases k3 : kind = 3
    · subst k3
      have hia := hia3 r5 q5
      simp (maxDischargeDepth := 6) only [qF, qGO0, qGO1, qGO2, qGO3, qGO4, qGO5, buildV, bslV, bslW, splice, fills, repl, Nat.reduceAdd, reduceCtorEq, Nat.reduceLT, Nat.reduceLeDiff, Nat.reduceEqDiff, Int.reduceEq, qKP0, c94, hn1, dc93, hp, n5, hia]
      exact ⟨_, _, _, rfl, leaf_is _ _ _ nil_is, rfl, leaf_sm _ _, by omega⟩
    · have hia := hia4 r22 q22
      simp (maxDischargeDepth := 6) only [qF, qGO0, qGO1, qGO2, qGO3, qGO4, qGO5, buildV, bslV, bslW, splice, fills, repl, Nat.reduceAdd, reduceCtorEq, Nat.reduceLT, Nat.reduceLeDiff, Nat.reduceEqDiff, qKP0, c94, hn1, dc93, hp, k1, k2, k3, n22, hia]
      exact ⟨_, _, _, rfl, leaf_is _ _ _ nil_is, rfl, leaf_sm _ _, by omega⟩
end
end Go.Proofs.YtfenhjpkomldcaaGreat
