/- Expressions without attributes, compiled. Literals. Simplified forms keep their types: plain. Conditions: the theorems' own. -/
import Derived.Test.YtfenhjpkomldcaaGreatM7
import Derived.KernelRfl
set_option maxRecDepth 100000
set_option linter.unusedSimpArgs false
set_option linter.unusedVariables false
set_option linter.unusedSectionVars false
set_option maxHeartbeats 16000000
namespace Go.Proofs.YtfenhjpkomldcaaGreat
open Go Go.Ev
mutual
def comp0 : Ex → Fm
  | .mk op num _ args => if op = 1 ∨ op = 2 ∨ op = 3 then .mk 1 num [] else if op = 4 then .mk 1 1 [] else if op = 5 then .mk 1 0 [] else .mk op 0 (comp0L args)
def comp0L : List Ex → List Fm
  | [] => []
  | x :: xs => comp0 x :: comp0L xs
end
theorem comp0_eq (x : Ex) : comp0 x = if x.op = 1 ∨ x.op = 2 ∨ x.op = 3 then .mk 1 x.num [] else if x.op = 4 then .mk 1 1 [] else if x.op = 5 then .mk 1 0 [] else .mk x.op 0 (comp0L x.args) := by obtain ⟨_, _, _, _⟩ := x; rw [comp0]; rfl
theorem comp0L_map : ∀ xs, comp0L xs = xs.map comp0
  | [] => rfl
  | x :: xs => by rw [comp0L, comp0L_map xs]; rfl
mutual
def Ex.na : Ex → Prop
  | .mk op _ _ args => op ≠ 6 ∧ naL args
def naL : List Ex → Prop
  | [] => True
  | x :: xs => x.na ∧ naL xs
end
theorem Ex.na_eq (x : Ex) : x.na ↔ (x.op ≠ 6 ∧ naL x.args) := by obtain ⟨_, _, _, _⟩ := x; rw [Ex.na]; rfl
theorem naL_mem : ∀ {xs : List Ex}, naL xs ↔ ∀ x ∈ xs, x.na
  | [] => by simp [naL]
  | x :: xs => by rw [naL, naL_mem (xs := xs)]; simp
section
variable (kT : T) (hkT : froz kT = true) (scope : Int)
def cmpP (y : Ex) : Prop := ∀ cs : List T, IsEx y cs → y.nodes ≤ 100000 → y.na → ∃ cf, DCall pE 91 [kT, .i .i64 scope, .agg cs] [] = some (.agg cf, []) ∧ IsFm (comp0 y) cf
include hkT
theorem cmp1 (xs : List Ex) (ih : ∀ y ∈ xs, cmpP kT scope y) (a : T) (cc : List T) (ha : IsSl a xs.length cc) (hx : IsExs xs cc) (hn : nodesL xs ≤ 100000) (hna : naL xs) (op : T) (g g9 : Nat) (c6 : Ent) (fr : Fr) (lh : Tri Ent) (sh : List Ent)
    (h0 : getF fr 0 = kT) (h1 : getF fr 1 = .i .i64 scope) (h9 : getF fr 9 = .ptr .L 9 g9 0) (h63 : getF fr 63 = a) (h64 : getF fr 64 = .i .i64 (xs.length : Int)) (h65 : getF fr 65 = .i .i64 0) (o6 : getO lh 6 = c6) (o9 : getO lh 9 = ⟨g9, .cells [op, .i .i64 0, .isl .L 60 g 0 xs.length 3] 0 true⟩) (o60 : getO lh 60 = ⟨g, .cells (repl [.i .i64 0, .i .i64 0, .nilsl] xs.length) 0 false⟩) :
    DC pE 80 (.loop c91_L1) ⟨fr, lh, sh⟩ = some (.ext 1, ⟨frL pE 80 c91_L1 fr lh sh, lhL pE 80 c91_L1 fr lh sh, shL pE 80 c91_L1 fr lh sh⟩) ∧
    (getO (lhL pE 80 c91_L1 fr lh sh) 6 = c6 ∧ getO (lhL pE 80 c91_L1 fr lh sh) 9 = ⟨g9, .cells [op, .i .i64 0, .isl .L 60 g 0 xs.length 3] 0 true⟩ ∧ (∃ cs, getO (lhL pE 80 c91_L1 fr lh sh) 60 = ⟨g, .cells cs 0 false⟩ ∧ IsFms (comp0L xs) cs) ∧ shL pE 80 c91_L1 fr lh sh = sh) := by
  refine loop_rule (P := fun fr' lh' sh' => getO lh' 6 = c6 ∧ getO lh' 9 = ⟨g9, .cells [op, .i .i64 0, .isl .L 60 g 0 xs.length 3] 0 true⟩ ∧ (∃ cs, getO lh' 60 = ⟨g, .cells cs 0 false⟩ ∧ IsFms (comp0L xs) cs) ∧ sh' = sh)
    (loop_inv (fun k st => ∃ (fr : Fr) (lh1 : Tri Ent) (A : List T), st = ⟨fr, lh1, sh⟩ ∧ getF fr 0 = kT ∧ getF fr 1 = .i .i64 scope ∧ getF fr 9 = .ptr .L 9 g9 0 ∧ getF fr 63 = a ∧ getF fr 64 = .i .i64 (xs.length : Int) ∧ getF fr 65 = .i .i64 (k : Int) ∧ getO lh1 6 = c6 ∧ getO lh1 9 = ⟨g9, .cells [op, .i .i64 0, .isl .L 60 g 0 xs.length 3] 0 true⟩ ∧
      getO lh1 60 = ⟨g, .cells (A ++ repl [.i .i64 0, .i .i64 0, .nilsl] (xs.length - k)) 0 false⟩ ∧ IsFms (comp0L (xs.take k)) A) _ xs.length ?_ ?_ 0 _ (Nat.zero_le _) ⟨fr, lh, [], rfl, h0, h1, h9, h63, h64, h65, o6, o9, by rw [o60]; rfl, by rw [List.take_zero, comp0L]; exact IsFms.nil⟩)
  · rintro k _ hk ⟨fr, lh1, A, rfl, h0, h1, h9, h63, h64, h65, o6, o9, o60, hA⟩
    left
    have hk' : (k : Int) < xs.length := by omega
    have hlen' := nodesL_len xs
    have hyk := nodesL_mem (List.getElem_mem hk)
    have hw := wr_succL (k := k) (lim_of (by omega))
    obtain ⟨b, cb, rr, hia, hb1, hb2, hb⟩ := arg_at ha hx k hk
    obtain ⟨cf, hcall, hcf⟩ := ih xs[k] (List.getElem_mem hk) _ hb (by omega) (naL_mem.1 hna _ (List.getElem_mem hk))
    obtain ⟨fa, fc, rfl, hf1, hf2⟩ := hcf.cells
    have hAl : A.length = k * 3 := by rw [hA.len, comp0L_map]; simp; omega
    have hrl : (A ++ repl [T.i .i64 0, T.i .i64 0, T.nilsl] (xs.length - k)).length = xs.length * 3 := by rw [List.length_append, repl_len, hAl]; simp; omega
    have hsp : splice (A ++ repl [T.i .i64 0, T.i .i64 0, T.nilsl] (xs.length - k)) (k * 3) [.i .i64 (comp0 xs[k]).op, .i .i64 (comp0 xs[k]).num, fa] = (A ++ [.i .i64 (comp0 xs[k]).op, .i .i64 (comp0 xs[k]).num, fa]) ++ repl [T.i .i64 0, T.i .i64 0, T.nilsl] (xs.length - (k + 1)) := by
      rw [show xs.length - k = (xs.length - (k + 1)) + 1 by omega, repl_succ, splice_row A [T.i .i64 0, T.i .i64 0, T.nilsl] _ [T.i .i64 (comp0 xs[k]).op, T.i .i64 (comp0 xs[k]).num, fa] (k * 3) hAl rfl]
    have hkl1 : k * 3 + 3 ≤ xs.length * 3 := by omega
    simp (maxDischargeDepth := 6) only [qF, qGO0, qGO1, qGO2, qGO3, qGO4, qGO5, splice, Nat.reduceAdd, reduceCtorEq, Nat.reduceLT, Nat.reduceLeDiff, Nat.reduceEqDiff, qDR0, getL, c91_L1, h0, h1, h9, h63, h64, h65, o9, o60, hk', hia, hw, hcall, dc91, dd91, hkT, hb1.froz1, hf1.froz1, hk, hrl, hsp, hkl1]
    refine ⟨_, rfl, _, _, A ++ [.i .i64 (comp0 xs[k]).op, .i .i64 (comp0 xs[k]).num, fa], rfl, ?_, ?_, ?_, ?_, ?_, ?_, ?_, ?_, ?_, ?_⟩
    all_goals first | (simp (maxDischargeDepth := 6) only [qGO2, qGO4, reduceCtorEq, Nat.reduceEqDiff, h0, h1, h9, h63, h64, o6, o9]; done) | skip
    rw [List.take_succ_eq_append_getElem hk, comp0L_map, List.map_append, ← comp0L_map]
    exact IsFms.append hA (IsFms.one hcf)
  · rintro _ ⟨fr, lh1, A, rfl, h0, h1, h9, h63, h64, h65, o6, o9, o60, hA⟩
    rw [Nat.sub_self, show repl [T.i .i64 0, T.i .i64 0, T.nilsl] 0 = [] from rfl, List.append_nil] at o60
    rw [List.take_length] at hA
    simp (maxDischargeDepth := 6) only [qGO0, qGO1, qGO2, qGO4, qGO5, Nat.reduceLT, c91_L1, h64, h65, Int.lt_irrefl]
    exact ⟨_, _, (by simp : Out.ext 1 ≠ .nrm), rfl, rfl, o6, o9, ⟨A, o60, hA⟩, rfl⟩
theorem cmp_ev (x : Ex) : cmpP kT scope x := by
  induction x using Ex.ind with
  | h x ih =>
    intro cs hx hn hna
    obtain ⟨a, cc, rfl, ha, hxs⟩ := hx.cells
    rw [p_fun fn91 (by simp [c91]), comp0_eq]
    obtain ⟨hn6, hnal⟩ := (Ex.na_eq x).1 hna
    have hnd := x.nodes_eq
    by_cases h1 : x.op = 1
    · rw [if_pos (.inl h1)]
      simp (maxDischargeDepth := 6) only [qF, qGO0, qGO1, qGO2, qGO3, qGO4, qGO5, buildV, splice, fills, Nat.reduceAdd, reduceCtorEq, Nat.reduceLT, Nat.reduceLeDiff, Nat.reduceEqDiff, Int.reduceEq, c91, h1]
      exact ⟨_, rfl, IsFm.of (x := .mk 1 x.num []) (Or.inl ⟨rfl, rfl, rfl⟩) IsFms.nil⟩
    by_cases h2 : x.op = 2
    · rw [if_pos (.inr (.inl h2))]
      simp (maxDischargeDepth := 6) only [qF, qGO0, qGO1, qGO2, qGO3, qGO4, qGO5, buildV, splice, fills, Nat.reduceAdd, reduceCtorEq, Nat.reduceLT, Nat.reduceLeDiff, Nat.reduceEqDiff, Int.reduceEq, c91, h2]
      exact ⟨_, rfl, IsFm.of (x := .mk 1 x.num []) (Or.inl ⟨rfl, rfl, rfl⟩) IsFms.nil⟩
    by_cases h3 : x.op = 3
    · rw [if_pos (.inr (.inr h3))]
      simp (maxDischargeDepth := 6) only [qF, qGO0, qGO1, qGO2, qGO3, qGO4, qGO5, buildV, splice, fills, Nat.reduceAdd, reduceCtorEq, Nat.reduceLT, Nat.reduceLeDiff, Nat.reduceEqDiff, Int.reduceEq, c91, h3]
      exact ⟨_, rfl, IsFm.of (x := .mk 1 x.num []) (Or.inl ⟨rfl, rfl, rfl⟩) IsFms.nil⟩
    rw [if_neg (by omega)]
    by_cases h4 : x.op = 4
    · rw [if_pos h4]
      simp (maxDischargeDepth := 6) only [qF, qGO0, qGO1, qGO2, qGO3, qGO4, qGO5, buildV, splice, fills, Nat.reduceAdd, reduceCtorEq, Nat.reduceLT, Nat.reduceLeDiff, Nat.reduceEqDiff, Int.reduceEq, c91, h4]
      exact ⟨_, rfl, IsFm.of (x := .mk 1 1 []) (Or.inl ⟨rfl, rfl, rfl⟩) IsFms.nil⟩
    rw [if_neg h4]
    by_cases h5 : x.op = 5
    · rw [if_pos h5]
      simp (maxDischargeDepth := 6) only [qF, qGO0, qGO1, qGO2, qGO3, qGO4, qGO5, buildV, splice, fills, Nat.reduceAdd, reduceCtorEq, Nat.reduceLT, Nat.reduceLeDiff, Nat.reduceEqDiff, Int.reduceEq, c91, h5]
      exact ⟨_, rfl, IsFm.of (x := .mk 1 0 []) (Or.inl ⟨rfl, rfl, rfl⟩) IsFms.nil⟩
    rw [if_neg h5]
    have hll := nodesL_len x.args
    have hlim : x.args.length ≤ Lim := lim_of (by omega)
    have hmk : x.args.length * 40 ≤ roomy ∧ x.args.length ≤ roomy := by unfold Lim at hlim; unfold roomy; omega
    have hL0 := fun c6 fr lh sh h0 h1 h9 h63 h64 h65 o6 o9 o60 => cmp1 kT hkT scope x.args (fun y hy => ih y hy) a cc ha hxs (by omega) hnal (.i .i64 x.op) 1 1 c6 fr lh sh h0 h1 h9 h63 h64 h65 o6 o9 o60
    have hL := fun fr lh sh h0 h1 h9 h63 h64 h65 o6 o9 o60 => And.intro (hL0 ⟨1, .cells [.i .i64 0, .i .i64 0, .nilsl] 0 true⟩ fr lh sh h0 h1 h9 h63 h64 h65 o6 o9 o60).1 (And.intro (hL0 ⟨1, .cells [.i .i64 0, .i .i64 0, .nilsl] 0 true⟩ fr lh sh h0 h1 h9 h63 h64 h65 o6 o9 o60).2.1 (And.intro (hL0 ⟨1, .cells [.i .i64 0, .i .i64 0, .nilsl] 0 true⟩ fr lh sh h0 h1 h9 h63 h64 h65 o6 o9 o60).2.2.1 (And.intro (row_ex (hL0 ⟨1, .cells [.i .i64 0, .i .i64 0, .nilsl] 0 true⟩ fr lh sh h0 h1 h9 h63 h64 h65 o6 o9 o60).2.2.2.1).1 (hL0 ⟨1, .cells [.i .i64 0, .i .i64 0, .nilsl] 0 true⟩ fr lh sh h0 h1 h9 h63 h64 h65 o6 o9 o60).2.2.2.2)))
    have hF := fun fr lh sh h0 h1 h9 h63 h64 h65 o6 o9 o60 => (row_ex (hL0 ⟨1, .cells [.i .i64 0, .i .i64 0, .nilsl] 0 true⟩ fr lh sh h0 h1 h9 h63 h64 h65 o6 o9 o60).2.2.2.1).2
    have hlenF := fun fr lh sh h0 h1 h9 h63 h64 h65 o6 o9 o60 => (hF fr lh sh h0 h1 h9 h63 h64 h65 o6 o9 o60).len
    have hcl : (comp0L x.args).length = x.args.length := by rw [comp0L_map]; simp
    rw [hcl] at hlenF
    simp (maxDischargeDepth := 6) only [qF, qGO0, qGO1, qGO2, qGO3, qGO4, qGO5, Nat.reduceShiftRight, Nat.reduceMod, buildV, mkslV, mkOk, splice, fills, Nat.reduceAdd, reduceCtorEq, Nat.reduceLT, Nat.reduceLeDiff, Nat.reduceEqDiff, qDR0, qDR1, getL, qDX0, c91, c91_L1_w, h1, h2, h3, h4, h5, hn6, ha.lenI, hmk, hL, hlenF]
    generalize hX : rowC _ _ = X
    have hXF : IsFms (comp0L x.args) X := by
      rw [← hX]
      refine hF _ _ _ ?_ ?_ ?_ ?_ ?_ ?_ ?_ ?_ ?_ <;> simp (maxDischargeDepth := 6) only [qGO2, qGO4, reduceCtorEq, Nat.reduceEqDiff]
    have hXl := hXF.len
    rw [hcl] at hXl
    rw [← hXl, List.take_length]
    exact ⟨_, rfl, IsFm.of (x := .mk x.op 0 (comp0L x.args)) (Or.inr ⟨false, by show T.sl X x.args.length false = .sl X (comp0L x.args).length false; rw [hcl]⟩) hXF⟩
end
end Go.Proofs.YtfenhjpkomldcaaGreat
namespace Go.Proofs.YtfenhjpkomldcaaGreat
open Go Go.Ev
theorem leaf_is (op num : Int) (a : T) (ha : IsSl a 0 []) : IsEx (leafX op num) [.i .i64 op, .i .i64 num, .s [], a] := IsEx.of (x := leafX op num) ha IsExs.nil
theorem nil_is : IsSl .nilsl 0 [] := Or.inl ⟨rfl, rfl, rfl⟩
theorem neg_is (op n : Int) : IsEx (.mk 7 0 [] [leafX op n]) [.i .i64 7, .i .i64 0, .s [], .sl [.i .i64 op, .i .i64 n, .s [], .nilsl] 1 true] :=
  IsEx.of (x := .mk 7 0 [] [leafX op n]) (Or.inr ⟨true, rfl⟩) (IsExs.one (leaf_is op n .nilsl nil_is))
theorem rlit_ev (k n : Int) (hn : bd n) (hb : k = 4 → bit n) : ∃ cs, DCall pE 106 [.i .i64 k, .i .i64 n] [] = some (.agg cs, []) ∧ IsEx (litX k n) cs := by
  rw [p_fun fn106 (by simp [c106])]
  unfold litX
  have hw := wr_neg hn
  by_cases h4 : k = 4
  · subst h4
    rcases hb rfl with h0 | h0
    · simp (maxDischargeDepth := 6) only [qF, qGO0, qGO1, qGO2, qGO3, qGO4, qGO5, Int.reduceNeg, buildV, splice, fills, Nat.reduceAdd, reduceCtorEq, Nat.reduceLT, Nat.reduceLeDiff, Nat.reduceEqDiff, Int.reduceLT, Int.reduceEq, c106, h0]; exact ⟨_, rfl, leaf_is _ _ _ nil_is⟩
    · simp (maxDischargeDepth := 6) only [qF, qGO0, qGO1, qGO2, qGO3, qGO4, qGO5, Int.reduceNeg, buildV, splice, fills, Nat.reduceAdd, reduceCtorEq, Nat.reduceLT, Nat.reduceLeDiff, Nat.reduceEqDiff, Int.reduceLT, Int.reduceEq, c106, h0]; exact ⟨_, rfl, leaf_is _ _ _ nil_is⟩
  by_cases h3 : k = 3
  · subst h3
    simp (maxDischargeDepth := 6) only [qF, qGO0, qGO1, qGO2, qGO3, qGO4, qGO5, buildV, splice, fills, Nat.reduceAdd, reduceCtorEq, Nat.reduceLT, Nat.reduceLeDiff, Nat.reduceEqDiff, Int.reduceEq, c106]; exact ⟨_, rfl, leaf_is _ _ _ nil_is⟩
  by_cases h2 : k = 2
  · subst h2
    by_cases h0 : n < 0
    · simp (maxDischargeDepth := 6) only [qF, qGO0, qGO1, qGO2, qGO3, qGO4, qGO5, buildV, bslV, bslW, splice, fills, repl, Nat.reduceAdd, reduceCtorEq, Nat.reduceLT, Nat.reduceLeDiff, Nat.reduceEqDiff, Int.reduceEq, c106, h0, hw]; exact ⟨_, rfl, neg_is _ _⟩
    · simp (maxDischargeDepth := 6) only [qF, qGO0, qGO1, qGO2, qGO3, qGO4, qGO5, buildV, bslV, bslW, splice, fills, repl, Nat.reduceAdd, reduceCtorEq, Nat.reduceLT, Nat.reduceLeDiff, Nat.reduceEqDiff, Int.reduceEq, c106, h0]; exact ⟨_, rfl, leaf_is _ _ _ nil_is⟩
  · by_cases h0 : n < 0
    · simp (maxDischargeDepth := 6) only [qF, qGO0, qGO1, qGO2, qGO3, qGO4, qGO5, buildV, bslV, bslW, splice, fills, repl, Nat.reduceAdd, reduceCtorEq, Nat.reduceLT, Nat.reduceLeDiff, Nat.reduceEqDiff, c106, h2, h3, h4, h0, hw]; exact ⟨_, rfl, neg_is _ _⟩
    · simp (maxDischargeDepth := 6) only [qF, qGO0, qGO1, qGO2, qGO3, qGO4, qGO5, buildV, bslV, bslW, splice, fills, repl, Nat.reduceAdd, reduceCtorEq, Nat.reduceLT, Nat.reduceLeDiff, Nat.reduceEqDiff, c106, h2, h3, h4, h0]; exact ⟨_, rfl, leaf_is _ _ _ nil_is⟩
theorem zero_all (f : Nat) (x : Ex) (a : T) : (f = 153 ∨ f = 65) → DCall pE f [.agg [.i .i64 x.op, .i .i64 x.num, .s x.name, a]] [] = some (.b (zeroX x), []) := by
  unfold zeroX
  rintro (rfl | rfl)
  · rw [p_fun fn153 (by simp [c153])]
    by_cases h1 : x.op = 1
    · simp (maxDischargeDepth := 6) only [qF, qGO0, qGO1, qGO2, qGO3, qGO4, qGO5, Nat.reduceLT, Nat.reduceEqDiff, Int.reduceEq, c153, h1, true_or]
    · by_cases h2 : x.op = 2
      · simp (maxDischargeDepth := 6) only [qF, qGO0, qGO1, qGO2, qGO3, qGO4, qGO5, Nat.reduceLT, Nat.reduceEqDiff, Int.reduceEq, c153, h2, or_true]
      · simp (maxDischargeDepth := 6) only [qF, qGO0, qGO1, qGO2, qGO3, qGO4, qGO5, Nat.reduceLT, Nat.reduceEqDiff, c153, h1, h2, or_self]
  · rw [p_fun fn65 (by simp [c65])]
    by_cases h1 : x.op = 1
    · simp (maxDischargeDepth := 6) only [qF, qGO0, qGO1, qGO2, qGO3, qGO4, qGO5, Nat.reduceLT, Nat.reduceEqDiff, Int.reduceEq, c65, h1, true_or]
    · by_cases h2 : x.op = 2
      · simp (maxDischargeDepth := 6) only [qF, qGO0, qGO1, qGO2, qGO3, qGO4, qGO5, Nat.reduceLT, Nat.reduceEqDiff, Int.reduceEq, c65, h2, or_true]
      · simp (maxDischargeDepth := 6) only [qF, qGO0, qGO1, qGO2, qGO3, qGO4, qGO5, Nat.reduceLT, Nat.reduceEqDiff, c65, h1, h2, or_self]
theorem one_all (f : Nat) (x : Ex) (a : T) : (f = 154 ∨ f = 163) → DCall pE f [.agg [.i .i64 x.op, .i .i64 x.num, .s x.name, a]] [] = some (.b (oneX x), []) := by
  unfold oneX
  rintro (rfl | rfl)
  · rw [p_fun fn154 (by simp [c154])]
    by_cases h1 : x.op = 1 <;> simp (maxDischargeDepth := 6) only [qF, qGO0, qGO1, qGO2, qGO3, qGO4, qGO5, Nat.reduceLT, Nat.reduceEqDiff, c154, h1]
  · rw [p_fun fn163 (by simp [c163])]
    by_cases h1 : x.op = 1 <;> simp (maxDischargeDepth := 6) only [qF, qGO0, qGO1, qGO2, qGO3, qGO4, qGO5, Nat.reduceLT, Nat.reduceEqDiff, c163, h1]
/-- Its first argument. -/
def arg0 (x : Ex) : Ex := x.args.headD (leafX 0 0)
theorem isLit_eq (x : Ex) (h7 : x.op = 7 → 0 < x.args.length) : isLit x = (decide (x.op = 1 ∨ x.op = 2 ∨ x.op = 3 ∨ x.op = 4 ∨ x.op = 5) || (decide (x.op = 7) && decide ((arg0 x).op = 1 ∨ (arg0 x).op = 2))) := by
  obtain ⟨op, num, name, args⟩ := x
  cases args with
  | nil => by_cases h : op = 7
           · exact absurd (h7 h) (by simp [Ex.args])
           · simp only [isLit, Ex.op, h, decide_false, Bool.false_and]; congr
  | cons y ys => rfl
theorem litV_eq (x : Ex) (h7 : x.op = 7 → 0 < x.args.length) : litV x = if x.op = 4 then 1 else if x.op = 5 then 0 else if x.op = 7 then - (arg0 x).num else x.num := by
  obtain ⟨op, num, name, args⟩ := x
  cases args with
  | nil => by_cases h : op = 7
           · exact absurd (h7 h) (by simp [Ex.args])
           · simp [litV, Ex.op, Ex.num, h]
  | cons y ys => rfl
theorem arg0_at {x : Ex} {a : T} {cc : List T} (ha : IsSl a x.args.length cc) (hx : IsExs x.args cc) (h : 0 < x.args.length) : ∃ b r, ∀ kk, iaV a (.i kk 0) 4 = some (.vp (.i .i64 (arg0 x).op :: .i .i64 (arg0 x).num :: .s (arg0 x).name :: b :: r)) := by
  obtain ⟨b, cb, r, hia, _⟩ := arg_at ha hx 0 h
  have e : arg0 x = x.args[0] := by
    unfold arg0
    generalize x.args = l at h
    cases l with
    | nil => simp at h
    | cons y ys => rfl
  rw [e]
  exact ⟨b, r, hia⟩
theorem notLit_ev (x : Ex) (cs : List T) (hx : IsEx x cs) (h7 : x.op = 7 → 0 < x.args.length) : DCall pE 147 [.agg cs] [] = some (.b (!isLit x), []) := by
  obtain ⟨a, cc, rfl, ha, hxs⟩ := hx.cells
  rw [p_fun fn147 (by simp [c147]), isLit_eq x h7]
  by_cases h1 : x.op = 1
  · simp (maxDischargeDepth := 6) only [qF, qGO0, qGO1, qGO2, qGO3, qGO4, qGO5, Nat.reduceLT, Nat.reduceEqDiff, Int.reduceEq, c147, h1, true_or, Bool.true_or]
  by_cases h2 : x.op = 2
  · simp (maxDischargeDepth := 6) only [qF, qGO0, qGO1, qGO2, qGO3, qGO4, qGO5, Nat.reduceLT, Nat.reduceEqDiff, Int.reduceEq, c147, h2, true_or, or_true, Bool.true_or]
  by_cases h3 : x.op = 3
  · simp (maxDischargeDepth := 6) only [qF, qGO0, qGO1, qGO2, qGO3, qGO4, qGO5, Nat.reduceLT, Nat.reduceEqDiff, Int.reduceEq, c147, h3, true_or, or_true, Bool.true_or]
  by_cases h4 : x.op = 4
  · simp (maxDischargeDepth := 6) only [qF, qGO0, qGO1, qGO2, qGO3, qGO4, qGO5, Nat.reduceLT, Nat.reduceEqDiff, Int.reduceEq, c147, h4, true_or, or_true, Bool.true_or]
  by_cases h5 : x.op = 5
  · simp (maxDischargeDepth := 6) only [qF, qGO0, qGO1, qGO2, qGO3, qGO4, qGO5, Nat.reduceLT, Nat.reduceEqDiff, Int.reduceEq, c147, h5, or_true, Bool.true_or]
  by_cases h : x.op = 7
  · obtain ⟨b, r, hia⟩ := arg0_at ha hxs (h7 h)
    by_cases y1 : (arg0 x).op = 1
    · simp (maxDischargeDepth := 6) only [qF, qGO0, qGO1, qGO2, qGO3, qGO4, qGO5, Nat.reduceLT, Nat.reduceEqDiff, Int.reduceEq, c147, h, hia, y1, true_or, or_self, Bool.false_or]
    · by_cases y2 : (arg0 x).op = 2 <;> simp (maxDischargeDepth := 6) only [qF, qGO0, qGO1, qGO2, qGO3, qGO4, qGO5, Nat.reduceLT, Nat.reduceEqDiff, Int.reduceEq, c147, h, hia, y1, y2, or_true, or_self, Bool.false_or]
  · simp (maxDischargeDepth := 6) only [qF, qGO0, qGO1, qGO2, qGO3, qGO4, qGO5, Nat.reduceLT, Nat.reduceEqDiff, c147, h1, h2, h3, h4, h5, h, or_self, Bool.or_self]
theorem rLit_ev (x : Ex) (cs : List T) (hx : IsEx x cs) (h7 : x.op = 7 → 0 < x.args.length) (hb : x.op = 7 → bd (arg0 x).num) : DCall pE 107 [.agg cs] [] = some (.tup [.i .i64 (if isLit x then litV x else 0), .b (isLit x)], []) := by
  obtain ⟨a, cc, rfl, ha, hxs⟩ := hx.cells
  rw [p_fun fn107 (by simp [c107]), isLit_eq x h7, litV_eq x h7]
  by_cases h1 : x.op = 1
  · simp (maxDischargeDepth := 6) only [qF, qGO0, qGO1, qGO2, qGO3, qGO4, qGO5, Nat.reduceLT, Nat.reduceEqDiff, Int.reduceEq, c107, h1, true_or, Bool.true_or]
  by_cases h2 : x.op = 2
  · simp (maxDischargeDepth := 6) only [qF, qGO0, qGO1, qGO2, qGO3, qGO4, qGO5, Nat.reduceLT, Nat.reduceEqDiff, Int.reduceEq, c107, h2, true_or, or_true, Bool.true_or]
  by_cases h3 : x.op = 3
  · simp (maxDischargeDepth := 6) only [qF, qGO0, qGO1, qGO2, qGO3, qGO4, qGO5, Nat.reduceLT, Nat.reduceEqDiff, Int.reduceEq, c107, h3, true_or, or_true, Bool.true_or]
  by_cases h4 : x.op = 4
  · simp (maxDischargeDepth := 6) only [qF, qGO0, qGO1, qGO2, qGO3, qGO4, qGO5, Nat.reduceLT, Nat.reduceEqDiff, Int.reduceEq, c107, h4, true_or, or_true, Bool.true_or]
  by_cases h5 : x.op = 5
  · simp (maxDischargeDepth := 6) only [qF, qGO0, qGO1, qGO2, qGO3, qGO4, qGO5, Nat.reduceLT, Nat.reduceEqDiff, Int.reduceEq, c107, h5, or_true, Bool.true_or]
  by_cases h : x.op = 7
  · obtain ⟨b, r, hia⟩ := arg0_at ha hxs (h7 h)
    have hw := wr_neg (hb h)
    by_cases y1 : (arg0 x).op = 1
    · simp (maxDischargeDepth := 6) only [qF, qGO0, qGO1, qGO2, qGO3, qGO4, qGO5, Nat.reduceLT, Nat.reduceLeDiff, Nat.reduceEqDiff, Int.reduceEq, c107, h, hia, y1, hw, true_or, or_self, Bool.false_or]
    · by_cases y2 : (arg0 x).op = 2 <;> simp (maxDischargeDepth := 6) only [qF, qGO0, qGO1, qGO2, qGO3, qGO4, qGO5, Nat.reduceLT, Nat.reduceLeDiff, Nat.reduceEqDiff, Int.reduceEq, c107, h, hia, y1, y2, hw, or_true, or_self, Bool.false_or]
  · simp (maxDischargeDepth := 6) only [qF, qGO0, qGO1, qGO2, qGO3, qGO4, qGO5, Nat.reduceLT, Nat.reduceEqDiff, c107, h1, h2, h3, h4, h5, h, or_self, Bool.or_self]
mutual
/-- The type of a node made of literals, as the program finds it. -/
def Ex.kX : Ex → Int
  | .mk op _ _ args => if op = 1 then 1 else if op = 2 then 2 else if op = 3 then 3 else if op = 7 ∨ op = 8 ∨ op = 9 ∨ op = 12 ∨ op = 13 then a0 (kXL args) else if op = 14 then a1 (kXL args)
    else if op = 10 then max (a0 (kXL args)) (a1 (kXL args)) else if op = 11 then (if a1 (kXL args) = 2 then 1 else a0 (kXL args)) else 4
def kXL : List Ex → List Int
  | [] => []
  | x :: xs => x.kX :: kXL xs
end
theorem Ex.kX_eq (x : Ex) : x.kX = if x.op = 1 then 1 else if x.op = 2 then 2 else if x.op = 3 then 3 else if x.op = 7 ∨ x.op = 8 ∨ x.op = 9 ∨ x.op = 12 ∨ x.op = 13 then a0 (kXL x.args) else if x.op = 14 then a1 (kXL x.args)
    else if x.op = 10 then max (a0 (kXL x.args)) (a1 (kXL x.args)) else if x.op = 11 then (if a1 (kXL x.args) = 2 then 1 else a0 (kXL x.args)) else 4 := by obtain ⟨_, _, _, _⟩ := x; rw [Ex.kX]; rfl
theorem kXL_map : ∀ xs, kXL xs = xs.map Ex.kX
  | [] => rfl
  | x :: xs => by rw [kXL, kXL_map xs]; rfl
def koP (y : Ex) : Prop := ∀ cs : List T, IsEx y cs → y.wf = true → DCall pE 149 [.agg cs] [] = some (.i .i64 y.kX, [])
theorem koArg {xs : List Ex} (ih : ∀ y ∈ xs, koP y) {a : T} {cc : List T} (ha : IsSl a xs.length cc) (hx : IsExs xs cc) (hwf : wfL xs = true) (k : Nat) (hk : k < xs.length) (j : Int) (hj : j = (k : Int)) :
    ∃ b r, froz1 b = true ∧ (∀ kk, iaV a (.i kk j) 4 = some (.vp (.i .i64 xs[k].op :: .i .i64 xs[k].num :: .s xs[k].name :: b :: r))) ∧ DCall pE 149 [.agg [.i .i64 xs[k].op, .i .i64 xs[k].num, .s xs[k].name, b]] [] = some (.i .i64 xs[k].kX, []) := by
  obtain ⟨b, cb, r, hia, h1, h2, h3⟩ := arg_at ha hx k hk
  subst hj
  exact ⟨b, r, h1.froz1, hia, ih xs[k] (List.getElem_mem hk) _ h3 (wfL_mem.1 hwf _ (List.getElem_mem hk))⟩
theorem ko_ev (x : Ex) : koP x := by
  induction x using Ex.ind with
  | h x ih =>
    intro cs hx hwf
    obtain ⟨a, cc, rfl, ha, hxs⟩ := hx.cells
    rw [p_fun fn149 (by simp [c149]), Ex.kX_eq]
    rw [Ex.wf_eq, Bool.and_eq_true] at hwf
    obtain ⟨hno, hwl⟩ := hwf
    simp only [nodeOk, Bool.and_eq_true, decide_eq_true_eq] at hno
    obtain ⟨hop1, hop2, har, _, _⟩ := hno
    have hargs := fun k hk j hj => koArg (fun y hy => ih y hy) ha hxs hwl k hk j hj
    have e0 : ∀ h : 0 < x.args.length, a0 (kXL x.args) = x.args[0].kX := fun h => by rw [kXL_map]; unfold a0; simp [List.getD_eq_getElem?_getD, List.getElem?_eq_getElem h]
    have e1 : ∀ h : 1 < x.args.length, a1 (kXL x.args) = x.args[1].kX := fun h => by rw [kXL_map]; unfold a1; simp [List.getD_eq_getElem?_getD, List.getElem?_eq_getElem h]
    rcases op_cases hop1 hop2 with h | h | h | h | h | h | h | h | h | h | h | h | h | h | h | h | h | h | h | h | h | h <;> rw [h] at har ⊢ <;> simp only [arOk, Int.reduceLE, Int.reduceEq, or_true, or_false, or_self, if_true, if_false, decide_eq_true_eq] at har ⊢
    iterate 6 · simp (maxDischargeDepth := 6) only [qF, qGO0, qGO1, qGO2, qGO3, qGO4, qGO5, Nat.reduceLT, Nat.reduceEqDiff, Int.reduceEq, c149]
    iterate 3
      · obtain ⟨b, r, hf, hia, hc⟩ := hargs 0 (by omega) 0 rfl
        rw [e0 (by omega)]
        simp (maxDischargeDepth := 6) only [qF, qGO0, qGO1, qGO2, qGO3, qGO4, qGO5, Nat.reduceLT, Nat.reduceLeDiff, Nat.reduceEqDiff, Int.reduceEq, c149, hia, hc, dc149, hf]
    · obtain ⟨b, r, hf, hia, hc⟩ := hargs 0 (by omega) 0 rfl
      obtain ⟨b', r', hf', hia', hc'⟩ := hargs 1 (by omega) 1 rfl
      rw [e0 (by omega), e1 (by omega)]
      generalize x.args[0].kX = p at *
      generalize x.args[1].kX = q at *
      rw [show max p q = (if q > p then q else p) by split <;> omega]
      simp (maxDischargeDepth := 6) only [qF, qGO0, qGO1, qGO2, qGO3, qGO4, qGO5, mmV, minmax, Nat.reduceLT, Nat.reduceLeDiff, Nat.reduceEqDiff, Int.reduceEq, qDR0, getL, c149, hia, hc, hia', hc', dc149, dd149, hf, hf']
    · obtain ⟨b, r, hf, hia, hc⟩ := hargs 0 (by omega) 0 rfl
      obtain ⟨b', r', hf', hia', hc'⟩ := hargs 1 (by omega) 1 rfl
      rw [e0 (by omega), e1 (by omega)]
      by_cases hq : x.args[1].kX = 2
      · rw [hq] at hc'
        simp (maxDischargeDepth := 6) only [qF, qGO0, qGO1, qGO2, qGO3, qGO4, qGO5, Nat.reduceLT, Nat.reduceLeDiff, Nat.reduceEqDiff, Int.reduceEq, c149, hia, hc, hia', hc', dc149, hf, hf', hq]
      · simp (maxDischargeDepth := 6) only [qF, qGO0, qGO1, qGO2, qGO3, qGO4, qGO5, Nat.reduceLT, Nat.reduceLeDiff, Nat.reduceEqDiff, Int.reduceEq, c149, hia, hc, hia', hc', dc149, hf, hf', hq]
    iterate 2
      · obtain ⟨b, r, hf, hia, hc⟩ := hargs 0 (by omega) 0 rfl
        rw [e0 (by omega)]
        simp (maxDischargeDepth := 6) only [qF, qGO0, qGO1, qGO2, qGO3, qGO4, qGO5, Nat.reduceLT, Nat.reduceLeDiff, Nat.reduceEqDiff, Int.reduceEq, c149, hia, hc, dc149, hf]
    · obtain ⟨b, r, hf, hia, hc⟩ := hargs 1 (by omega) 1 rfl
      rw [e1 (by omega)]
      simp (maxDischargeDepth := 6) only [qF, qGO0, qGO1, qGO2, qGO3, qGO4, qGO5, Nat.reduceLT, Nat.reduceLeDiff, Nat.reduceEqDiff, Int.reduceEq, c149, hia, hc, dc149, hf]
    all_goals simp (maxDischargeDepth := 6) only [qF, qGO0, qGO1, qGO2, qGO3, qGO4, qGO5, Nat.reduceLT, Nat.reduceEqDiff, Int.reduceEq, c149]
end Go.Proofs.YtfenhjpkomldcaaGreat
namespace Go.Proofs.YtfenhjpkomldcaaGreat
open Go Go.Ev
/-- A value of a type. -/
def inK (k n : Int) : Prop := ((k = 1 ∨ k = 2) ∧ bd n) ∨ (k = 3 ∧ 0 ≤ n ∧ n ≤ 1439) ∨ (k = 4 ∧ bit n)
theorem inK_bd {k n : Int} (h : inK k n) : bd n := by
  rcases h with ⟨_, h⟩ | ⟨_, h1, h2⟩ | ⟨_, h⟩
  · exact h
  · unfold bd; omega
  · exact bit_bd h
theorem inK_bit {n : Int} (h : inK 4 n) : bit n := by
  rcases h with ⟨h | h, _⟩ | ⟨h, _⟩ | ⟨_, h⟩
  · omega
  · omega
  · omega
  · exact h
theorem inK_of {k n : Int} (h : k = 1 ∨ k = 2) (hb : bd n) : inK k n := .inl ⟨h, hb⟩
/-- No constants. -/
def nc : List Nat → Int × Int := fun _ => (0, 6)
/-- A simplified form of a type. -/
def FK (scope k : Int) (y : Ex) : Prop := y.wf = true ∧ y.ty nc scope = (k, 0)
theorem FK.node {scope k : Int} {y : Ex} (h : FK scope k y) : 1 ≤ y.op ∧ y.op ≤ 22 ∧ arOk y.op y.args.length = true ∧ (0 ≤ y.num ∧ y.num ≤ mostN y.op) ∧ (if y.op = 6 then attrNm y.name = true else y.name = []) ∧ wfL y.args = true := by
  have := h.1
  rw [Ex.wf_eq, Bool.and_eq_true] at this
  obtain ⟨hno, hwl⟩ := this
  simp only [nodeOk, Bool.and_eq_true, decide_eq_true_eq] at hno
  obtain ⟨h1, h2, h3, h4, h5⟩ := hno
  refine ⟨h1, h2, h3, h4, ?_, hwl⟩
  split at h5 <;> rename_i e
  · rw [if_pos e]; exact h5
  · rw [if_neg e]; simpa using h5
/-- Some of them. -/
def FKs (scope : Int) : List Int → List Ex → Prop
  | [], [] => True
  | t :: ts, y :: ys => FK scope t y ∧ FKs scope ts ys
  | _, _ => False
theorem FKs.len {scope : Int} : ∀ {ts : List Int} {ys : List Ex}, FKs scope ts ys → ts.length = ys.length
  | [], [], _ => rfl
  | t :: ts, y :: ys, h => by rw [List.length_cons, List.length_cons, FKs.len h.2]
theorem FKs.wf {scope : Int} : ∀ {ts : List Int} {ys : List Ex}, FKs scope ts ys → wfL ys = true
  | [], [], _ => rfl
  | t :: ts, y :: ys, h => by rw [wfL, h.1.1, FKs.wf h.2]; rfl
theorem FKs.ty {scope : Int} : ∀ {ts : List Int} {ys : List Ex}, FKs scope ts ys → tyL nc scope ys = .ok ts
  | [], [], _ => by rw [tyL]
  | t :: ts, y :: ys, h => by
    rw [tyL, h.1.2, FKs.ty h.2]; rfl
theorem FK.mk {scope k : Int} {op : Int} {ys : List Ex} {ts : List Int} (h1 : 1 ≤ op) (h2 : op ≤ 22) (h6 : op ≠ 6) (har : arOk op ys.length = true) (hys : FKs scope ts ys) (hr : resK op ts = k) (hk : k ≠ 0) : FK scope k (.mk op 0 [] ys) := by
  constructor
  · rw [Ex.wf_eq, Bool.and_eq_true]
    refine ⟨?_, hys.wf⟩
    have hm : 0 ≤ mostN op := by unfold mostN; split <;> (try split) <;> decide
    simp only [nodeOk, Bool.and_eq_true, decide_eq_true_eq]
    refine ⟨h1, h2, har, ⟨Int.le_refl _, hm⟩, ?_⟩
    show (if op = 6 then attrNm [] else decide (([] : List Nat) = [])) = true
    rw [if_neg h6]; rfl
  · rw [Ex.ty_eq]
    show (if op = 6 then _ else match tyL nc scope ys with | .error e => (0, e) | .ok ts => if resK op ts = 0 then (0, 9) else (resK op ts, 0)) = (k, 0)
    rw [if_neg h6, hys.ty]
    show (if resK op ts = 0 then ((0 : Int), (9 : Int)) else (resK op ts, 0)) = (k, 0)
    rw [hr, if_neg hk]
theorem FK.leaf {scope k op num : Int} (h : (op = 1 ∧ k = 1 ∧ 0 ≤ num ∧ num ≤ 1099511627776) ∨ (op = 2 ∧ k = 2 ∧ 0 ≤ num ∧ num ≤ 1099511627776) ∨ (op = 3 ∧ k = 3 ∧ 0 ≤ num ∧ num ≤ 1439) ∨ (op = 4 ∧ k = 4 ∧ num = 0) ∨ (op = 5 ∧ k = 4 ∧ num = 0)) : FK scope k (leafX op num) := by
  have hw : (leafX op num).wf = nodeOk op num [] 0 := by rw [Ex.wf_eq]; simp [leafX, Ex.op, Ex.num, Ex.name, Ex.args, wfL]
  have ht : op ≠ 6 → (leafX op num).ty nc scope = if resK op [] = 0 then (0, 9) else (resK op [], 0) := fun h6 => by
    rw [Ex.ty_eq]; simp only [leafX, Ex.op, Ex.args, if_neg h6, tyL]; rfl
  constructor
  · rw [hw]
    simp only [nodeOk, Bool.and_eq_true, decide_eq_true_eq]
    rcases h with ⟨rfl, rfl, h1, h2⟩ | ⟨rfl, rfl, h1, h2⟩ | ⟨rfl, rfl, h1, h2⟩ | ⟨rfl, rfl, rfl⟩ | ⟨rfl, rfl, rfl⟩
    · exact ⟨by decide, by decide, rfl, ⟨h1, h2⟩, rfl⟩
    · exact ⟨by decide, by decide, rfl, ⟨h1, h2⟩, rfl⟩
    · exact ⟨by decide, by decide, rfl, ⟨h1, h2⟩, rfl⟩
    · exact ⟨by decide, by decide, rfl, ⟨by decide, by decide⟩, rfl⟩
    · exact ⟨by decide, by decide, rfl, ⟨by decide, by decide⟩, rfl⟩
  · rcases h with ⟨rfl, rfl, h1, h2⟩ | ⟨rfl, rfl, h1, h2⟩ | ⟨rfl, rfl, h1, h2⟩ | ⟨rfl, rfl, rfl⟩ | ⟨rfl, rfl, rfl⟩ <;> rw [ht (by decide)] <;> rfl
theorem litX_ok {scope k n : Int} (h : inK k n) : FK scope k (litX k n) ∧ isLit (litX k n) = true ∧ litV (litX k n) = n := by
  unfold litX
  rcases h with ⟨hk, hb⟩ | ⟨rfl, h1, h2⟩ | ⟨rfl, hb⟩
  · have h4 : k ≠ 4 := by omega
    have h3 : k ≠ 3 := by omega
    rw [if_neg h4, if_neg h3]
    unfold bd at hb
    by_cases h0 : n < 0
    · rw [if_pos h0]
      rcases hk with rfl | rfl
      · refine ⟨FK.mk (ts := [1]) (by decide) (by decide) (by decide) rfl ⟨FK.leaf (.inl ⟨rfl, rfl, by omega, by omega⟩), trivial⟩ rfl (by decide), rfl, ?_⟩
        show - - n = n; omega
      · refine ⟨FK.mk (ts := [2]) (by decide) (by decide) (by decide) rfl ⟨FK.leaf (.inr (.inl ⟨rfl, rfl, by omega, by omega⟩)), trivial⟩ rfl (by decide), rfl, ?_⟩
        show - - n = n; omega
    · rw [if_neg h0]
      rcases hk with rfl | rfl
      · exact ⟨FK.leaf (.inl ⟨rfl, rfl, by omega, by omega⟩), rfl, rfl⟩
      · exact ⟨FK.leaf (.inr (.inl ⟨rfl, rfl, by omega, by omega⟩)), rfl, rfl⟩
  · rw [if_neg (by decide), if_pos rfl]
    exact ⟨FK.leaf (.inr (.inr (.inl ⟨rfl, rfl, h1, h2⟩))), rfl, rfl⟩
  · rw [if_pos rfl]
    rcases hb with rfl | rfl
    · exact ⟨FK.leaf (.inr (.inr (.inr (.inr ⟨rfl, rfl, rfl⟩)))), rfl, rfl⟩
    · exact ⟨FK.leaf (.inr (.inr (.inr (.inl ⟨rfl, rfl, rfl⟩)))), rfl, rfl⟩
theorem tyL_err {cl : List Nat → Int × Int} {scope : Int} : ∀ {xs : List Ex} {e : Int}, tyL cl scope xs = .error e → e ≠ 0
  | [], e, h => by rw [tyL] at h; cases h
  | x :: xs, e, h => by
    rw [tyL] at h
    split at h
    · rename_i h0; cases h; exact h0
    · cases hx : tyL cl scope xs with
      | error e' => rw [hx] at h; cases h; exact tyL_err hx
      | ok us => rw [hx] at h; cases h
/-- The arguments of a typed node. -/
theorem FK.arg {scope k : Int} {y : Ex} (h : FK scope k y) (h6 : y.op ≠ 6) : ∃ ts, FKs scope ts y.args ∧ resK y.op ts = k ∧ k ≠ 0 := by
  obtain ⟨h1, h2, har, hnum, hname, hwl⟩ := h.node
  have ht := h.2
  rw [Ex.ty_eq, if_neg h6] at ht
  cases hr : tyL nc scope y.args with
  | error e =>
    rw [hr] at ht
    have hh : ((0 : Int), e) = (k, 0) := ht
    injection hh with _ h0
    exact absurd h0 (tyL_err hr)
  | ok ts =>
    rw [hr] at ht
    have hh : (if resK y.op ts = 0 then ((0 : Int), (9 : Int)) else (resK y.op ts, 0)) = (k, 0) := ht
    split at hh
    · cases hh
    · rename_i hne
      have e1 : resK y.op ts = k := by injection hh
      refine ⟨ts, ?_, e1, by rw [← e1]; exact hne⟩
      clear ht hh e1 hne har hnum hname h1 h2 h
      generalize y.args = ys at hr hwl
      induction ys generalizing ts with
      | nil => rw [tyL] at hr; cases hr; trivial
      | cons z zs ih =>
        rw [wfL, Bool.and_eq_true] at hwl
        rw [tyL] at hr
        split at hr
        · cases hr
        · rename_i h0
          cases hx : tyL nc scope zs with
          | error e => rw [hx] at hr; cases hr
          | ok us =>
            rw [hx] at hr; cases hr
            refine ⟨⟨hwl.1, ?_⟩, ih us hx hwl.2⟩
            have e2 : (z.ty nc scope).2 = 0 := by simpa using h0
            rw [← e2]
/-- What a literal of a type is. -/
theorem FK.lit {scope k : Int} {y : Ex} (h : FK scope k y) (hl : isLit y = true) : inK k (litV y) ∧ y.kX = k ∧ (y.op = 7 → 0 < y.args.length ∧ bd (arg0 y).num) := by
  obtain ⟨h1, h2, har, hnum, hname, hwl⟩ := h.node
  have h7 : y.op = 7 → 0 < y.args.length := fun e => by rw [e] at har; simp [arOk] at har; omega
  rw [isLit_eq y h7, Bool.or_eq_true, Bool.and_eq_true, decide_eq_true_eq, decide_eq_true_eq, decide_eq_true_eq] at hl
  rw [litV_eq y h7]
  have h6 : y.op ≠ 6 := by omega
  obtain ⟨ts, hts, hr, hk⟩ := h.arg h6
  rcases hl with hl | ⟨hl7, hz⟩
  · have hlen : y.args.length = 0 := by
      rcases hl with e | e | e | e | e <;> rw [e] at har <;> simpa [arOk] using har
    have hts0 : ts = [] := by have := hts.len; rw [hlen] at this; exact List.length_eq_zero_iff.1 this
    subst hts0
    rw [Ex.kX_eq]
    rcases hl with e | e | e | e | e <;> rw [e] at hr hnum ⊢
    · have hk1 : k = 1 := hr.symm
      subst hk1
      exact ⟨inK_of (.inl rfl) ⟨by have := hnum.1; omega, hnum.2⟩, rfl, fun c => absurd c (by decide)⟩
    · have hk1 : k = 2 := hr.symm
      subst hk1
      exact ⟨inK_of (.inr rfl) ⟨by have := hnum.1; omega, hnum.2⟩, rfl, fun c => absurd c (by decide)⟩
    · have hk1 : k = 3 := hr.symm
      subst hk1
      exact ⟨.inr (.inl ⟨rfl, hnum.1, hnum.2⟩), rfl, fun c => absurd c (by decide)⟩
    · have hk1 : k = 4 := hr.symm
      subst hk1
      exact ⟨.inr (.inr ⟨rfl, .inr rfl⟩), rfl, fun c => absurd c (by decide)⟩
    · have hk1 : k = 4 := hr.symm
      subst hk1
      exact ⟨.inr (.inr ⟨rfl, .inl rfl⟩), rfl, fun c => absurd c (by decide)⟩
  · have hlen : y.args.length = 1 := by rw [hl7] at har; simpa [arOk] using har
    obtain ⟨z, hzz⟩ : ∃ z, y.args = [z] := by
      match hy : y.args, hlen with
      | [z], _ => exact ⟨z, rfl⟩
    have hz0 : arg0 y = z := by unfold arg0; rw [hzz]; rfl
    rw [hz0] at hz ⊢
    rw [hzz] at hts
    match ts, hts with
    | [t], hts =>
      have hz1 := hts.1
      obtain ⟨_, _, zar, znum, _, _⟩ := hz1.node
      have z6 : z.op ≠ 6 := by omega
      obtain ⟨us, hus, zr, _⟩ := hz1.arg z6
      have hzn : z.args.length = 0 := by rcases hz with e | e <;> rw [e] at zar <;> simpa [arOk] using zar
      have hus0 : us = [] := by have := hus.len; rw [hzn] at this; exact List.length_eq_zero_iff.1 this
      subst hus0
      have hb : bd z.num := by
        rcases hz with e | e <;> rw [e] at znum <;> exact ⟨by have := znum.1; omega, znum.2⟩
      have htk : t = z.op := by rcases hz with e | e <;> rw [e] at zr ⊢ <;> exact zr.symm
      have hkk : k = t := by
        rw [hl7] at hr
        rcases hz with e | e <;> rw [htk, e] at hr <;> rw [htk, e, ← hr] <;> rfl
      rw [hl7, if_neg (by decide), if_neg (by decide), if_pos rfl]
      refine ⟨inK_of (by omega) (bd_neg hb), ?_, fun _ => ⟨by omega, hb⟩⟩
      rw [Ex.kX_eq, hl7, hzz]
      have hzk : z.kX = t := by
        rw [Ex.kX_eq]
        rcases hz with e | e <;> rw [htk, e] <;> rfl
      show z.kX = k
      rw [hzk, hkk]
end Go.Proofs.YtfenhjpkomldcaaGreat
