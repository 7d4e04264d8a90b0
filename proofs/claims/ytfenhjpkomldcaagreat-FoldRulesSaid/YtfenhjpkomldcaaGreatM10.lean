/- The program's reduce at literals. The program's reduce. The program's reduce. A literal, cloned. The simplifier's search for a constant. Conditions: the theorems' own. -/
import Derived.Test.YtfenhjpkomldcaaGreatM9
import Derived.KernelRfl
set_option maxRecDepth 100000
set_option linter.unusedSimpArgs false
set_option linter.unusedVariables false
set_option linter.unusedSectionVars false
set_option maxHeartbeats 16000000
namespace Go.Proofs.YtfenhjpkomldcaaGreat
open Go Go.Ev
/-- An own variable of trees, frozen. -/
theorem fzV_ptrF {lh : Tri Ent} {sh : List Ent} {keep : Bool} {k g wm : Nat} {cs : List T} {bx : Bool} (h : getO lh k = ⟨g, .cells cs wm bx⟩) (hc : cs.all froz1 = true) : fzV lh sh keep (.ptr .L k g 0) = some (.vp cs, [(.L, k, ⟨g, .cells cs cs.length bx⟩)]) := by
  unfold fzV fzFuel
  have hk : (keep && Sp.L == Sp.S) = false := by cases keep <;> rfl
  show Q.run _ _ (if (keep && Sp.L == Sp.S) = true then _ else _) = _
  rw [hk]
  simp only [Bool.false_eq_true, if_false, Q.run]
  have h' : (St.mk .nil lh sh).get .L k = ⟨g, .cells cs wm bx⟩ := h
  rw [h']
  simp only [if_true, List.drop_zero]
  have : mapQ (fz false 7) cs = .ret (cs, []) := by
    clear h h'
    induction cs with
    | nil => rfl
    | cons c cs ih =>
      rw [List.all_cons, Bool.and_eq_true] at hc
      simp only [mapQ, fz_froz1 hc.1, ih hc.2, Q.bind, List.append_nil]
  rw [this]
  rfl
theorem lit_leaf {y : Ex} (h : y.op = 1 ∨ y.op = 2 ∨ y.op = 3) (hb : bd y.num) : FOk [] (comp0 y) ∧ (comp0 y).val [] = y.num := by
  rw [comp0_eq, if_pos h]
  exact ⟨(FOk_eq _ _).2 (.inl ⟨rfl, hb⟩), by rw [Fm.val_eq]; rfl⟩
theorem lit_comp {scope k : Int} {y : Ex} (h : FK scope k y) (hl : isLit y = true) : FOk [] (comp0 y) ∧ (comp0 y).val [] = litV y ∧ y.na ∧ (y.op = 7 → 0 < y.args.length) := by
  obtain ⟨hin, _, h7⟩ := h.lit hl
  obtain ⟨h1, h2, har, hnum, hname, hwl⟩ := h.node
  have h7' : y.op = 7 → 0 < y.args.length := fun e => (h7 e).1
  have hbd := inK_bd hin
  rw [isLit_eq y h7', Bool.or_eq_true, Bool.and_eq_true, decide_eq_true_eq, decide_eq_true_eq, decide_eq_true_eq] at hl
  rw [litV_eq y h7'] at hbd ⊢
  have hna0 : y.op ≠ 6 → y.args.length = 0 → y.na := fun h6 hz => (Ex.na_eq y).2 ⟨h6, by rw [List.length_eq_zero_iff.1 hz]; trivial⟩
  have hz : y.op ≤ 6 → y.args.length = 0 := fun h => by simpa [arOk, h] using har
  by_cases e4 : y.op = 4
  · rw [if_pos e4] at hbd ⊢
    rw [comp0_eq, if_neg (by omega), if_pos e4]
    exact ⟨(FOk_eq _ _).2 (.inl ⟨rfl, hbd⟩), by rw [Fm.val_eq]; rfl, hna0 (by omega) (hz (by omega)), fun e => by omega⟩
  rw [if_neg e4] at hbd ⊢
  by_cases e5 : y.op = 5
  · rw [if_pos e5] at hbd ⊢
    rw [comp0_eq, if_neg (by omega), if_neg e4, if_pos e5]
    exact ⟨(FOk_eq _ _).2 (.inl ⟨rfl, hbd⟩), by rw [Fm.val_eq]; rfl, hna0 (by omega) (hz (by omega)), fun e => by omega⟩
  rw [if_neg e5] at hbd ⊢
  by_cases e7 : y.op = 7
  · rw [if_pos e7] at hbd ⊢
    have hz1 : (arg0 y).op = 1 ∨ (arg0 y).op = 2 := by rcases hl with hl | hl <;> omega
    have hlen : y.args.length = 1 := by rw [e7] at har; simpa [arOk] using har
    obtain ⟨z, hzz⟩ : ∃ z, y.args = [z] := by
      match hy : y.args, hlen with
      | [z], _ => exact ⟨z, rfl⟩
    have hz0 : arg0 y = z := by unfold arg0; rw [hzz]; rfl
    rw [hz0] at hz1 hbd ⊢
    have hbz : bd z.num := by have := (h7 e7).2; rw [hz0] at this; exact this
    obtain ⟨f1, f2⟩ := lit_leaf (y := z) (by omega) hbz
    rw [comp0_eq, if_neg (by omega), if_neg e4, if_neg e5, hzz, e7]
    have hwz : z.wf = true := by rw [hzz, wfL, Bool.and_eq_true] at hwl; exact hwl.1
    obtain ⟨_, _, zar, _⟩ := wf_node hwz
    have hzn : z.args.length = 0 := by rcases hz1 with e | e <;> rw [e] at zar <;> simpa [arOk] using zar
    have hvl : valL [] (comp0L [z]) = [z.num] := by rw [comp0L, comp0L, valL, valL, f2]
    refine ⟨(FOk_eq _ _).2 (.inr (.inr ⟨(by decide : (7 : Int) ≤ 7), (by decide : (7 : Int) ≤ 22), rfl, lim_of (show 1 ≤ 100000 by decide), ⟨f1, trivial⟩, ?_⟩)), ?_, ?_, fun _ => by simp⟩
    · show vOk 7 (valL [] (comp0L [z]))
      rw [hvl]
      exact ⟨fun v hv => by rw [List.mem_singleton] at hv; rw [hv]; exact hbz, fun h => absurd h (by decide), fun h => absurd h (by decide)⟩
    · rw [Fm.val_eq]
      show apS 7 (valL [] (comp0L [z])) = - z.num
      rw [hvl]; rfl
    · exact (Ex.na_eq y).2 ⟨by omega, by rw [hzz]; exact ⟨(Ex.na_eq z).2 ⟨by omega, by rw [List.length_eq_zero_iff.1 hzn]; trivial⟩, trivial⟩⟩
  · rw [if_neg e7] at hbd ⊢
    have h123 : y.op = 1 ∨ y.op = 2 ∨ y.op = 3 := by rcases hl with hl | hl <;> omega
    obtain ⟨f1, f2⟩ := lit_leaf h123 hbd
    exact ⟨f1, f2, hna0 (by omega) (hz (by omega)), fun e => absurd e e7⟩
theorem lits_comp {scope : Int} : ∀ {ts : List Int} {ys : List Ex}, FKs scope ts ys → ys.all isLit = true → FOkL [] (comp0L ys) ∧ valL [] (comp0L ys) = ys.map litV ∧ naL ys
  | [], [], _, _ => ⟨trivial, rfl, trivial⟩
  | t :: ts, y :: ys, h, ha => by
    rw [List.all_cons, Bool.and_eq_true] at ha
    obtain ⟨a1, a2, a3, _⟩ := lit_comp h.1 ha.1
    obtain ⟨b1, b2, b3⟩ := lits_comp h.2 ha.2
    refine ⟨⟨a1, b1⟩, ?_, ⟨a3, b3⟩⟩
    rw [comp0L, valL, a2, b2]; rfl
/-- The simplifier. -/
def smS (lT kT : T) (m : List (List Nat × List T)) : List Ent :=
  [⟨1, .map (m.map fun p => sK p.1) (m.map fun p => T.agg p.2) false⟩, ⟨1, .cells [lT, .mp .S 0 1, kT] 0 true⟩]
section
variable (lT kT : T) (m : List (List Nat × List T))
theorem sm0 : getE (smS lT kT m) 0 = ⟨1, .map (m.map fun p => sK p.1) (m.map fun p => T.agg p.2) false⟩ := nr rfl
theorem sm1 : getE (smS lT kT m) 1 = ⟨1, .cells [lT, .mp .S 0 1, kT] 0 true⟩ := nr rfl
theorem sm0s (m' : List (List Nat × List T)) : setE (smS lT kT m) 0 ⟨1, .map (m'.map fun p => sK p.1) (m'.map fun p => T.agg p.2) false⟩ = smS lT kT m' := nr rfl
end
/-- The very form of a literal that the program makes. -/
def LitT (cs : List T) : Prop := (∃ op num, cs = [.i .i64 op, .i .i64 num, .s [], .nilsl]) ∨ ∃ ex op num, cs = [.i .i64 7, .i .i64 0, .s [], .sl [.i .i64 op, .i .i64 num, .s [], .nilsl] 1 ex]
theorem plitT_ev (k n : Int) (hn : bd n) : ∃ cs, DCall pE 148 [.i .i64 k, .i .i64 n] [] = some (.agg cs, []) ∧ IsEx (litX k n) cs ∧ LitT cs := by
  rw [p_fun fn148 (by simp [c148])]
  unfold litX
  have hw := wr_neg hn
  by_cases h4 : k = 4
  · subst h4
    by_cases h0 : n = 0
    · simp (maxDischargeDepth := 6) only [qF, qGO0, qGO1, qGO2, qGO3, qGO4, qGO5, Int.reduceNeg, buildV, splice, fills, Nat.reduceAdd, reduceCtorEq, Nat.reduceLT, Nat.reduceLeDiff, Nat.reduceEqDiff, Int.reduceLT, Int.reduceEq, c148, h0]; exact ⟨_, rfl, leaf_is _ _ _ nil_is, .inl ⟨_, _, rfl⟩⟩
    · simp (maxDischargeDepth := 6) only [qF, qGO0, qGO1, qGO2, qGO3, qGO4, qGO5, buildV, splice, fills, Nat.reduceAdd, reduceCtorEq, Nat.reduceLT, Nat.reduceLeDiff, Nat.reduceEqDiff, Int.reduceEq, c148, h0]; exact ⟨_, rfl, leaf_is _ _ _ nil_is, .inl ⟨_, _, rfl⟩⟩
  by_cases h3 : k = 3
  · subst h3
    simp (maxDischargeDepth := 6) only [qF, qGO0, qGO1, qGO2, qGO3, qGO4, qGO5, buildV, splice, fills, Nat.reduceAdd, reduceCtorEq, Nat.reduceLT, Nat.reduceLeDiff, Nat.reduceEqDiff, Int.reduceEq, c148]; exact ⟨_, rfl, leaf_is _ _ _ nil_is, .inl ⟨_, _, rfl⟩⟩
  by_cases h2 : k = 2
  · subst h2
    by_cases h0 : n < 0
    · simp (maxDischargeDepth := 6) only [qF, qGO0, qGO1, qGO2, qGO3, qGO4, qGO5, buildV, bslV, bslW, splice, fills, repl, Nat.reduceAdd, reduceCtorEq, Nat.reduceLT, Nat.reduceLeDiff, Nat.reduceEqDiff, Int.reduceEq, c148, h0, hw]; exact ⟨_, rfl, neg_is _ _, .inr ⟨_, _, _, rfl⟩⟩
    · simp (maxDischargeDepth := 6) only [qF, qGO0, qGO1, qGO2, qGO3, qGO4, qGO5, buildV, bslV, bslW, splice, fills, repl, Nat.reduceAdd, reduceCtorEq, Nat.reduceLT, Nat.reduceLeDiff, Nat.reduceEqDiff, Int.reduceEq, c148, h0]; exact ⟨_, rfl, leaf_is _ _ _ nil_is, .inl ⟨_, _, rfl⟩⟩
  · by_cases h0 : n < 0
    · simp (maxDischargeDepth := 6) only [qF, qGO0, qGO1, qGO2, qGO3, qGO4, qGO5, buildV, bslV, bslW, splice, fills, repl, Nat.reduceAdd, reduceCtorEq, Nat.reduceLT, Nat.reduceLeDiff, Nat.reduceEqDiff, c148, h2, h3, h4, h0, hw]; exact ⟨_, rfl, neg_is _ _, .inr ⟨_, _, _, rfl⟩⟩
    · simp (maxDischargeDepth := 6) only [qF, qGO0, qGO1, qGO2, qGO3, qGO4, qGO5, buildV, bslV, bslW, splice, fills, repl, Nat.reduceAdd, reduceCtorEq, Nat.reduceLT, Nat.reduceLeDiff, Nat.reduceEqDiff, c148, h2, h3, h4, h0]; exact ⟨_, rfl, leaf_is _ _ _ nil_is, .inl ⟨_, _, rfl⟩⟩
section
variable (lT kT : T) (hkT : froz kT = true)
include hkT
/-- A node of literals. -/
theorem redLit_ev {scope op k : Int} {ts : List Int} {ys : List Ex} (hys : FKs scope ts ys) (hall : ys.all isLit = true) (h7 : 7 ≤ op) (h22 : op ≤ 22) (har : arOk op ys.length = true) (hr : resK op ts = k) (hk : k ≠ 0) (hn : nodesL ys < 100000) (a : T) (cc : List T) (ha : IsSl a ys.length cc) (hx : IsExs ys cc) (m : List (List Nat × List T)) :
    ∃ cs, DCall pE 100 [.ptr .S 1 1 0, .agg [.i .i64 op, .i .i64 0, .s [], a]] (smS lT kT m) = some (.agg cs, smS lT kT m) ∧ IsEx (litX k (apS op (ys.map litV))) cs ∧ LitT cs := by
  have hnd := node_is op ys a cc ha hx
  obtain ⟨q1, q2, q3⟩ := lits_comp hys hall
  obtain ⟨hin, hkx⟩ := lits hys hall
  have hlen := hys.len
  obtain ⟨hv, hres⟩ := ap_ok hin h7 h22 (by rw [hlen]; exact har) hr hk
  have hll := nodesL_len ys
  have hneg : negOk ys := fun y hy h => by
    have : y.wf = true := wfL_mem.1 hys.wf y hy
    obtain ⟨_, _, yar, _⟩ := wf_node this
    rw [h] at yar; simp [arOk] at yar; omega
  have hcont := cont_ev ys hneg a cc ha hx (lim_of (by omega))
  rw [hall] at hcont
  obtain ⟨cf, hcmp, hcf⟩ := cmp_ev kT hkT 0 (.mk op 0 [] ys) _ hnd (by rw [Ex.nodes_eq]; show 1 + nodesL ys ≤ 100000; omega) ((Ex.na_eq _).2 ⟨by show op ≠ 6; omega, q3⟩)
  have hcomp : comp0 (.mk op 0 [] ys) = .mk op 0 (comp0L ys) := by
    rw [comp0_eq]
    show (if op = 1 ∨ op = 2 ∨ op = 3 then _ else if op = 4 then _ else if op = 5 then _ else _) = _
    rw [if_neg (by omega), if_neg (by omega), if_neg (by omega)]; rfl
  rw [hcomp] at hcf
  obtain ⟨fa, fc, rfl, hf1, hf2⟩ := hcf.cells
  have hcl : (comp0L ys).length = ys.length := by rw [comp0L_map]; simp
  have hval := val_ev [] .nilsl (Or.inl ⟨rfl, rfl, rfl⟩) (.mk op 0 (comp0L ys)) fa fc [] hf1 hf2 ((FOk_eq _ _).2 (.inr (.inr ⟨h7, h22, by show arOk op (comp0L ys).length = true; rw [hcl]; exact har, by show (comp0L ys).length ≤ Lim; rw [hcl]; exact lim_of (by omega), q1, by show vOk op (valL [] (comp0L ys)); rw [q2]; exact hv⟩)))
  have hvv : (Fm.mk op 0 (comp0L ys)).val [] = apS op (ys.map litV) := by
    rw [Fm.val_eq]
    show (if op = 1 then _ else if op = 6 then _ else apS op (valL [] (comp0L ys))) = _
    rw [if_neg (by omega), if_neg (by omega), q2]
  rw [hvv] at hval
  have hko := ko_ev (.mk op 0 [] ys) _ hnd (FK.mk (by omega) h22 (by omega) har hys hr hk).1
  rw [kX_node hkx h7 h22 (by rw [hlen]; exact har) hr hk] at hko
  obtain ⟨cs, hlit, hcs, hT⟩ := plitT_ev k (apS op (ys.map litV)) (inK_bd hres)
  have hfz : froz (.fn 147 [] []) = true := rfl
  have hc3 : ([T.i .i64 op, T.i .i64 0, fa] : List T).all froz1 = true := by simp [froz1_i, hf1.froz1]
  have hpf := fun lh sh keep (h : getO lh 5 = ⟨1, .cells [.i .i64 op, .i .i64 0, fa] 0 true⟩) => fzV_ptrF (sh := sh) (keep := keep) h hc3
  change DCall pE 92 [.vp [.i .i64 op, .i .i64 0, fa], .nilsl] [] = _ at hval
  change DCall pE 91 [kT, .i .i64 0, .agg [.i .i64 op, .i .i64 0, .s [], a]] [] = some (.agg [.i .i64 op, .i .i64 0, fa], []) at hcmp
  rw [p_fun fn100 (by simp [c100])]
  generalize apS op (ys.map litV) = v at *
  obtain ⟨la, lc, rfl, hl1, hl2⟩ := hcs.cells
  simp (maxDischargeDepth := 6) only [qF, qGO0, qGO1, qGO2, qGO3, qGO4, qGO5, splice, Nat.reduceAdd, reduceCtorEq, Nat.reduceLT, Nat.reduceEqDiff, qDR0, qDR1, getL, c100, hcont, dc146, ha.froz, ha.froz1, hfz, sm1, hkT, hcmp, dc91, dd91, hf1.froz1, hko, dc149, hval, dp92, hpf, hlit, dc148, hl1.froz1]
  exact ⟨_, rfl, hcs, hT⟩
end
end Go.Proofs.YtfenhjpkomldcaaGreat
namespace Go.Proofs.YtfenhjpkomldcaaGreat
open Go Go.Ev
theorem wf_neg {ys : List Ex} (h : wfL ys = true) : negOk ys := fun y hy h7 => by
  obtain ⟨_, _, yar, _⟩ := wf_node (wfL_mem.1 h y hy)
  rw [h7] at yar; simp [arOk] at yar; omega
theorem zero_do {d : Nat} {fr : Fr} {lh : Tri Ent} {sh : List Ent} (z : Ex) (b : T) (hb : froz1 b = true) : doCall pE (DCall pE) d ⟨fr, lh, sh⟩ 153 [.agg [.i .i64 z.op, .i .i64 z.num, .s z.name, b]] = some (.b (zeroX z), ⟨fr, lh, sh⟩) := by
  rw [dc153 (by simp [froz_agg, froz1_i, froz1_s, hb]), zero_all _ z b (.inl rfl)]; rfl
theorem one_do {d : Nat} {fr : Fr} {lh : Tri Ent} {sh : List Ent} (z : Ex) (b : T) (hb : froz1 b = true) : doCall pE (DCall pE) d ⟨fr, lh, sh⟩ 154 [.agg [.i .i64 z.op, .i .i64 z.num, .s z.name, b]] = some (.b (oneX z), ⟨fr, lh, sh⟩) := by
  rw [dc154 (by simp [froz_agg, froz1_i, froz1_s, hb]), one_all _ z b (.inl rfl)]; rfl
section
variable (lT kT : T) (m : List (List Nat × List T))
/-- Not of one. -/
theorem red1_ev (x : Ex) (hx1 : isLit x = false) (hw : x.wf = true) (a : T) (cc : List T) (ha : IsSl a 1 cc) (hx : IsExs [x] cc) :
    ∃ cs, DCall pE 100 [.ptr .S 1 1 0, .agg [.i .i64 19, .i .i64 0, .s [], a]] (smS lT kT m) = some (.agg cs, smS lT kT m) ∧ IsEx (if x.op = 19 then x.args.headD (leafX 0 0) else .mk 19 0 [] [x]) cs := by
  have hcont := cont_ev [x] (wf_neg (by rw [wfL, hw]; rfl)) a cc ha hx (lim_of (by simp))
  rw [show ([x] : List Ex).all isLit = false by simp [hx1]] at hcont
  obtain ⟨b0, r0, hia0, ⟨cb, hb1, hb2⟩, hf0, he0⟩ := argJ (xs := [x]) ha hx 0 (by simp) 0 rfl
  simp only [List.getElem_cons_zero] at hia0 he0 hb1 hb2
  have hn := node_is 19 [x] a cc ha hx
  have hfz : froz (.fn 147 [] []) = true := rfl
  rw [p_fun fn100 (by simp [c100])]
  by_cases h19 : x.op = 19
  · rw [if_pos h19]
    have hlen : 0 < x.args.length := by
      obtain ⟨_, _, yar, _⟩ := wf_node hw
      rw [h19] at yar; simp [arOk] at yar; omega
    obtain ⟨b1, r1, hia1, _, hf1, he1⟩ := argJ hb1 hb2 0 hlen 0 rfl
    have hh : x.args.headD (leafX 0 0) = x.args[0] := by
      generalize x.args = l at hlen
      cases l with
      | nil => simp at hlen
      | cons y ys => rfl
    rw [hh]
    simp (maxDischargeDepth := 6) only [qF, qGO0, qGO1, qGO2, qGO3, qGO4, qGO5, splice, Nat.reduceAdd, reduceCtorEq, Nat.reduceLT, Nat.reduceLeDiff, Nat.reduceEqDiff, Int.reduceEq, c100, hcont, dc146, ha.froz, hfz, hia0, h19, hia1, hf1]
    exact ⟨_, rfl, he1⟩
  · rw [if_neg h19]
    simp (maxDischargeDepth := 6) only [qF, qGO0, qGO1, qGO2, qGO3, qGO4, qGO5, splice, Nat.reduceAdd, reduceCtorEq, Nat.reduceLT, Nat.reduceLeDiff, Nat.reduceEqDiff, Int.reduceEq, c100, hcont, dc146, ha.froz, hfz, ha.froz1, hia0, h19]
    exact ⟨_, rfl, hn⟩
/-- An implication. -/
theorem impl_ev (x y : Ex) (hl : ([x, y] : List Ex).all isLit = false) (hwx : x.wf = true) (a : T) (cc : List T) (ha : IsSl a 2 cc) (hx : IsExs [x, y] cc) :
    ∃ cs, DCall pE 151 [.ptr .S 1 1 0, .agg [.i .i64 22, .i .i64 0, .s [], a]] (smS lT kT m) = some (.agg cs, smS lT kT m) ∧ IsEx (red2 22 x y) cs := by
  obtain ⟨b0, r0, hia0, ⟨c0, hb0, hc0⟩, hf0, he0⟩ := argJ (xs := [x, y]) ha hx 0 (by simp) 0 rfl
  obtain ⟨b1, r1, hia1, _, hf1, he1⟩ := argJ (xs := [x, y]) ha hx 1 (by simp) 1 rfl
  simp only [List.getElem_cons_zero, List.getElem_cons_succ] at hia0 hia1 he0 he1 hb0 hc0
  have hn := node_is 22 [x, y] a cc ha hx
  have hk0 : kept1 b0 = true := kept1_of hf0
  rw [p_fun fn151 (by simp [c151])]
  show ∃ cs, _ ∧ IsEx (if x.op = 5 ∨ y.op = 4 then leafX 4 0 else if x.op = 4 then y else if y.op = 5 then (if x.op = 19 then x.args.headD (leafX 0 0) else .mk 19 0 [] [x]) else .mk 22 0 [] [x, y]) cs
  by_cases a5 : x.op = 5
  · simp (maxDischargeDepth := 6) only [qF, qGO0, qGO1, qGO2, qGO3, qGO4, qGO5, buildV, bslV, bslW, splice, fills, repl, Nat.reduceAdd, reduceCtorEq, Nat.reduceLT, Nat.reduceLeDiff, Nat.reduceEqDiff, Int.reduceEq, qDR0, qDR1, getL, c151, hia0, hia1, hf0, hf1, a5, true_or]
    exact ⟨_, rfl, leaf_is _ _ _ nil_is⟩
  by_cases b4 : y.op = 4
  · simp (maxDischargeDepth := 6) only [qF, qGO0, qGO1, qGO2, qGO3, qGO4, qGO5, buildV, bslV, bslW, splice, fills, repl, Nat.reduceAdd, reduceCtorEq, Nat.reduceLT, Nat.reduceLeDiff, Nat.reduceEqDiff, Int.reduceEq, qDR0, qDR1, getL, c151, hia0, hia1, hf0, hf1, a5, b4, or_true]
    exact ⟨_, rfl, leaf_is _ _ _ nil_is⟩
  by_cases a4 : x.op = 4
  · simp (maxDischargeDepth := 6) only [qF, qGO0, qGO1, qGO2, qGO3, qGO4, qGO5, buildV, bslV, bslW, splice, fills, repl, Nat.reduceAdd, reduceCtorEq, Nat.reduceLT, Nat.reduceLeDiff, Nat.reduceEqDiff, Int.reduceEq, qDR0, qDR1, getL, c151, hia0, hia1, hf0, hf1, b4, a4, or_self]
    exact ⟨_, rfl, he1⟩
  by_cases b5 : y.op = 5
  · have hx1 : isLit x = false := by
      have hy : isLit y = true := by rw [isLit_eq y (fun h => absurd (h.symm.trans b5) (by decide)), b5]; rfl
      simpa [hy] using hl
    obtain ⟨cs, hred, hcs⟩ := red1_ev lT kT m x hx1 hwx (.sl [.i .i64 x.op, .i .i64 x.num, .s x.name, b0] 1 true) _ (Or.inr ⟨true, rfl⟩) (IsExs.one he0)
    obtain ⟨la, lc, rfl, hl1, hl2⟩ := hcs.cells
    rw [b5] at he1 hia1
    simp (maxDischargeDepth := 6) only [qF, qGO0, qGO1, qGO2, qGO3, qGO4, qGO5, buildV, bslV, bslW, splice, fills, repl, Nat.reduceAdd, reduceCtorEq, Nat.reduceLT, Nat.reduceLeDiff, Nat.reduceEqDiff, Int.reduceEq, qDR0, qDR1, getL, qKP0, c151, hia0, hia1, hf0, hf1, a5, b5, a4, or_self, hred, dc100, hl1.froz1]
    exact ⟨_, rfl, hcs⟩
  · simp (maxDischargeDepth := 6) only [qF, qGO0, qGO1, qGO2, qGO3, qGO4, qGO5, buildV, bslV, bslW, splice, fills, repl, Nat.reduceAdd, reduceCtorEq, Nat.reduceLT, Nat.reduceLeDiff, Nat.reduceEqDiff, qDR0, qDR1, getL, c151, hia0, hia1, hf0, hf1, ha.froz1, a5, b4, a4, b5, or_self]
    exact ⟨_, rfl, hn⟩
end
end Go.Proofs.YtfenhjpkomldcaaGreat
namespace Go.Proofs.YtfenhjpkomldcaaGreat
open Go Go.Ev
theorem exs2 {ys : List Ex} (h : ys.length = 2) : ∃ x y, ys = [x, y] := by
  match ys, h with
  | [x, y], _ => exact ⟨x, y, rfl⟩
theorem exs3 {ys : List Ex} (h : ys.length = 3) : ∃ x y z, ys = [x, y, z] := by
  match ys, h with
  | [x, y, z], _ => exact ⟨x, y, z, rfl⟩
theorem exs1 {ys : List Ex} (h : ys.length = 1) : ∃ x, ys = [x] := by
  match ys, h with
  | [x], _ => exact ⟨x, rfl⟩
section
variable (lT kT : T) (m : List (List Nat × List T))
/-- A node that is not of literals alone. -/
theorem redN_ev {op : Int} {ys : List Ex} (hall : ys.all isLit = false) (hwf : wfL ys = true) (h7 : 7 ≤ op) (h22 : op ≤ 22) (har : arOk op ys.length = true) (hn : nodesL ys < 100000) (a : T) (cc : List T) (ha : IsSl a ys.length cc) (hx : IsExs ys cc) :
    ∃ cs, DCall pE 100 [.ptr .S 1 1 0, .agg [.i .i64 op, .i .i64 0, .s [], a]] (smS lT kT m) = some (.agg cs, smS lT kT m) ∧ IsEx (redX op ys) cs := by
  have hll := nodesL_len ys
  have hcont := cont_ev ys (wf_neg hwf) a cc ha hx (lim_of (by omega))
  rw [hall, Bool.not_false] at hcont
  have hnd := node_is op ys a cc ha hx
  have hfz : froz (.fn 147 [] []) = true := rfl
  have hfz0 : froz (.fn 153 [] []) = true := rfl
  have hfz1 : froz (.fn 154 [] []) = true := rfl
  have same : ∀ op', op = op' → (op' = 7 ∨ op' = 12 ∨ op' = 13 ∨ op' = 15 ∨ op' = 16 ∨ op' = 17 ∨ op' = 18) → redX op ys = .mk op 0 [] ys := by
    rintro op' rfl ho
    match ys with
    | [] => rfl
    | [x] => show (if op = 19 ∧ x.op = 19 then _ else _) = _; rw [if_neg (by omega)]
    | [x, y] =>
      rw [redX_two]; unfold red2
      rw [if_neg (by omega), if_neg (by omega), if_neg (by omega), if_neg (by omega), if_neg (by omega), if_neg (by omega), if_neg (by omega)]
    | [x, y, z] => show (if op = 14 then _ else _) = _; rw [if_neg (by omega)]
    | _ :: _ :: _ :: _ :: _ => rfl
  have hsame : (op = 7 ∨ op = 12 ∨ op = 13 ∨ op = 15 ∨ op = 16 ∨ op = 17 ∨ op = 18) → ∃ cs, DCall pE 100 [.ptr .S 1 1 0, .agg [.i .i64 op, .i .i64 0, .s [], a]] (smS lT kT m) = some (.agg cs, smS lT kT m) ∧ IsEx (redX op ys) cs := by
    intro ho
    rw [same op rfl ho, p_fun fn100 (by simp [c100])]
    rcases ho with rfl | rfl | rfl | rfl | rfl | rfl | rfl <;>
      (simp (maxDischargeDepth := 6) only [qF, qGO0, qGO1, qGO2, qGO3, qGO4, qGO5, splice, Nat.reduceAdd, reduceCtorEq, Nat.reduceLT, Nat.reduceEqDiff, Int.reduceEq, c100, hcont, dc146, ha.froz, hfz, ha.froz1]; exact ⟨_, rfl, hnd⟩)
  rcases op_cases (show 1 ≤ op by omega) h22 with rfl | rfl | rfl | rfl | rfl | rfl | rfl | rfl | rfl | rfl | rfl | rfl | rfl | rfl | rfl | rfl | rfl | rfl | rfl | rfl | rfl | rfl
  iterate 6 · omega
  · exact hsame (by simp)
  · obtain ⟨x, y, rfl⟩ := exs2 (ys := ys) (by simpa [arOk] using har)
    obtain ⟨cs, hc, hcs⟩ := neutral_ev 8 153 zeroX true (fun z b hb d fr lh sh => zero_do z b hb) x y a cc ha hx
    obtain ⟨la, lc, rfl, hl1, hl2⟩ := hcs.cells
    rw [p_fun fn100 (by simp [c100])]
    simp (maxDischargeDepth := 6) only [qF, qGO0, qGO1, qGO2, qGO3, qGO4, qGO5, splice, Nat.reduceAdd, reduceCtorEq, Nat.reduceLT, Nat.reduceEqDiff, Int.reduceEq, c100, hcont, dc146, ha.froz, hfz, ha.froz1, hc, dc152, hfz0, hl1.froz1]
    exact ⟨_, rfl, by simpa [redX_two, red2] using hcs⟩
  · obtain ⟨x, y, rfl⟩ := exs2 (ys := ys) (by simpa [arOk] using har)
    obtain ⟨cs, hc, hcs⟩ := neutral_ev 9 153 zeroX false (fun z b hb d fr lh sh => zero_do z b hb) x y a cc ha hx
    obtain ⟨la, lc, rfl, hl1, hl2⟩ := hcs.cells
    rw [p_fun fn100 (by simp [c100])]
    simp (maxDischargeDepth := 6) only [qF, qGO0, qGO1, qGO2, qGO3, qGO4, qGO5, splice, Nat.reduceAdd, reduceCtorEq, Nat.reduceLT, Nat.reduceEqDiff, Int.reduceEq, c100, hcont, dc146, ha.froz, hfz, ha.froz1, hc, dc152, hfz0, hl1.froz1]
    exact ⟨_, rfl, by simpa [redX_two, red2] using hcs⟩
  · obtain ⟨x, y, rfl⟩ := exs2 (ys := ys) (by simpa [arOk] using har)
    obtain ⟨cs, hc, hcs⟩ := neutral_ev 10 154 oneX true (fun z b hb d fr lh sh => one_do z b hb) x y a cc ha hx
    obtain ⟨la, lc, rfl, hl1, hl2⟩ := hcs.cells
    rw [p_fun fn100 (by simp [c100])]
    simp (maxDischargeDepth := 6) only [qF, qGO0, qGO1, qGO2, qGO3, qGO4, qGO5, splice, Nat.reduceAdd, reduceCtorEq, Nat.reduceLT, Nat.reduceEqDiff, Int.reduceEq, c100, hcont, dc146, ha.froz, hfz, ha.froz1, hc, dc152, hfz1, hl1.froz1]
    exact ⟨_, rfl, by simpa [redX_two, red2] using hcs⟩
  · obtain ⟨x, y, rfl⟩ := exs2 (ys := ys) (by simpa [arOk] using har)
    obtain ⟨cs, hc, hcs⟩ := neutral_ev 11 154 oneX false (fun z b hb d fr lh sh => one_do z b hb) x y a cc ha hx
    obtain ⟨la, lc, rfl, hl1, hl2⟩ := hcs.cells
    rw [p_fun fn100 (by simp [c100])]
    simp (maxDischargeDepth := 6) only [qF, qGO0, qGO1, qGO2, qGO3, qGO4, qGO5, splice, Nat.reduceAdd, reduceCtorEq, Nat.reduceLT, Nat.reduceEqDiff, Int.reduceEq, c100, hcont, dc146, ha.froz, hfz, ha.froz1, hc, dc152, hfz1, hl1.froz1]
    exact ⟨_, rfl, by simpa [redX_two, red2] using hcs⟩
  · exact hsame (by simp)
  · exact hsame (by simp)
  · obtain ⟨x, y, z, rfl⟩ := exs3 (ys := ys) (by simpa [arOk] using har)
    obtain ⟨b0, r0, hia0, _, hf0, he0⟩ := argJ ha hx 0 (by simp) 0 rfl
    obtain ⟨b1, r1, hia1, _, hf1, he1⟩ := argJ ha hx 1 (by simp) 1 rfl
    obtain ⟨b2, r2, hia2, _, hf2, he2⟩ := argJ ha hx 2 (by simp) 2 rfl
    simp only [List.getElem_cons_zero, List.getElem_cons_succ] at hia0 hia1 hia2 he0 he1 he2
    rw [p_fun fn100 (by simp [c100])]
    show ∃ cs, _ ∧ IsEx (if x.op = 4 then y else if x.op = 5 then z else .mk 14 0 [] [x, y, z]) cs
    by_cases a4 : x.op = 4
    · simp (maxDischargeDepth := 6) only [qF, qGO0, qGO1, qGO2, qGO3, qGO4, qGO5, splice, Nat.reduceAdd, reduceCtorEq, Nat.reduceLT, Nat.reduceLeDiff, Nat.reduceEqDiff, Int.reduceEq, c100, hcont, dc146, ha.froz, hfz, hia0, hia1, hf1, a4]
      exact ⟨_, rfl, he1⟩
    by_cases a5 : x.op = 5
    · simp (maxDischargeDepth := 6) only [qF, qGO0, qGO1, qGO2, qGO3, qGO4, qGO5, splice, Nat.reduceAdd, reduceCtorEq, Nat.reduceLT, Nat.reduceLeDiff, Nat.reduceEqDiff, Int.reduceEq, c100, hcont, dc146, ha.froz, hfz, hia0, hia1, hia2, hf2, a5]
      exact ⟨_, rfl, he2⟩
    · simp (maxDischargeDepth := 6) only [qF, qGO0, qGO1, qGO2, qGO3, qGO4, qGO5, splice, Nat.reduceAdd, reduceCtorEq, Nat.reduceLT, Nat.reduceLeDiff, Nat.reduceEqDiff, Int.reduceEq, c100, hcont, dc146, ha.froz, hfz, ha.froz1, hia0, hia1, hia2, a4, a5]
      exact ⟨_, rfl, hnd⟩
  iterate 4 · exact hsame (by simp)
  · obtain ⟨x, rfl⟩ := exs1 (ys := ys) (by simpa [arOk] using har)
    obtain ⟨cs, h1, h2⟩ := red1_ev lT kT m x (by simpa using hall) (by rw [wfL, Bool.and_eq_true] at hwf; exact hwf.1) a cc ha hx
    refine ⟨cs, h1, ?_⟩
    show IsEx (if (19 : Int) = 19 ∧ x.op = 19 then _ else _) cs
    simpa using h2
  · obtain ⟨x, y, rfl⟩ := exs2 (ys := ys) (by simpa [arOk] using har)
    obtain ⟨cs, hc, hcs⟩ := junction_ev 20 (.inl rfl) x y a cc ha hx
    obtain ⟨la, lc, rfl, hl1, hl2⟩ := hcs.cells
    rw [p_fun fn100 (by simp [c100])]
    simp (maxDischargeDepth := 6) only [qF, qGO0, qGO1, qGO2, qGO3, qGO4, qGO5, splice, Nat.reduceAdd, reduceCtorEq, Nat.reduceLT, Nat.reduceEqDiff, Int.reduceEq, c100, hcont, dc146, ha.froz, hfz, ha.froz1, hc, dc150, hl1.froz1]
    exact ⟨_, rfl, hcs⟩
  · obtain ⟨x, y, rfl⟩ := exs2 (ys := ys) (by simpa [arOk] using har)
    obtain ⟨cs, hc, hcs⟩ := junction_ev 21 (.inr rfl) x y a cc ha hx
    obtain ⟨la, lc, rfl, hl1, hl2⟩ := hcs.cells
    rw [p_fun fn100 (by simp [c100])]
    simp (maxDischargeDepth := 6) only [qF, qGO0, qGO1, qGO2, qGO3, qGO4, qGO5, splice, Nat.reduceAdd, reduceCtorEq, Nat.reduceLT, Nat.reduceEqDiff, Int.reduceEq, c100, hcont, dc146, ha.froz, hfz, ha.froz1, hc, dc150, hl1.froz1]
    exact ⟨_, rfl, hcs⟩
  · obtain ⟨x, y, rfl⟩ := exs2 (ys := ys) (by simpa [arOk] using har)
    obtain ⟨cs, hc, hcs⟩ := impl_ev lT kT m x y hall (by rw [wfL, Bool.and_eq_true] at hwf; exact hwf.1) a cc ha hx
    obtain ⟨la, lc, rfl, hl1, hl2⟩ := hcs.cells
    rw [p_fun fn100 (by simp [c100])]
    simp (maxDischargeDepth := 6) only [qF, qGO0, qGO1, qGO2, qGO3, qGO4, qGO5, splice, Nat.reduceAdd, reduceCtorEq, Nat.reduceLT, Nat.reduceEqDiff, Int.reduceEq, qKP0, c100, hcont, dc146, ha.froz, hfz, ha.kept1, hc, dc151, hl1.froz1]
    exact ⟨_, rfl, hcs⟩
end
end Go.Proofs.YtfenhjpkomldcaaGreat
namespace Go.Proofs.YtfenhjpkomldcaaGreat
open Go Go.Ev
theorem cl0_ev : DCall pE 143 [.nilsl] [] = some (.nilsl, []) := dcall_of (m := 20) (by_callK (by kernel_rfl))
theorem eqsl_sl {cs : List T} {n : Nat} {e : Bool} : eqT .sl (.sl cs n e) .nilsl = some false := rfl
theorem cl1_ev (c0 c1 c2 c3 : T) (ex : Bool) : DCall pE 143 [.sl [c0, c1, c2, c3] 1 ex] [] = some (.sl [c0, c1, c2, c3] 1 false, []) := by
  rw [p_funO fn143 (by simp [c143])]
  have hr : 1 * 56 ≤ roomy := by decide
  simp (maxDischargeDepth := 6) only [qF, qGO0, qGO1, qGO2, qGO3, qGO4, qGO5, appW, bslV, bslW, fills, repl, Nat.reduceAdd, reduceCtorEq, Nat.reduceLT, Nat.reduceLeDiff, Nat.reduceEqDiff, c143, eqsl_sl, bne_self_eq_false, roomy]
  exact ansO_isl (wm := 0) (by simp (maxDischargeDepth := 6) only [qGO2]) rfl (by decide)
theorem leafT_ev (op num : Int) : DCall pE 98 [.agg [.i .i64 op, .i .i64 num, .s [], .nilsl]] [] = some (.agg [.i .i64 op, .i .i64 num, .s [], .nilsl], []) := by
  rw [p_fun fn98 (by simp [c98])]
  have h := cl0_ev
  simp (maxDischargeDepth := 6) only [qF, qGO0, qGO1, qGO2, qGO3, qGO4, qGO5, splice, Nat.reduceAdd, Nat.reduceLT, Nat.reduceEqDiff, Int.reduceLT, c98, h, dc143, ownRes_nil, DC_loop, c98_L1]
theorem negT_ev (op num : Int) (ex : Bool) : DCall pE 98 [.agg [.i .i64 7, .i .i64 0, .s [], .sl [.i .i64 op, .i .i64 num, .s [], .nilsl] 1 ex]] [] = some (.agg [.i .i64 7, .i .i64 0, .s [], .sl [.i .i64 op, .i .i64 num, .s [], .nilsl] 1 false], []) := by
  rw [p_fun fn98 (by simp [c98])]
  have h := cl1_ev (.i .i64 op) (.i .i64 num) (.s []) .nilsl ex
  have hl := leafT_ev op num
  have hall : ([T.i .i64 op, T.i .i64 num, T.s [], T.nilsl] : List T).all scal1 = true := rfl
  have how := fun d fr lh sh us => ownRes_sl (d := d) (len := 1) (us := us) (ex := false) (fr := fr) (lh := lh) (sh := sh) hall (by simp)
  have hd : ([T.i .i64 op, T.i .i64 num, T.s [], T.nilsl] : List T).length / 1 = 4 := by simp
  simp only [hd] at how
  simp (maxDischargeDepth := 6) only [qF, qGO0, qGO1, qGO2, qGO3, qGO4, qGO5, Int.reduceAdd, Int.reduceNeg, splice, Nat.reduceAdd, Nat.reduceLT, Nat.reduceEqDiff, Int.reduceToNat, Int.reduceLE, Int.reduceLT, qDR0, getL, c98, h, dc143, how, DC_loop, c98_L1, hl, dc98, dd98]
/-- A literal's clone is that literal. -/
theorem clone_ev {y : Ex} {cs : List T} (hT : LitT cs) (hx : IsEx y cs) : ∃ cs', DCall pE 98 [.agg cs] [] = some (.agg cs', []) ∧ IsEx y cs' ∧ LitT cs' := by
  rcases hT with ⟨op, num, rfl⟩ | ⟨ex, op, num, rfl⟩
  · exact ⟨_, leafT_ev op num, hx, .inl ⟨_, _, rfl⟩⟩
  · refine ⟨_, negT_ev op num ex, ?_, .inr ⟨_, _, _, rfl⟩⟩
    obtain ⟨a, cc, e, h1, h2⟩ := hx.cells
    simp only [List.cons.injEq, T.i.injEq, T.s.injEq, true_and, and_true] at e
    obtain ⟨e1, e2, e3, e4⟩ := e
    have hlen : y.args.length = 1 ∧ cc = [.i .i64 op, .i .i64 num, .s [], .nilsl] := by
      rcases h1 with ⟨h, _⟩ | ⟨ex', h⟩
      · rw [h] at e4; cases e4
      · rw [h] at e4; injection e4 with q1 q2 q3; exact ⟨q2.symm, q1.symm⟩
    have := IsEx.of (x := y) (a := .sl [.i .i64 op, .i .i64 num, .s [], .nilsl] 1 false) (cc := cc) (Or.inr ⟨false, by rw [hlen.1, hlen.2]⟩) h2
    rw [← e1, ← e2, ← e3] at this
    exact this
end Go.Proofs.YtfenhjpkomldcaaGreat
namespace Go.Proofs.YtfenhjpkomldcaaGreat
open Go Go.Ev
theorem isName_ev (c : List Nat) (b0 b1 b2 b3 : T) (s : List Nat) (h0 : froz1 b0 = true) : DCall pE 145 [.agg [.s c, b0, b1, b2, b3], .vp [.s s]] [] = some (.b (decide (c = s)), []) := by
  rw [p_fun fn145 (by simp [c145])]
  simp (maxDischargeDepth := 6) only [qF, qGO0, qGO1, qGO2, qGO3, qGO4, qGO5, reduceCtorEq, Nat.reduceLT, Nat.reduceEqDiff, c145]
theorem ixf1 (l : Cs) (s : List Nat) (a : T) (cc : List T) (ha : IsSl a l.length cc) (hc : IsCl l cc) (hs : l.length ≤ Lim) (o : Out) (ho : o = if idxC l s = none then .ext 0 else .ret) (fr : Fr) (lh : Tri Ent) (sh : List Ent) (h0 : getF fr 0 = a) (h1 : getF fr 1 = .fn 145 [] [.vp [.s s]]) (h7 : getF fr 7 = .i .i64 (l.length : Int)) (h8 : getF fr 8 = .i .i64 0) :
    DC pE 19 (.loop c144_L1) ⟨fr, lh, sh⟩ = some (o, ⟨frL pE 19 c144_L1 fr lh sh, lhL pE 19 c144_L1 fr lh sh, shL pE 19 c144_L1 fr lh sh⟩) ∧
    ((∀ i, idxC l s = some i → getF (frL pE 19 c144_L1 fr lh sh) 4 = .i .i64 (i : Int)) ∧ lhL pE 19 c144_L1 fr lh sh = lh ∧ shL pE 19 c144_L1 fr lh sh = sh) := by
  refine loop_rule (P := fun fr lh' sh' => (∀ i, idxC l s = some i → getF fr 4 = .i .i64 (i : Int)) ∧ lh' = lh ∧ sh' = sh) (loop_inv (fun k st => ∃ fr : Fr, st = ⟨fr, lh, sh⟩ ∧ getF fr 0 = a ∧ getF fr 1 = .fn 145 [] [.vp [.s s]] ∧ getF fr 7 = .i .i64 (l.length : Int) ∧ getF fr 8 = .i .i64 (k : Int) ∧ k ≤ l.length ∧ ∀ j (h : j < k) (hl : j < l.length), l[j].1 ≠ s) _ l.length ?_ ?_ 0 _ (Nat.zero_le _) ⟨fr, rfl, h0, h1, h7, h8, Nat.zero_le _, by simp⟩)
  · rintro k _ hk ⟨fr, rfl, h0, h1, h7, h8, hkl, hno⟩
    have hk' : (k : Int) < l.length := by omega
    have hw := wr_succL (k := k) (by omega)
    have hd := idxC_drop k hkl hno
    rw [List.drop_eq_getElem_cons hk, idxC] at hd
    obtain ⟨b, cb, r, hia, hb1, _, _⟩ := const_at ha hc k hk
    have hcall := isName_ev l[k].1 (.i .i64 l[k].2.op) (.i .i64 l[k].2.num) (.s l[k].2.name) b s rfl
    by_cases hcc : l[k].1 = s
    · right
      rw [if_pos hcc] at hd
      rw [decide_eq_true hcc] at hcall
      simp only [Option.map_some, Nat.zero_add] at hd
      simp (maxDischargeDepth := 6) only [qF, qGO0, qGO1, qGO2, qGO3, qGO4, doCallV, reduceCtorEq, Nat.reduceLT, Nat.reduceLeDiff, Nat.reduceEqDiff, c144_L1, h0, h1, h7, h8, hk', hia, hcall, dc145, hb1.froz1]
      refine ⟨_, _, (by simp : Out.ret ≠ .nrm), rfl, by rw [ho, hd]; rfl, fun i hi => ?_, rfl, rfl⟩
      rw [hd] at hi
      cases hi
      simp (maxDischargeDepth := 6) only [qGO2]
    · left
      rw [decide_eq_false hcc] at hcall
      simp (maxDischargeDepth := 6) only [qF, qGO0, qGO1, qGO2, qGO3, qGO4, doCallV, reduceCtorEq, Nat.reduceLT, Nat.reduceLeDiff, Nat.reduceEqDiff, c144_L1, h0, h1, h7, h8, hk', hia, hw, hcall, dc145, hb1.froz1]
      refine ⟨_, rfl, _, rfl, ?_, ?_, ?_, ?_, by omega, ?_⟩
      all_goals first | (simp (maxDischargeDepth := 6) only [qGO2, qGO4, reduceCtorEq, Nat.reduceEqDiff, h0, h1, h7]; done) | skip
      intro j hj hl
      by_cases e : j = k
      · subst e; exact hcc
      · exact hno j (by omega) hl
  · rintro _ ⟨fr, rfl, h0, h1, h7, h8, hkl, hno⟩
    have hd := idxC_drop l.length hkl hno
    rw [List.drop_length, idxC] at hd
    simp (maxDischargeDepth := 6) only [qGO0, qGO1, qGO2, qGO4, qGO5, Nat.reduceLT, c144_L1, h7, h8, Int.lt_irrefl]
    refine ⟨_, _, (by simp : Out.ext 0 ≠ .nrm), rfl, by rw [ho, hd]; rfl, fun i hi => ?_, rfl, rfl⟩
    rw [hd] at hi; cases hi
theorem ixf_ev (l : Cs) (s : List Nat) (a : T) (cc : List T) (ha : IsSl a l.length cc) (hc : IsCl l cc) (hs : l.length ≤ Lim) : DCall pE 144 [a, .fn 145 [] [.vp [.s s]]] [] = some (.i .i64 (idxV l s), []) := by
  have hL := fun fr lh sh => ixf1 l s a cc ha hc hs _ rfl fr lh sh
  rw [p_fun fn144 (by simp [c144])]
  cases hd : idxC l s with
  | none =>
    rw [idxV_none hd]
    simp only [hd, if_true, reduceCtorEq, false_implies, implies_true, true_and] at hL
    simp (maxDischargeDepth := 6) only [qF, qGO0, qGO1, qGO2, qGO3, qGO4, Int.reduceNeg, reduceCtorEq, Nat.reduceLT, Nat.reduceEqDiff, c144, ha.lenI, hL]
  | some i =>
    rw [idxV_some hd]
    simp only [hd, reduceCtorEq, if_false, Option.some.injEq, forall_eq'] at hL
    simp (maxDischargeDepth := 6) only [qF, qGO0, qGO1, qGO2, qGO3, qGO4, Int.reduceNeg, reduceCtorEq, Nat.reduceLT, Nat.reduceEqDiff, c144, ha.lenI, hL]
/-- A closure over one own variable, frozen. -/
theorem fzV_fnF {lh : Tri Ent} {sh : List Ent} {keep : Bool} {f k g wm : Nat} {cs : List T} {bx : Bool} (h : getO lh k = ⟨g, .cells cs wm bx⟩) (hc : cs.all froz1 = true) : fzV lh sh keep (.fn f [] [.ptr .L k g 0]) = some (.fn f [] [.vp cs], [(.L, k, ⟨g, .cells cs cs.length bx⟩)]) := by
  unfold fzV fzFuel
  have hk : (keep && Sp.L == Sp.S) = false := by cases keep <;> rfl
  have h' : (St.mk .nil lh sh).get .L k = ⟨g, .cells cs wm bx⟩ := h
  have hm : mapQ (fz false 6) cs = .ret (cs, []) := by
    clear h h'
    induction cs with
    | nil => rfl
    | cons c cs ih =>
      rw [List.all_cons, Bool.and_eq_true] at hc
      simp only [mapQ, fz_froz1 hc.1, ih hc.2, Q.bind, List.append_nil]
  have hs : fz keep 8 (T.fn f [] [T.ptr .L k g 0]) = (mapQ (fz keep 7) []).bind fun p => (mapQ (fz keep 7) [T.ptr .L k g 0]).bind fun q => Q.ret (T.fn f p.1 q.1, p.2 ++ q.2) := rfl
  have hp : fz keep 7 (T.ptr .L k g 0) = if (keep && Sp.L == Sp.S) = true then Q.ret (T.ptr .L k g 0, []) else Q.rd .L k fun e =>
      if e.g = g then match e.ob with
        | .cells cs _ bx => (mapQ (fz false 6) (cs.drop 0)).bind fun q => .ret (.vp q.1, q.2 ++ [(.L, k, ⟨g, .cells cs cs.length bx⟩)])
        | _ => .fail
      else .fail := rfl
  rw [hs]
  simp only [mapQ, Q.bind, hp, hk, Bool.false_eq_true, if_false, Q.run, h', if_true, List.drop_zero, hm, List.nil_append, List.append_nil]
end Go.Proofs.YtfenhjpkomldcaaGreat
