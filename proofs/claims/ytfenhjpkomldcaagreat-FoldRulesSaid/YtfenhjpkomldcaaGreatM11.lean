/- Constants and their values; simplified forms by them. The size of simplified forms. The program's simplifier: the loop over arguments. The program's simplifier. Conditions: the theorems' own. -/
import Derived.Test.YtfenhjpkomldcaaGreatM10
import Derived.KernelRfl
set_option maxRecDepth 100000
set_option linter.unusedSimpArgs false
set_option linter.unusedVariables false
set_option linter.unusedSectionVars false
set_option maxHeartbeats 16000000
namespace Go.Proofs.YtfenhjpkomldcaaGreat
open Go Go.Ev
mutual
/-- The value of an expression without attributes; vx: those of the constants. -/
def Ex.val0 (vx : List Nat → Int) : Ex → Int
  | .mk op num name args => if op = 6 then vx name else if op = 1 ∨ op = 2 ∨ op = 3 then num else if op = 4 then 1 else if op = 5 then 0 else apS op (val0L vx args)
def val0L (vx : List Nat → Int) : List Ex → List Int
  | [] => []
  | x :: xs => x.val0 vx :: val0L vx xs
end
theorem Ex.val0_eq (vx : List Nat → Int) (x : Ex) : x.val0 vx = if x.op = 6 then vx x.name else if x.op = 1 ∨ x.op = 2 ∨ x.op = 3 then x.num else if x.op = 4 then 1 else if x.op = 5 then 0 else apS x.op (val0L vx x.args) := by obtain ⟨_, _, _, _⟩ := x; rw [Ex.val0]; rfl
theorem val0L_map (vx : List Nat → Int) : ∀ xs, val0L vx xs = xs.map (Ex.val0 vx)
  | [] => rfl
  | x :: xs => by rw [val0L, val0L_map vx xs]; rfl
/-- The simplified forms of constants. -/
def cxv (cl : List Nat → Int × Int) (vx : List Nat → Int) (s : List Nat) : Ex := litX (cl s).1 (vx s)
def vxOk (cl : List Nat → Int × Int) (vx : List Nat → Int) : Prop := ∀ s t, cl s = (t, 0) → inK t (vx s)
theorem cxv_ok {cl : List Nat → Int × Int} {vx : List Nat → Int} (h : vxOk cl vx) : cxOk cl (cxv cl vx) := fun s t hs => ⟨vx s, by unfold cxv; rw [hs], h s t hs⟩
/-- Without attributes all is literal. -/
theorem leaf_lit {cl : List Nat → Int × Int} {scope : Int} {x : Ex} {k : Int} (hwf : x.wf = true) (ht : x.ty cl scope = (k, 0)) (h6 : x.op ≠ 6) (hnil : x.args = []) : x = litX k (if x.op = 1 ∨ x.op = 2 ∨ x.op = 3 then x.num else if x.op = 4 then 1 else 0) ∧ inK k (if x.op = 1 ∨ x.op = 2 ∨ x.op = 3 then x.num else if x.op = 4 then 1 else 0) ∧ x.op ≤ 5 := by
  obtain ⟨h1, h2, har, hnum, hname, hwl⟩ := wf_node hwf
  have h5 : x.op ≤ 6 := ar_zero h2 har (by rw [hnil]; rfl)
  rw [Ex.ty_eq, if_neg h6, hnil, tyL] at ht
  rw [if_neg h6] at hname
  obtain ⟨op, num, name, args⟩ := x
  simp only [Ex.op, Ex.num, Ex.name, Ex.args] at *
  subst hname hnil
  have hcs : op = 1 ∨ op = 2 ∨ op = 3 ∨ op = 4 ∨ op = 5 := by omega
  rcases hcs with rfl | rfl | rfl | rfl | rfl
  all_goals
    simp [resK] at ht
    subst ht
    simp [mostN] at hnum
  · refine ⟨?_, .inl ⟨.inl rfl, ?_⟩, by decide⟩
    · simp [litX, leafX]; omega
    · simp [bd]; omega
  · refine ⟨?_, .inl ⟨.inr rfl, ?_⟩, by decide⟩
    · simp [litX, leafX]; omega
    · simp [bd]; omega
  · refine ⟨?_, .inr (.inl ⟨rfl, ?_⟩), by decide⟩
    · simp [litX, leafX]
    · simpa using hnum
  · refine ⟨?_, .inr (.inr ⟨rfl, .inr rfl⟩), by decide⟩
    simp [litX, leafX]; omega
  · refine ⟨?_, .inr (.inr ⟨rfl, .inl rfl⟩), by decide⟩
    simp [litX, leafX]; omega
theorem fold0 {cl : List Nat → Int × Int} {vx : List Nat → Int} (hc : vxOk cl vx) (scope : Int) (hsc : ∀ s, attrK scope s = 0) (x : Ex) : ∀ k, x.wf = true → x.ty cl scope = (k, 0) → x.fold cl (cxv cl vx) scope = litX k (x.val0 vx) ∧ inK k (x.val0 vx) := by
  induction x using Ex.ind with
  | h x ih =>
    intro k hwf ht
    obtain ⟨h1, h2, har, hnum, hname, hwl⟩ := wf_node hwf
    rw [Ex.fold_eq, Ex.val0_eq]
    by_cases h6 : x.op = 6
    · rw [if_pos h6, if_pos h6]
      rw [Ex.ty_eq, if_pos h6, if_neg (by simp [hsc])] at ht
      rw [if_neg (by simp [hsc])]
      exact ⟨by unfold cxv; rw [ht], hc _ _ ht⟩
    rw [if_neg h6, if_neg h6]
    by_cases he : x.args.isEmpty = true
    · rw [if_pos he]
      have hnil : x.args = [] := by simpa using he
      obtain ⟨e1, e2, e3⟩ := leaf_lit hwf ht h6 hnil
      by_cases hq : x.op = 1 ∨ x.op = 2 ∨ x.op = 3
      · rw [if_pos hq] at e1 e2 ⊢; exact ⟨e1, e2⟩
      · rw [if_neg hq] at e1 e2 ⊢
        by_cases h4 : x.op = 4
        · rw [if_pos h4] at e1 e2 ⊢; exact ⟨e1, e2⟩
        · rw [if_neg h4] at e1 e2 ⊢
          rw [if_pos (by omega)]; exact ⟨e1, e2⟩
    · rw [if_neg he]
      have hne : x.args.length ≠ 0 := by
        intro h; exact he (by simp [List.length_eq_zero_iff.1 h])
      have h7 := ar_pos h1 har hne
      obtain ⟨ts, hts, hr, hk⟩ := ty_node ht h6
      have hys : inKs ts (val0L vx x.args) ∧ (foldL cl (cxv cl vx) scope x.args).all isLit = true ∧ (foldL cl (cxv cl vx) scope x.args).map litV = val0L vx x.args := by
        clear ht har hne he hr hwf hnum hname
        generalize x.args = xs at ih hts hwl
        induction xs generalizing ts with
        | nil => rw [tyL] at hts; cases hts; exact ⟨trivial, rfl, rfl⟩
        | cons z zs ihz =>
          obtain ⟨t, us, rfl, e1, e2⟩ := tyL_cons hts
          rw [wfL, Bool.and_eq_true] at hwl
          obtain ⟨f1, f2⟩ := ih z (by simp) t hwl.1 e1
          obtain ⟨g1, g2, g3⟩ := ihz us (fun y hy => ih y (by simp [hy])) e2 hwl.2
          rw [foldL, val0L, f1]
          obtain ⟨_, q1, q2⟩ := litX_ok (scope := scope) f2
          refine ⟨⟨f2, g1⟩, ?_, ?_⟩
          · rw [List.all_cons, q1, g2]; rfl
          · rw [List.map_cons, q2, g3]
      obtain ⟨i1, i2, i3⟩ := hys
      have hlen : ts.length = x.args.length := tyL_len hts
      rw [if_pos i2, i3, ht, if_neg (by omega), if_neg (by omega), if_neg (by omega)]
      exact ⟨rfl, (ap_ok i1 h7 h2 (by rw [hlen]; exact har) hr hk).2⟩
/-- The values of the first n constants. -/
def vxk (l : Cs) (tab : List Int) (s : List Nat) : Int := match idxC l s with
  | none => 0
  | some i => tab.getD i 0
def vlC (l : Cs) : Nat → List Int
  | 0 => []
  | n + 1 => vlC l n ++ [if (entC (l.take n) (tabC l n) (l.getD n ([], .mk 0 0 [] [])).2).2 = 0 then (l.getD n ([], .mk 0 0 [] [])).2.val0 (vxk (l.take n) (vlC l n)) else 0]
theorem vlC_len (l : Cs) : ∀ n, (vlC l n).length = n
  | 0 => rfl
  | n + 1 => by rw [vlC, List.length_append, vlC_len l n]; rfl
theorem vlC_succ (l : Cs) {n : Nat} (h : n < l.length) : vlC l (n + 1) = vlC l n ++ [if (entC (l.take n) (tabC l n) l[n].2).2 = 0 then l[n].2.val0 (vxk (l.take n) (vlC l n)) else 0] := by
  rw [vlC, List.getD_eq_getElem?_getD, List.getElem?_eq_getElem h]; rfl
theorem vlC_pre (l : Cs) (n : Nat) : ∀ k, ∃ r, vlC l (n + k) = vlC l n ++ r
  | 0 => ⟨[], by simp⟩
  | k + 1 => by
    obtain ⟨r, h⟩ := vlC_pre l n k
    rw [← Nat.add_assoc, vlC, h]
    exact ⟨_, List.append_assoc _ _ _⟩
theorem vlC_get (l : Cs) {n i : Nat} (hn : n ≤ l.length) (hi : i < n) : (vlC l n).getD i 0 = (vlC l l.length).getD i 0 := by
  obtain ⟨r, h⟩ := vlC_pre l n (l.length - n)
  rw [show n + (l.length - n) = l.length by omega] at h
  rw [h, List.getD_eq_getElem?_getD, List.getD_eq_getElem?_getD, List.getElem?_append_left (by rw [vlC_len]; exact hi)]
/-- Types and values by the first n constants, and by all. -/
def CL (l : Cs) (n : Nat) : List Nat → Int × Int := clk (l.take n) (tabC l n)
def VX (l : Cs) (n : Nat) : List Nat → Int := vxk (l.take n) (vlC l n)
def CLa (l : Cs) : List Nat → Int × Int := clk l (tabC l l.length)
def VXa (l : Cs) : List Nat → Int := vxk l (vlC l l.length)
theorem CL_all (l : Cs) : CL l l.length = CLa l := by unfold CL CLa; rw [List.take_length]
theorem VX_all (l : Cs) : VX l l.length = VXa l := by unfold VX VXa; rw [List.take_length]
/-- A name with a type: its place, its type, its value. -/
theorem CL_some {l : Cs} {n : Nat} (hn : n ≤ l.length) {s : List Nat} {t : Int} (h : CL l n s = (t, 0)) : ∃ i, ∃ hi : i < l.length, i < n ∧ idxC l s = some i ∧ validE l[i].2 = 0 ∧ l[i].2.ty (CL l i) 0 = (t, 0) ∧ CLa l s = (t, 0) ∧ VX l n s = l[i].2.val0 (VX l i) ∧ VXa l s = l[i].2.val0 (VX l i) ∧ entN l i = (t, 0) := by
  unfold CL clk at h
  rw [idxC_take] at h
  cases hd : idxC l s with
  | none => rw [hd] at h; simp at h
  | some i =>
    rw [hd] at h
    simp only at h
    by_cases hi : i < n
    · rw [if_pos hi] at h
      simp only at h
      have hil : i < l.length := idxC_lt hd
      rw [tabC_get l hn hi] at h
      have he : entN l i = (t, 0) := h
      have he0 := he
      rw [entN_eq l hil] at he
      have hent := he
      unfold entC at he
      by_cases hv : validE l[i].2 ≠ 0
      · rw [if_pos hv] at he; injection he with _ he; exact absurd he hv
      · rw [if_neg hv] at he
        have hvl : (vlC l l.length).getD i 0 = l[i].2.val0 (VX l i) := by
          rw [← vlC_get l (n := i + 1) (by omega) (by omega), vlC_succ l hil, List.getD_eq_getElem?_getD, List.getElem?_append_right (by rw [vlC_len]; omega), vlC_len, Nat.sub_self, hent]
          rfl
        refine ⟨i, hil, hi, rfl, by simpa using hv, he, ?_, ?_, ?_, he0⟩
        · unfold CLa clk; rw [hd]; exact h
        · unfold VX vxk
          rw [idxC_take, hd]
          simp only [if_pos hi]
          rw [vlC_get l hn hi, hvl]; rfl
        · unfold VXa vxk; rw [hd]; exact hvl
    · rw [if_neg hi] at h; simp at h
theorem attrK_0 (s : List Nat) : attrK 0 s = 0 := by unfold attrK; rfl
theorem vx_ok (l : Cs) : ∀ n, n ≤ l.length → vxOk (CL l n) (VX l n) := by
  intro n
  induction n using Nat.strongRecOn with
  | ind n ih =>
    intro hn s t hs
    obtain ⟨i, hil, hi, _, hv, ht, _, e, _⟩ := CL_some hn hs
    rw [e]
    exact (fold0 (ih i hi (by omega)) 0 (fun s => attrK_0 s) l[i].2 t (valid_wf hv) ht).2
theorem vxa_ok (l : Cs) : vxOk (CLa l) (VXa l) := by
  have := vx_ok l l.length (Nat.le_refl _)
  rwa [CL_all, VX_all] at this
/-- More constants change nothing where there is a type. -/
theorem fold_congr {cl cl' : List Nat → Int × Int} {cx cx' : List Nat → Ex} (scope : Int) (hc : ∀ s t, cl s = (t, 0) → cl' s = (t, 0) ∧ cx' s = cx s) (x : Ex) : ∀ k, x.ty cl scope = (k, 0) → x.ty cl' scope = (k, 0) ∧ x.fold cl' cx' scope = x.fold cl cx scope := by
  induction x using Ex.ind with
  | h x ih =>
    intro k ht
    by_cases h6 : x.op = 6
    · rw [Ex.ty_eq, if_pos h6] at ht
      rw [Ex.ty_eq, if_pos h6, Ex.fold_eq, if_pos h6, Ex.fold_eq, if_pos h6]
      by_cases hz : attrK scope x.name ≠ 0
      · rw [if_pos hz] at ht ⊢; rw [if_pos hz, if_pos hz]; exact ⟨ht, rfl⟩
      · rw [if_neg hz] at ht ⊢; rw [if_neg hz, if_neg hz]; exact hc _ _ ht
    · obtain ⟨ts, hts, hr, hk⟩ := ty_node ht h6
      have hl : tyL cl' scope x.args = .ok ts ∧ foldL cl' cx' scope x.args = foldL cl cx scope x.args := by
        clear ht hr
        generalize x.args = xs at ih hts
        induction xs generalizing ts with
        | nil => rw [tyL] at hts; cases hts; exact ⟨rfl, rfl⟩
        | cons z zs ihz =>
          obtain ⟨t, us, rfl, e1, e2⟩ := tyL_cons hts
          obtain ⟨f1, f2⟩ := ih z (by simp) t e1
          obtain ⟨g1, g2⟩ := ihz us (fun y hy => ih y (by simp [hy])) e2
          rw [tyL, foldL, foldL, f1, g1, f2, g2]
          exact ⟨rfl, rfl⟩
      have ht' : x.ty cl' scope = (k, 0) := by
        rw [Ex.ty_eq, if_neg h6, hl.1]
        show (if resK x.op ts = 0 then ((0 : Int), (9 : Int)) else (resK x.op ts, 0)) = (k, 0)
        rw [hr, if_neg hk]
      refine ⟨ht', ?_⟩
      rw [Ex.fold_eq, Ex.fold_eq, if_neg h6, if_neg h6, hl.2, ht', ht]
theorem CL_le {l : Cs} {n : Nat} (hn : n ≤ l.length) : ∀ s t, CL l n s = (t, 0) → CLa l s = (t, 0) ∧ cxv (CLa l) (VXa l) s = cxv (CL l n) (VX l n) s := fun s t hs => by
  obtain ⟨i, hil, hi, _, hv, ht, ea, e1, e2, _⟩ := CL_some hn hs
  refine ⟨ea, ?_⟩
  unfold cxv
  rw [ea, hs, e1, e2]
/-- The simplified form. -/
def foldS (l : Cs) (scope : Int) (x : Ex) : Ex := x.fold (CLa l) (cxv (CLa l) (VXa l)) scope
theorem foldS_ok (l : Cs) (scope : Int) (x : Ex) {k : Int} (hwf : x.wf = true) (ht : x.ty (CLa l) scope = (k, 0)) : FK scope k (foldS l scope x) := fold_ok (cxv_ok (vxa_ok l)) scope x k hwf ht
/-- A constant's form, by all constants. -/
theorem foldS_const {l : Cs} {s : List Nat} {t : Int} (h : CLa l s = (t, 0)) : ∃ i, ∃ hi : i < l.length, idxC l s = some i ∧ validE l[i].2 = 0 ∧ l[i].2.ty (CL l i) 0 = (t, 0) ∧ l[i].2.ty (CLa l) 0 = (t, 0) ∧ foldS l 0 l[i].2 = litX t (VXa l s) ∧ inK t (VXa l s) ∧ entN l i = (t, 0) ∧ VXa l s = (vlC l l.length).getD i 0 := by
  have h' := h
  rw [← CL_all] at h'
  obtain ⟨i, hil, hi, hd, hv, ht, ea, e1, e2, e3⟩ := CL_some (Nat.le_refl _) h'
  obtain ⟨c1, c2⟩ := fold_congr 0 (CL_le (Nat.le_of_lt hil)) l[i].2 t ht
  refine ⟨i, hil, hd, hv, ht, c1, ?_, vxa_ok l s t h, e3, ?_⟩
  · unfold foldS
    rw [c2, (fold0 (vx_ok l i (Nat.le_of_lt hil)) 0 (fun s => attrK_0 s) l[i].2 t (valid_wf hv) ht).1, e2]
  · unfold VXa vxk; rw [hd]
end Go.Proofs.YtfenhjpkomldcaaGreat
namespace Go.Proofs.YtfenhjpkomldcaaGreat
open Go Go.Ev
def rfm (op : Int) (ys : List Ex) (r : Ex) : Prop := r = .mk op 0 [] ys ∨ (∃ a ∈ ys, r = .mk 19 0 [] [a]) ∨ (∃ a ∈ ys, r = a) ∨ (∃ a ∈ ys, r = a.args.headD (leafX 0 0)) ∨ (∃ n, r = leafX n 0)
theorem rfm_same {op : Int} {ys : List Ex} : rfm op ys (.mk op 0 [] ys) := .inl rfl
theorem rfm_not {op : Int} {ys : List Ex} {a : Ex} (h : a ∈ ys) : rfm op ys (.mk 19 0 [] [a]) := .inr (.inl ⟨a, h, rfl⟩)
theorem rfm_arg {op : Int} {ys : List Ex} {a : Ex} (h : a ∈ ys) : rfm op ys a := .inr (.inr (.inl ⟨a, h, rfl⟩))
theorem rfm_head {op : Int} {ys : List Ex} {a : Ex} (h : a ∈ ys) : rfm op ys (a.args.headD (leafX 0 0)) := .inr (.inr (.inr (.inl ⟨a, h, rfl⟩)))
theorem rfm_leaf {op : Int} {ys : List Ex} (n : Int) : rfm op ys (leafX n 0) := .inr (.inr (.inr (.inr ⟨n, rfl⟩)))
theorem rfm_ite {op : Int} {ys : List Ex} {c : Prop} [Decidable c] {a b : Ex} (h1 : rfm op ys a) (h2 : rfm op ys b) : rfm op ys (if c then a else b) := by split <;> assumption
theorem redX_form (op : Int) (ys : List Ex) : rfm op ys (redX op ys) := by
  match ys with
  | [] => exact rfm_same
  | [a] => exact rfm_ite (rfm_head (by simp)) rfm_same
  | [a, b] =>
    have ha : a ∈ [a, b] := by simp
    have hb : b ∈ [a, b] := by simp
    rw [redX_two]
    unfold red2
    exact rfm_ite (rfm_ite (rfm_leaf 5) (rfm_ite (rfm_arg hb) (rfm_ite (rfm_arg ha) rfm_same)))
      (rfm_ite (rfm_ite (rfm_leaf 4) (rfm_ite (rfm_arg hb) (rfm_ite (rfm_arg ha) rfm_same)))
      (rfm_ite (rfm_ite (rfm_leaf 4) (rfm_ite (rfm_arg hb) (rfm_ite (rfm_ite (rfm_head ha) (rfm_not ha)) rfm_same)))
      (rfm_ite (rfm_ite (rfm_arg ha) (rfm_ite (rfm_arg hb) rfm_same))
      (rfm_ite (rfm_ite (rfm_arg ha) rfm_same)
      (rfm_ite (rfm_ite (rfm_arg ha) (rfm_ite (rfm_arg hb) rfm_same))
      (rfm_ite (rfm_ite (rfm_arg ha) rfm_same) rfm_same))))))
  | [a, b, c] => exact rfm_ite (rfm_ite (rfm_arg (by simp)) (rfm_ite (rfm_arg (by simp)) rfm_same)) rfm_same
  | _ :: _ :: _ :: _ :: _ => exact rfm_same
theorem head_nodes (a : Ex) : (a.args.headD (leafX 0 0)).nodes ≤ a.nodes := by
  rw [a.nodes_eq]
  cases a.args with
  | nil => simp [leafX, Ex.nodes, nodesL]
  | cons y ys => rw [nodesL]; show y.nodes ≤ _; omega
theorem redX_nodes (op : Int) (ys : List Ex) : (redX op ys).nodes ≤ 1 + nodesL ys := by
  rcases redX_form op ys with h | ⟨a, ha, h⟩ | ⟨a, ha, h⟩ | ⟨a, ha, h⟩ | ⟨n, h⟩ <;> rw [h]
  · rw [Ex.nodes]; exact Nat.le_refl _
  · have := nodesL_mem ha
    rw [Ex.nodes, nodesL, nodesL]; omega
  · have := nodesL_mem ha; omega
  · have := nodesL_mem ha
    have := head_nodes a; omega
  · simp [leafX, Ex.nodes, nodesL]
theorem litX_nodes (k n : Int) : (litX k n).nodes ≤ 2 := by
  unfold litX
  split
  · split <;> simp [leafX, Ex.nodes, nodesL]
  · split
    · simp [leafX, Ex.nodes, nodesL]
    · split <;> simp [leafX, Ex.nodes, nodesL]
theorem fold_nodes {cl : List Nat → Int × Int} {cx : List Nat → Ex} (hc : ∀ s, (cx s).nodes ≤ 2) (scope : Int) (x : Ex) : (x.fold cl cx scope).nodes ≤ 2 * x.nodes := by
  induction x using Ex.ind with
  | h x ih =>
    have hpos : 1 ≤ x.nodes := by rw [x.nodes_eq]; omega
    rw [Ex.fold_eq]
    split
    · split
      · omega
      · have := hc x.name; omega
    · split
      · omega
      · have hl : nodesL (foldL cl cx scope x.args) ≤ 2 * nodesL x.args := by
          clear hpos
          generalize x.args = xs at ih
          induction xs with
          | nil => simp [foldL, nodesL]
          | cons z zs ihz =>
            have h1 := ih z (by simp)
            have h2 := ihz (fun y hy => ih y (by simp [hy]))
            rw [foldL, nodesL, nodesL]; omega
        split
        · have := litX_nodes (x.ty cl scope).1 (apS x.op ((foldL cl cx scope x.args).map litV)); omega
        · have := redX_nodes x.op (foldL cl cx scope x.args)
          rw [x.nodes_eq]; omega
theorem leaf_sm (op num : Int) : (leafX op num).sm := by
  rw [Ex.sm_eq]; exact ⟨Nat.zero_le _, trivial⟩
theorem litX_sm (k n : Int) : (litX k n).sm := by
  unfold litX
  split
  · split <;> exact leaf_sm _ _
  · split
    · exact leaf_sm _ _
    · split
      · rw [Ex.sm_eq]; exact ⟨Nat.zero_le _, leaf_sm _ _, trivial⟩
      · exact leaf_sm _ _
theorem redX_sm (op : Int) (ys : List Ex) (hs : smL ys) : (redX op ys).sm := by
  have hm := smL_mem.1 hs
  rcases redX_form op ys with h | ⟨a, ha, h⟩ | ⟨a, ha, h⟩ | ⟨a, ha, h⟩ | ⟨n, h⟩ <;> rw [h]
  · rw [Ex.sm_eq]; exact ⟨Nat.zero_le _, hs⟩
  · rw [Ex.sm_eq]; exact ⟨Nat.zero_le _, hm a ha, trivial⟩
  · exact hm a ha
  · have h1 := ((Ex.sm_eq a).1 (hm a ha)).2
    generalize a.args = l at h1
    cases l with
    | nil => exact leaf_sm _ _
    | cons y ys => exact h1.1
  · exact leaf_sm _ _
theorem fold_sm {cl : List Nat → Int × Int} {cx : List Nat → Ex} (hc : ∀ s, (cx s).sm) (scope : Int) (x : Ex) : x.sm → (x.fold cl cx scope).sm := by
  induction x using Ex.ind with
  | h x ih =>
    intro hs
    rw [Ex.fold_eq]
    split
    · split
      · exact hs
      · exact hc _
    · split
      · exact hs
      · have hl : smL (foldL cl cx scope x.args) := by
          have hs' := ((Ex.sm_eq x).1 hs).2
          generalize x.args = xs at ih hs'
          induction xs with
          | nil => trivial
          | cons z zs ihz => exact ⟨ih z (by simp) hs'.1, ihz (fun y hy => ih y (by simp [hy])) hs'.2⟩
        split
        · exact litX_sm _ _
        · exact redX_sm _ _ hl
theorem foldS_nodes (l : Cs) (scope : Int) (x : Ex) : (foldS l scope x).nodes ≤ 2 * x.nodes := fold_nodes (fun s => litX_nodes _ _) scope x
theorem foldS_sm (l : Cs) (scope : Int) (x : Ex) (h : x.sm) : (foldS l scope x).sm := fold_sm (fun s => litX_sm _ _) scope x h
end Go.Proofs.YtfenhjpkomldcaaGreat
namespace Go.Proofs.YtfenhjpkomldcaaGreat
open Go Go.Ev
/-- The names that the simplifier knows, out of its state. -/
def mOf : List Ent → List (List Nat × List T)
  | ⟨_, .map ks vs _⟩ :: _ => (ks.zip vs).map fun p => ((match p.1 with | .s s => s | _ => []), (match p.2 with | .agg c => c | _ => []))
  | _ => []
theorem mOf_sm (lT kT : T) : ∀ m, mOf (smS lT kT m) = m := by
  intro m
  unfold mOf smS
  simp only
  induction m with
  | nil => rfl
  | cons p m ih => rw [List.map_cons, List.map_cons, List.zip_cons_cons, List.map_cons, ih]; rfl
noncomputable def mL (E : Env) (n : Nat) (a : ACode) (fr : Fr) (lh : Tri Ent) (sh : List Ent) : List (List Nat × List T) := mOf (shL E n a fr lh sh)
theorem mL_ex {E : Env} {n : Nat} {a : ACode} {fr : Fr} {lh : Tri Ent} {sh : List Ent} {lT kT : T} {P : List (List Nat × List T) → Prop} (h : ∃ m, shL E n a fr lh sh = smS lT kT m ∧ P m) : shL E n a fr lh sh = smS lT kT (mL E n a fr lh sh) ∧ P (mL E n a fr lh sh) := by
  obtain ⟨m, h1, h2⟩ := h
  have : mL E n a fr lh sh = m := by unfold mL; rw [h1, mOf_sm]
  rw [this]; exact ⟨h1, h2⟩
theorem tyL_get {cl : List Nat → Int × Int} {scope : Int} : ∀ {xs : List Ex} {ts : List Int}, tyL cl scope xs = .ok ts → ∀ (k : Nat) (hk : k < xs.length), ∃ t, xs[k].ty cl scope = (t, 0)
  | [], ts, h, k, hk => by simp at hk
  | x :: xs, ts, h, k, hk => by
    obtain ⟨t, us, rfl, e1, e2⟩ := tyL_cons h
    cases k with
    | zero => exact ⟨t, e1⟩
    | succ k => exact tyL_get e2 k (by simpa using hk)
theorem foldL_FKs {cl : List Nat → Int × Int} {cx : List Nat → Ex} (hc : cxOk cl cx) (scope : Int) : ∀ {xs : List Ex} {ts : List Int}, wfL xs = true → tyL cl scope xs = .ok ts → FKs scope ts (foldL cl cx scope xs)
  | [], ts, _, h => by rw [tyL] at h; cases h; trivial
  | x :: xs, ts, hw, h => by
    obtain ⟨t, us, rfl, e1, e2⟩ := tyL_cons h
    rw [wfL, Bool.and_eq_true] at hw
    exact ⟨fold_ok hc scope x t hw.1 e1, foldL_FKs hc scope hw.2 e2⟩
theorem foldL_nodes {cl : List Nat → Int × Int} {cx : List Nat → Ex} (hc : ∀ s, (cx s).nodes ≤ 2) (scope : Int) : ∀ xs : List Ex, nodesL (foldL cl cx scope xs) ≤ 2 * nodesL xs
  | [] => by simp [foldL, nodesL]
  | x :: xs => by
    have h1 := fold_nodes (cl := cl) hc scope x
    have h2 := foldL_nodes (cl := cl) hc scope xs
    rw [foldL, nodesL, nodesL]; omega
theorem foldL_len (cl : List Nat → Int × Int) (cx : List Nat → Ex) (scope : Int) (xs : List Ex) : (foldL cl cx scope xs).length = xs.length := by rw [foldL_map, List.length_map]
def foldSL (l : Cs) (scope : Int) (xs : List Ex) : List Ex := foldL (CLa l) (cxv (CLa l) (VXa l)) scope xs
theorem foldSL_map (l : Cs) (scope : Int) (xs : List Ex) : foldSL l scope xs = xs.map (foldS l scope) := foldL_map _ _ _ _
theorem foldSL_len (l : Cs) (scope : Int) (xs : List Ex) : (foldSL l scope xs).length = xs.length := foldL_len _ _ _ _
section
variable (l : Cs) (lT kT : T)
/-- What the simplifier knows is right. -/
def MapOk (m : List (List Nat × List T)) : Prop := ∀ s cs, lookA m s = some cs → ∃ t, CLa l s = (t, 0) ∧ IsEx (litX t (VXa l s)) cs ∧ LitT cs
def MFr (n : Nat) (m m' : List (List Nat × List T)) : Prop := ∀ s j, idxC l s = some j → n ≤ j → lookA m' s = lookA m s
def simpP (n : Nat) (scope : Int) (y : Ex) : Prop := ∀ k m cs, MapOk l m → IsEx y cs → y.nodes ≤ 200 → y.wf = true → y.ty (CL l n) scope = (k, 0) →
  ∃ cs' m', DCall pE 54 [.ptr .S 1 1 0, .i .i64 scope, .agg cs] (smS lT kT m) = some (.agg cs', smS lT kT m') ∧ IsEx (foldS l scope y) cs' ∧ MapOk l m' ∧ MFr l n m m' ∧ (scope = 0 → LitT cs')
theorem simp1 (n : Nat) (scope : Int) (xs : List Ex) (ih : ∀ y ∈ xs, simpP l lT kT n scope y) (a : T) (cc : List T) (ha : IsSl a xs.length cc) (hx : IsExs xs cc) (hn : nodesL xs ≤ 200) (hwf : wfL xs = true) (ts : List Int) (hty : tyL (CL l n) scope xs = .ok ts) (m : List (List Nat × List T)) (hm : MapOk l m) (op : T) (g g9 : Nat) (c6 : Ent) (fr : Fr) (lh : Tri Ent) (sh : List Ent) (hsh : sh = smS lT kT m)
    (h0 : getF fr 0 = .ptr .S 1 1 0) (h1 : getF fr 1 = .i .i64 scope) (h9 : getF fr 9 = .ptr .L 9 g9 0) (h49 : getF fr 49 = a) (h50 : getF fr 50 = .i .i64 (xs.length : Int)) (h51 : getF fr 51 = .i .i64 0) (o6 : getO lh 6 = c6) (o9 : getO lh 9 = ⟨g9, .cells [op, .i .i64 0, .s [], .isl .L 46 g 0 xs.length 4] 0 true⟩) (o46 : getO lh 46 = ⟨g, .cells (repl [.i .i64 0, .i .i64 0, .s [], .nilsl] xs.length) 0 false⟩) :
    DC pE 68 (.loop c54_L1) ⟨fr, lh, sh⟩ = some (.ext 0, ⟨frL pE 68 c54_L1 fr lh sh, lhL pE 68 c54_L1 fr lh sh, shL pE 68 c54_L1 fr lh sh⟩) ∧
    (getO (lhL pE 68 c54_L1 fr lh sh) 6 = c6 ∧ getO (lhL pE 68 c54_L1 fr lh sh) 9 = ⟨g9, .cells [op, .i .i64 0, .s [], .isl .L 46 g 0 xs.length 4] 0 true⟩ ∧ (∃ cs, getO (lhL pE 68 c54_L1 fr lh sh) 46 = ⟨g, .cells cs 0 false⟩ ∧ IsExs (foldSL l scope xs) cs) ∧ (∃ m', shL pE 68 c54_L1 fr lh sh = smS lT kT m' ∧ MapOk l m' ∧ MFr l n m m')) := by
  refine loop_rule (P := fun fr' lh' sh' => getO lh' 6 = c6 ∧ getO lh' 9 = ⟨g9, .cells [op, .i .i64 0, .s [], .isl .L 46 g 0 xs.length 4] 0 true⟩ ∧ (∃ cs, getO lh' 46 = ⟨g, .cells cs 0 false⟩ ∧ IsExs (foldSL l scope xs) cs) ∧ (∃ m', sh' = smS lT kT m' ∧ MapOk l m' ∧ MFr l n m m'))
    (loop_inv (fun k st => ∃ (fr : Fr) (lh1 : Tri Ent) (A : List T) (m1 : List (List Nat × List T)), st = ⟨fr, lh1, smS lT kT m1⟩ ∧ getF fr 0 = .ptr .S 1 1 0 ∧ getF fr 1 = .i .i64 scope ∧ getF fr 9 = .ptr .L 9 g9 0 ∧ getF fr 49 = a ∧ getF fr 50 = .i .i64 (xs.length : Int) ∧ getF fr 51 = .i .i64 (k : Int) ∧ getO lh1 6 = c6 ∧ getO lh1 9 = ⟨g9, .cells [op, .i .i64 0, .s [], .isl .L 46 g 0 xs.length 4] 0 true⟩ ∧
      getO lh1 46 = ⟨g, .cells (A ++ repl [.i .i64 0, .i .i64 0, .s [], .nilsl] (xs.length - k)) 0 false⟩ ∧ IsExs (foldSL l scope (xs.take k)) A ∧ MapOk l m1 ∧ MFr l n m m1) _ xs.length ?_ ?_ 0 _ (Nat.zero_le _) ⟨fr, lh, [], m, by rw [hsh], h0, h1, h9, h49, h50, h51, o6, o9, by rw [o46]; rfl, by rw [List.take_zero]; exact IsExs.nil, hm, fun _ _ _ _ => rfl⟩)
  · rintro k _ hk ⟨fr, lh1, A, m1, rfl, h0, h1, h9, h49, h50, h51, o6, o9, o46, hA, hm1, hfr1⟩
    left
    have hk' : (k : Int) < xs.length := by omega
    have hlen' := nodesL_len xs
    have hyk := nodesL_mem (List.getElem_mem hk)
    have hw := wr_succL (k := k) (lim_of (by omega))
    obtain ⟨b, cb, rr, hia, hb1, hb2, hb⟩ := arg_at ha hx k hk
    obtain ⟨t, ht⟩ := tyL_get hty k hk
    obtain ⟨cf, m2, hcall, hcf, hm2, hfr2, _⟩ := ih xs[k] (List.getElem_mem hk) t m1 _ hm1 hb (by omega) (wfL_mem.1 hwf _ (List.getElem_mem hk)) ht
    obtain ⟨fa, fc, rfl, hf1, hf2⟩ := hcf.cells
    have hAl : A.length = k * 4 := by rw [hA.len, foldSL_len]; simp; omega
    generalize hy : foldS l scope xs[k] = y at *
    have hrl : (A ++ repl [T.i .i64 0, T.i .i64 0, T.s [], T.nilsl] (xs.length - k)).length = xs.length * 4 := by rw [List.length_append, repl_len, hAl]; simp; omega
    have hsp : splice (A ++ repl [T.i .i64 0, T.i .i64 0, T.s [], T.nilsl] (xs.length - k)) (k * 4) [.i .i64 y.op, .i .i64 y.num, .s y.name, fa] = (A ++ [.i .i64 y.op, .i .i64 y.num, .s y.name, fa]) ++ repl [T.i .i64 0, T.i .i64 0, T.s [], T.nilsl] (xs.length - (k + 1)) := by
      rw [show xs.length - k = (xs.length - (k + 1)) + 1 by omega, repl_succ, splice_row A [T.i .i64 0, T.i .i64 0, T.s [], T.nilsl] _ [T.i .i64 y.op, T.i .i64 y.num, T.s y.name, fa] (k * 4) hAl rfl]
    have hkl1 : k * 4 + 4 ≤ xs.length * 4 := by omega
    simp (maxDischargeDepth := 6) only [qF, qGO0, qGO1, qGO2, qGO3, qGO4, qGO5, splice, Nat.reduceAdd, reduceCtorEq, Nat.reduceLT, Nat.reduceLeDiff, Nat.reduceEqDiff, qDR0, getL, qKP0, c54_L1, h0, h1, h9, h49, h50, h51, o9, o46, hk', hia, hw, hcall, dc54, dd54, hb1.kept1, hf1.froz1, hk, hrl, hsp, hkl1]
    refine ⟨_, rfl, _, _, A ++ [.i .i64 y.op, .i .i64 y.num, .s y.name, fa], m2, rfl, ?_, ?_, ?_, ?_, ?_, ?_, ?_, ?_, ?_, ?_, hm2, fun s j h1 h2 => by rw [hfr2 s j h1 h2, hfr1 s j h1 h2]⟩
    all_goals first | (simp (maxDischargeDepth := 6) only [qGO2, qGO4, reduceCtorEq, Nat.reduceEqDiff, h0, h1, h9, h49, h50, o6, o9]; done) | skip
    rw [List.take_succ_eq_append_getElem hk, foldSL_map, List.map_append, ← foldSL_map, List.map_cons, hy]
    exact IsExs.append hA (IsExs.one hcf)
  · rintro _ ⟨fr, lh1, A, m1, rfl, h0, h1, h9, h49, h50, h51, o6, o9, o46, hA, hm1, hfr1⟩
    rw [Nat.sub_self, show repl [T.i .i64 0, T.i .i64 0, T.s [], T.nilsl] 0 = [] from rfl, List.append_nil] at o46
    rw [List.take_length] at hA
    simp (maxDischargeDepth := 6) only [qGO0, qGO1, qGO2, qGO4, qGO5, Nat.reduceLT, c54_L1, h50, h51, Int.lt_irrefl]
    exact ⟨_, _, (by simp : Out.ext 0 ≠ .nrm), rfl, rfl, o6, o9, ⟨A, o46, hA⟩, m1, rfl, hm1, hfr1⟩
end
end Go.Proofs.YtfenhjpkomldcaaGreat
namespace Go.Proofs.YtfenhjpkomldcaaGreat
open Go Go.Ev
theorem MFr.mono {l : Cs} {n n' : Nat} {m m' : List (List Nat × List T)} (h : MFr l n m m') (hn : n ≤ n') : MFr l n' m m' := fun s j h1 h2 => h s j h1 (by omega)
theorem inKs0 {l : Cs} {n : Nat} (hnl : n ≤ l.length) : ∀ {xs : List Ex} {ts : List Int}, wfL xs = true → tyL (CL l n) 0 xs = .ok ts → (foldSL l 0 xs).all isLit = true
  | [], ts, _, _ => rfl
  | x :: xs, ts, hw, h => by
    obtain ⟨t, us, rfl, e1, e2⟩ := tyL_cons h
    rw [wfL, Bool.and_eq_true] at hw
    have c1 := (fold_congr 0 (CL_le hnl) x t e1).1
    obtain ⟨f1, f2⟩ := fold0 (vxa_ok l) 0 (fun s => attrK_0 s) x t hw.1 c1
    show (isLit (foldS l 0 x) && (foldSL l 0 xs).all isLit) = true
    rw [inKs0 hnl hw.2 e2, Bool.and_true]
    unfold foldS
    rw [f1]; exact (litX_ok (scope := 0) f2).2.1
theorem tyL_le {l : Cs} {n : Nat} (hnl : n ≤ l.length) {scope : Int} : ∀ {xs : List Ex} {ts : List Int}, tyL (CL l n) scope xs = .ok ts → tyL (CLa l) scope xs = .ok ts
  | [], ts, h => h
  | x :: xs, ts, h => by
    obtain ⟨t, us, rfl, e1, e2⟩ := tyL_cons h
    have c1 := (fold_congr scope (CL_le hnl) x t e1).1
    rw [tyL, c1, tyL_le hnl e2]; rfl
section
variable (l : Cs) (lT kT : T)
/-- The i-th constant. -/
def cstS (i : Nat) : Prop := ∀ s t m, idxC l s = some i → CLa l s = (t, 0) → MapOk l m → ∃ cs m', DCall pE 99 [.ptr .S 1 1 0, .s s] (smS lT kT m) = some (.agg cs, smS lT kT m') ∧ IsEx (litX t (VXa l s)) cs ∧ LitT cs ∧ MapOk l m' ∧ MFr l (i + 1) m m'
variable (hkT : froz kT = true)
include hkT
/-- Both kinds of nodes. -/
theorem red_ev {n : Nat} (hnl : n ≤ l.length) {scope k : Int} {x : Ex} (hwf : x.wf = true) (ht : x.ty (CL l n) scope = (k, 0)) (h6 : x.op ≠ 6) (hne : x.args.length ≠ 0) (hn : x.nodes ≤ 200) (X : List T) (hX : IsExs (foldSL l scope x.args) X) (m : List (List Nat × List T)) :
    ∃ cs, DCall pE 100 [.ptr .S 1 1 0, .agg [.i .i64 x.op, .i .i64 0, .s [], .sl X x.args.length false]] (smS lT kT m) = some (.agg cs, smS lT kT m) ∧ IsEx (foldS l scope x) cs ∧ (scope = 0 → LitT cs) := by
  obtain ⟨h1, h2, har, hnum, hname, hwl⟩ := wf_node hwf
  have h7 := ar_pos h1 har hne
  obtain ⟨ts, hts, hr, hk⟩ := ty_node ht h6
  have htsa := tyL_le hnl hts
  have hys : FKs scope ts (foldSL l scope x.args) := foldL_FKs (cxv_ok (vxa_ok l)) scope hwl htsa
  have hlen := foldSL_len l scope x.args
  have hnd : nodesL (foldSL l scope x.args) ≤ 2 * nodesL x.args := foldL_nodes (fun s => litX_nodes _ _) scope x.args
  have hxn := x.nodes_eq
  have hta := (fold_congr scope (CL_le hnl) x k ht).1
  have hsl : IsSl (.sl X x.args.length false) (foldSL l scope x.args).length X := Or.inr ⟨false, by rw [hlen]⟩
  have hfold : foldS l scope x = if (foldSL l scope x.args).all isLit then litX k (apS x.op ((foldSL l scope x.args).map litV)) else redX x.op (foldSL l scope x.args) := by
    unfold foldS
    rw [Ex.fold_eq, if_neg h6, if_neg (by simp; intro h; rw [h] at hne; exact hne rfl), hta]
    rfl
  rw [hfold]
  cases hall : (foldSL l scope x.args).all isLit with
  | true =>
    rw [if_pos rfl]
    obtain ⟨cs, e1, e2, e3⟩ := redLit_ev lT kT hkT hys hall h7 h2 (by rw [hlen]; exact har) hr hk (by omega) (.sl X x.args.length false) X hsl hX m
    exact ⟨cs, e1, e2, fun _ => e3⟩
  | false =>
    rw [if_neg (by simp)]
    obtain ⟨cs, e1, e2⟩ := redN_ev lT kT m hall hys.wf h7 h2 (by rw [hlen]; exact har) (by omega) (.sl X x.args.length false) X hsl hX
    refine ⟨cs, e1, e2, fun h0 => ?_⟩
    subst h0
    rw [inKs0 hnl hwl hts] at hall; cases hall
theorem simp_ev (n : Nat) (hnl : n ≤ l.length) (hc : ∀ j, j < n → cstS l lT kT j) (scope : Int) (x : Ex) : simpP l lT kT n scope x := by
  induction x using Ex.ind with
  | h x ih =>
    intro k m cs hm hx hn hwf ht
    obtain ⟨a, cc, rfl, ha, hxs⟩ := hx.cells
    obtain ⟨h1, h2, har, hnum, hname, hwl⟩ := wf_node hwf
    have hnd := x.nodes_eq
    rw [p_fun fn54 (by simp [c54])]
    by_cases h6 : x.op = 6
    · have hat := pattr_ev scope x.name
      unfold attrE at hat
      rw [Ex.ty_eq, if_pos h6] at ht
      by_cases hz : attrK scope x.name = 0
      · rw [if_neg (by simp [hz])] at ht
        rw [if_pos hz, hz] at hat
        obtain ⟨i, hil, hin, hidx, _, _, hcla, _⟩ := CL_some hnl ht
        obtain ⟨c1, m1, hcall, hc1, hT, hm1, hfr⟩ := hc i hin x.name k m hidx hcla hm
        obtain ⟨c2, hclone, hc2, hT2⟩ := clone_ev hT hc1
        have hfold : foldS l scope x = litX k (VXa l x.name) := by
          unfold foldS
          rw [Ex.fold_eq, if_pos h6, if_neg (by simp [hz])]; unfold cxv; rw [hcla]
        rw [hfold]
        generalize litX k (VXa l x.name) = y at *
        obtain ⟨ca, cb, rfl, hq1, hq2⟩ := hc1.cells
        obtain ⟨da, db, rfl, hr1, hr2⟩ := hc2.cells
        simp (maxDischargeDepth := 6) only [qF, qGO0, qGO1, qGO2, qGO3, qGO4, qGO5, buildV, splice, fills, Nat.reduceAdd, reduceCtorEq, Nat.reduceLT, Nat.reduceLeDiff, Nat.reduceEqDiff, Int.reduceEq, qKP0, c54, h6, hat, dc89, hcall, dc99, hclone, dc98, hq1.froz1, hr1.froz1]
        exact ⟨_, m1, rfl, hc2, hm1, hfr.mono (by omega), fun _ => hT2⟩
      · rw [if_neg hz] at hat
        have hfold : foldS l scope x = x := by
          unfold foldS
          rw [Ex.fold_eq, if_pos h6, if_pos hz]
        rw [hfold]
        rw [h6] at hnum har
        have hnum0 : x.num = 0 := by simp [mostN] at hnum; omega
        have hlen0 : x.args.length = 0 := by simpa [arOk] using har
        have hxe : IsEx x [.i .i64 6, .i .i64 0, .s x.name, .nilsl] := by
          have := IsEx.of (x := x) (a := .nilsl) (cc := []) (by rw [hlen0]; exact nil_is) (by rw [List.length_eq_zero_iff.1 hlen0]; exact IsExs.nil)
          rw [h6, hnum0] at this; exact this
        simp (maxDischargeDepth := 6) only [qF, qGO0, qGO1, qGO2, qGO3, qGO4, qGO5, buildV, splice, fills, Nat.reduceAdd, reduceCtorEq, Nat.reduceLT, Nat.reduceLeDiff, Nat.reduceEqDiff, c54, h6, hat, dc89]
        exact ⟨_, m, rfl, hxe, hm, fun _ _ _ _ => rfl, fun h0 => by rw [h0] at hz; exact absurd (attrK_0 _) hz⟩
    · rw [if_neg h6] at hname
      by_cases hlen0 : x.args.length = 0
      · have hfold : foldS l scope x = x := by
          unfold foldS
          rw [Ex.fold_eq, if_neg h6, if_pos (by simp [List.length_eq_zero_iff.1 hlen0])]
        rw [hfold]
        have hxe : IsEx x [.i .i64 x.op, .i .i64 x.num, .s [], .nilsl] := by
          have := IsEx.of (x := x) (a := .nilsl) (cc := []) (by rw [hlen0]; exact nil_is) (by rw [List.length_eq_zero_iff.1 hlen0]; exact IsExs.nil)
          rw [hname] at this; exact this
        have hal := ha.lenI
        rw [hlen0] at hal
        simp (maxDischargeDepth := 6) only [qF, qGO0, qGO1, qGO2, qGO3, qGO4, qGO5, buildV, splice, fills, Nat.reduceAdd, reduceCtorEq, Nat.reduceLT, Nat.reduceLeDiff, Nat.reduceEqDiff, c54, h6, hal]
        exact ⟨_, m, rfl, hxe, hm, fun _ _ _ _ => rfl, fun _ => .inl ⟨_, _, rfl⟩⟩
      · obtain ⟨ts, hts, hr, hk⟩ := ty_node ht h6
        have hll := nodesL_len x.args
        have hlim : x.args.length ≤ Lim := lim_of (by omega)
        have hmk : x.args.length * 56 ≤ roomy ∧ x.args.length ≤ roomy := by unfold Lim at hlim; unfold roomy; omega
        have hL0 := fun c6 fr lh sh hsh h0 h1 h9 h49 h50 h51 o6 o9 o46 => simp1 l lT kT n scope x.args (fun y hy => ih y hy) a cc ha hxs (by omega) hwl ts hts m hm (.i .i64 x.op) 1 1 c6 fr lh sh hsh h0 h1 h9 h49 h50 h51 o6 o9 o46
        have hL1 := fun fr lh sh hsh h0 h1 h9 h49 h50 h51 o6 o9 o46 => hL0 ⟨1, .cells [.i .i64 0, .i .i64 0, .s [], .nilsl] 0 true⟩ fr lh sh hsh h0 h1 h9 h49 h50 h51 o6 o9 o46
        have hL := fun fr lh sh hsh h0 h1 h9 h49 h50 h51 o6 o9 o46 => And.intro (hL1 fr lh sh hsh h0 h1 h9 h49 h50 h51 o6 o9 o46).1 (And.intro (hL1 fr lh sh hsh h0 h1 h9 h49 h50 h51 o6 o9 o46).2.1 (And.intro (hL1 fr lh sh hsh h0 h1 h9 h49 h50 h51 o6 o9 o46).2.2.1 (And.intro (row_ex (hL1 fr lh sh hsh h0 h1 h9 h49 h50 h51 o6 o9 o46).2.2.2.1).1 (mL_ex (hL1 fr lh sh hsh h0 h1 h9 h49 h50 h51 o6 o9 o46).2.2.2.2).1)))
        have hF := fun fr lh sh hsh h0 h1 h9 h49 h50 h51 o6 o9 o46 => (row_ex (hL1 fr lh sh hsh h0 h1 h9 h49 h50 h51 o6 o9 o46).2.2.2.1).2
        have hM := fun fr lh sh hsh h0 h1 h9 h49 h50 h51 o6 o9 o46 => (mL_ex (hL1 fr lh sh hsh h0 h1 h9 h49 h50 h51 o6 o9 o46).2.2.2.2).2
        have hlenF := fun fr lh sh hsh h0 h1 h9 h49 h50 h51 o6 o9 o46 => (hF fr lh sh hsh h0 h1 h9 h49 h50 h51 o6 o9 o46).len
        rw [foldSL_len] at hlenF
        have hne' : ¬ (x.args.length : Int) = 0 := by omega
        simp (maxDischargeDepth := 6) only [qF, qGO0, qGO1, qGO2, qGO3, qGO4, qGO5, Nat.reduceShiftRight, Nat.reduceMod, buildV, mkslV, mkOk, splice, fills, Nat.reduceAdd, reduceCtorEq, Nat.reduceLT, Nat.reduceLeDiff, Nat.reduceEqDiff, qDR0, qDR1, getL, qDX0, qKP0, c54, c54_L1_w, h6, ha.lenI, hne', hmk, hL, hlenF, dp100]
        generalize hX : rowC _ _ = X
        generalize hMX : mL _ _ _ _ _ _ = m'
        have hXF : IsExs (foldSL l scope x.args) X := by
          rw [← hX]
          refine hF _ _ _ rfl ?_ ?_ ?_ ?_ ?_ ?_ ?_ ?_ ?_ <;> simp (maxDischargeDepth := 6) only [qGO2, qGO4, reduceCtorEq, Nat.reduceEqDiff]
        have hMF : MapOk l m' ∧ MFr l n m m' := by
          rw [← hMX]
          refine hM _ _ _ rfl ?_ ?_ ?_ ?_ ?_ ?_ ?_ ?_ ?_ <;> simp (maxDischargeDepth := 6) only [qGO2, qGO4, reduceCtorEq, Nat.reduceEqDiff]
        have hXl := hXF.len
        rw [foldSL_len] at hXl
        rw [← hXl, List.take_length]
        obtain ⟨c1, hcall, hc1, hT⟩ := red_ev l lT kT hkT hnl hwf ht h6 hlen0 hn X hXF m'
        generalize foldS l scope x = y at *
        obtain ⟨ca, cb, rfl, hq1, hq2⟩ := hc1.cells
        simp (maxDischargeDepth := 6) only [qF, qGO0, qGO1, qGO2, qGO3, qGO4, qGO5, Nat.reduceShiftRight, Nat.reduceMod, splice, Nat.reduceAdd, reduceCtorEq, Nat.reduceEqDiff, c54_L1_w, hL, hcall, hq1.froz1]
        exact ⟨_, m', rfl, hc1, hMF.1, hMF.2, hT⟩
end
end Go.Proofs.YtfenhjpkomldcaaGreat
