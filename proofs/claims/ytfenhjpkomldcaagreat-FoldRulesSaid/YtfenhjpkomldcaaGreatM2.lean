/- The language of expressions: form, types, values, simplified forms; plain definitions. The size of an expression, as the program and the reference count it. The form of an expression: both checks. The form of an expression: both checks. Conditions: the theorems' own. -/
import Derived.Test.YtfenhjpkomldcaaGreatM1
import Derived.KernelRfl
set_option maxRecDepth 100000
set_option linter.unusedSimpArgs false
set_option linter.unusedVariables false
set_option linter.unusedSectionVars false
set_option maxHeartbeats 16000000
namespace Go.Proofs.YtfenhjpkomldcaaGreat
open Go Go.Ev
/-- The place of the first dot. -/
def dotI : List Nat → Option Nat
  | [] => none
  | c :: cs => if c = 46 then some 0 else (dotI cs).map (· + 1)
/-- A name in an expression. -/
def attrNm (s : List Nat) : Bool := match dotI s with
  | none => dnameS s
  | some i => nameS (s.take i) && nameS (s.drop (i + 1))
/-- How many arguments an operator has. -/
def arOk (op : Int) (n : Nat) : Bool :=
  if op ≤ 6 then decide (n = 0) else if op = 7 ∨ op = 19 then decide (n = 1) else if op = 12 ∨ op = 13 then decide (2 ≤ n)
  else if op = 14 ∨ op = 15 then decide (n = 3) else decide (n = 2)
def mostN (op : Int) : Int := if op = 1 ∨ op = 2 then 1099511627776 else if op = 3 then 1439 else 0
def nodeOk (op num : Int) (name : List Nat) (n : Nat) : Bool :=
  decide (1 ≤ op) && (decide (op ≤ 22) && (arOk op n && (decide (0 ≤ num ∧ num ≤ mostN op) && (if op = 6 then attrNm name else decide (name = [])))))
mutual
/-- Every node has its form. -/
def Ex.wf : Ex → Bool
  | .mk op num name args => nodeOk op num name args.length && wfL args
def wfL : List Ex → Bool
  | [] => true
  | x :: xs => x.wf && wfL xs
end
theorem Ex.wf_eq (x : Ex) : x.wf = (nodeOk x.op x.num x.name x.args.length && wfL x.args) := by obtain ⟨_, _, _, _⟩ := x; rw [Ex.wf]; rfl
theorem wfL_mem : ∀ {xs : List Ex}, wfL xs = true ↔ ∀ x ∈ xs, x.wf = true
  | [] => by simp [wfL]
  | x :: xs => by rw [wfL, Bool.and_eq_true, wfL_mem (xs := xs)]; simp
/-- The error of an expression's form. -/
def big (x : Ex) : Prop := 200 < x.nodes ∨ 16 < x.depth
instance (x : Ex) : Decidable (big x) := by unfold big; infer_instance
def validE (x : Ex) : Int := if big x then 10 else if x.wf then 0 else 1
/-- Types. -/
def allK (ts : List Int) (k : Int) : Bool := ts.all fun t => decide (t = k)
def prodK (op a b : Int) : Int :=
  if a = 1 ∧ b = 1 then 1 else if a = 2 ∧ b = 1 then 2 else if op = 10 ∧ a = 1 ∧ b = 2 then 2 else if op = 11 ∧ a = 2 ∧ b = 2 then 1 else 0
def a0 (ts : List Int) : Int := ts.getD 0 0
def a1 (ts : List Int) : Int := ts.getD 1 0
def a2 (ts : List Int) : Int := ts.getD 2 0
def resK (op : Int) (ts : List Int) : Int :=
  if op = 1 then 1 else if op = 2 then 2 else if op = 3 then 3 else if op = 4 then 4 else if op = 5 then 4
  else if op = 7 ∨ op = 8 ∨ op = 9 ∨ op = 12 ∨ op = 13 then (if allK ts 1 then 1 else if allK ts 2 then 2 else 0)
  else if op = 10 ∨ op = 11 then prodK op (a0 ts) (a1 ts)
  else if op = 14 then (if a0 ts = 4 ∧ a1 ts = a2 ts then a1 ts else 0)
  else if op = 15 then (if allK ts 3 then 4 else 0)
  else if op = 16 ∨ op = 17 then (if (a0 ts = 1 ∨ a0 ts = 2) ∧ a0 ts = a1 ts then 4 else 0)
  else if op = 18 then (if a0 ts = a1 ts then 4 else 0)
  else (if allK ts 4 then 4 else 0)
mutual
/-- The type of an expression, or the error; cl: those of the constants. -/
def Ex.ty (cl : List Nat → Int × Int) (scope : Int) : Ex → Int × Int
  | .mk op _ name args =>
    if op = 6 then (if attrK scope name ≠ 0 then (attrK scope name, 0) else cl name)
    else match tyL cl scope args with
      | .error e => (0, e)
      | .ok ts => if resK op ts = 0 then (0, 9) else (resK op ts, 0)
def tyL (cl : List Nat → Int × Int) (scope : Int) : List Ex → Except Int (List Int)
  | [] => .ok []
  | x :: xs => if (x.ty cl scope).2 ≠ 0 then .error (x.ty cl scope).2 else match tyL cl scope xs with
    | .error e => .error e
    | .ok ts => .ok ((x.ty cl scope).1 :: ts)
end
theorem Ex.ty_eq (cl : List Nat → Int × Int) (scope : Int) (x : Ex) : x.ty cl scope =
    if x.op = 6 then (if attrK scope x.name ≠ 0 then (attrK scope x.name, 0) else cl x.name)
    else match tyL cl scope x.args with
      | .error e => (0, e)
      | .ok ts => if resK x.op ts = 0 then (0, 9) else (resK x.op ts, 0) := by obtain ⟨_, _, _, _⟩ := x; rw [Ex.ty]; rfl
/-- Constants: a name and an expression each. -/
abbrev Cs := List (List Nat × Ex)
def idxC : Cs → List Nat → Option Nat
  | [], _ => none
  | c :: cs, s => if c.1 = s then some 0 else (idxC cs s).map (· + 1)
/-- What a name is by a table of types and errors. -/
def clk (l : Cs) (tab : List (Int × Int)) (s : List Nat) : Int × Int := match idxC l s with
  | none => (0, 6)
  | some i => tab.getD i (0, 6)
def entC (l : Cs) (tab : List (Int × Int)) (x : Ex) : Int × Int := if validE x ≠ 0 then (0, validE x) else x.ty (clk l tab) 0
/-- The types of the first n constants. -/
def tabC (l : Cs) : Nat → List (Int × Int)
  | 0 => []
  | n + 1 => tabC l n ++ [entC (l.take n) (tabC l n) (l.getD n ([], .mk 0 0 [] [])).2]
def typeS (l : Cs) (scope : Int) (x : Ex) : Int × Int := if validE x ≠ 0 then (0, validE x) else x.ty (clk l (tabC l l.length)) scope
/-- Literals. -/
def isLit (x : Ex) : Bool := match x with
  | .mk op _ _ args => decide (op = 1 ∨ op = 2 ∨ op = 3 ∨ op = 4 ∨ op = 5) || (decide (op = 7) && (match args with | y :: _ => decide (y.op = 1 ∨ y.op = 2) | [] => false))
def litV (x : Ex) : Int := match x with
  | .mk op num _ args => if op = 4 then 1 else if op = 5 then 0 else if op = 7 then (match args with | y :: _ => - y.num | [] => 0) else num
def leafX (op num : Int) : Ex := .mk op num [] []
def litX (k n : Int) : Ex :=
  if k = 4 then (if n = 0 then leafX 5 0 else leafX 4 0) else if k = 3 then leafX 3 n
  else if n < 0 then .mk 7 0 [] [leafX (if k = 2 then 2 else 1) (-n)] else leafX (if k = 2 then 2 else 1) n
/-- Values. -/
def clampS (n : Int) : Int := max (-1099511627776) (min 1099511627776 n)
def divS (a b : Int) : Int := if b = 0 then 0 else clampS (Int.fdiv a b)
def bandS (c f t : Int) : Bool := if f ≤ t then decide (f ≤ c ∧ c < t) else decide (f ≤ c ∨ c < t)
def flagS (b : Bool) : Int := if b then 1 else 0
def minL : Int → List Int → Int
  | m, [] => m
  | m, v :: vs => minL (min m v) vs
def maxL : Int → List Int → Int
  | m, [] => m
  | m, v :: vs => maxL (max m v) vs
def apS (op : Int) (vs : List Int) : Int :=
  if op = 7 then - a0 vs else if op = 8 then clampS (a0 vs + a1 vs) else if op = 9 then clampS (a0 vs - a1 vs) else if op = 10 then clampS (a0 vs * a1 vs)
  else if op = 11 then divS (a0 vs) (a1 vs) else if op = 12 then minL (a0 vs) vs.tail else if op = 13 then maxL (a0 vs) vs.tail
  else if op = 14 then (if a0 vs = 0 then a2 vs else a1 vs) else if op = 15 then flagS (bandS (a0 vs) (a1 vs) (a2 vs))
  else if op = 16 then flagS (decide (a0 vs < a1 vs)) else if op = 17 then flagS (decide (a0 vs ≤ a1 vs)) else if op = 18 then flagS (decide (a0 vs = a1 vs))
  else if op = 19 then 1 - a0 vs else if op = 20 then min (a0 vs) (a1 vs) else if op = 21 then max (a0 vs) (a1 vs) else max (1 - a0 vs) (a1 vs)
def zeroX (x : Ex) : Bool := decide (x.op = 1 ∨ x.op = 2) && decide (x.num = 0)
def oneX (x : Ex) : Bool := decide (x.op = 1) && decide (x.num = 1)
/-- A node that is not made of literals alone. -/
def redX (op : Int) (ys : List Ex) : Ex :=
  match ys with
  | [a] => if op = 19 ∧ a.op = 19 then a.args.headD (leafX 0 0) else .mk op 0 [] ys
  | [a, b] =>
    if op = 20 then (if a.op = 5 ∨ b.op = 5 then leafX 5 0 else if a.op = 4 then b else if b.op = 4 then a else .mk op 0 [] ys)
    else if op = 21 then (if a.op = 4 ∨ b.op = 4 then leafX 4 0 else if a.op = 5 then b else if b.op = 5 then a else .mk op 0 [] ys)
    else if op = 22 then (if a.op = 5 ∨ b.op = 4 then leafX 4 0 else if a.op = 4 then b else if b.op = 5 then (if a.op = 19 then a.args.headD (leafX 0 0) else .mk 19 0 [] [a]) else .mk op 0 [] ys)
    else if op = 8 then (if zeroX b then a else if zeroX a then b else .mk op 0 [] ys)
    else if op = 9 then (if zeroX b then a else .mk op 0 [] ys)
    else if op = 10 then (if oneX b then a else if oneX a then b else .mk op 0 [] ys)
    else if op = 11 then (if oneX b then a else .mk op 0 [] ys)
    else .mk op 0 [] ys
  | [a, b, c] => if op = 14 then (if a.op = 4 then b else if a.op = 5 then c else .mk op 0 [] ys) else .mk op 0 [] ys
  | _ => .mk op 0 [] ys
mutual
/-- The simplified form; cx: those of the constants, ck: all types. -/
def Ex.fold (cl : List Nat → Int × Int) (cx : List Nat → Ex) (scope : Int) : Ex → Ex
  | .mk op num name args =>
    if op = 6 then (if attrK scope name ≠ 0 then .mk op num name args else cx name)
    else if args.isEmpty then .mk op num name args
    else if (foldL cl cx scope args).all isLit then litX ((Ex.mk op num name args).ty cl scope).1 (apS op ((foldL cl cx scope args).map litV))
    else redX op (foldL cl cx scope args)
def foldL (cl : List Nat → Int × Int) (cx : List Nat → Ex) (scope : Int) : List Ex → List Ex
  | [] => []
  | x :: xs => x.fold cl cx scope :: foldL cl cx scope xs
end
end Go.Proofs.YtfenhjpkomldcaaGreat
namespace Go.Proofs.YtfenhjpkomldcaaGreat
open Go Go.Ev
theorem wr_succS {k : Nat} (h : k ≤ 1000000) : wr .i64 ((k : Int) + 1) = ((k + 1 : Nat) : Int) := wr_succ (Nat.lt_of_le_of_lt h (by decide))
theorem wr_addS {a b : Nat} (ha : a ≤ 1000000) (hb : b ≤ 1000000) : wr .i64 ((a : Int) + b) = ((a + b : Nat) : Int) := by
  rw [wr64 (by omega)]; omega
/-- A bound on lengths, kept shut. -/
def Lim : Nat := 1000000
theorem lim_of {k : Nat} (h : k ≤ 100000) : k ≤ Lim := Nat.le_trans h (by decide)
theorem wr_succL {k : Nat} (h : k ≤ Lim) : wr .i64 ((k : Int) + 1) = ((k + 1 : Nat) : Int) := wr_succS h
/-- A shared counter. -/
def cntS (n : Nat) : List Ent := [⟨1, .cells [.i .i64 (n : Int)] 0 true⟩]
def fitsOk (n level : Nat) (x : Ex) : Prop := n + x.nodes ≤ 200 ∧ level + x.depth ≤ 17
def fitsOkL (n level : Nat) (xs : List Ex) : Prop := n + nodesL xs ≤ 200 ∧ level + depthL xs ≤ 17
instance (n level : Nat) (x : Ex) : Decidable (fitsOk n level x) := by unfold fitsOk; infer_instance
instance (n level : Nat) (x : List Ex) : Decidable (fitsOkL n level x) := by unfold fitsOkL; infer_instance
theorem drop_args {xs : List Ex} {k : Nat} (hk : k < xs.length) : xs.drop k = xs[k] :: xs.drop (k + 1) := List.drop_eq_getElem_cons hk
def fitsI (level n : Nat) (a : T) (xs : List Ex) (k : Nat) (st : St) : Prop :=
  ∃ fr lh m, st = ⟨fr, lh, cntS m⟩ ∧ getF fr 1 = .i .i64 (level : Int) ∧ getF fr 2 = .ptr .S 0 1 0 ∧ getF fr 23 = a ∧ getF fr 24 = .i .i64 (xs.length : Int) ∧ getF fr 25 = .i .i64 (k : Int) ∧
    m ≤ 200 ∧ (fitsOkL m (level + 1) (xs.drop k) ↔ fitsOkL n (level + 1) xs) ∧ (fitsOkL n (level + 1) xs → m + nodesL (xs.drop k) = n + nodesL xs)
def fitsP (y : Ex) : Prop := ∀ (level n : Nat) (cs : List T), IsEx y cs → y.nodes < 100000 → n ≤ 200 → level ≤ 17 → ∃ n' : Nat, DCall pE 101 [.agg cs, .i .i64 (level : Int), .ptr .S 0 1 0] (cntS n) = some (.b (decide (fitsOk n level y)), cntS n') ∧ (fitsOk n level y → n' = n + y.nodes)
theorem fits1 (xs : List Ex) (ih : ∀ y ∈ xs, fitsP y) (a : T) (cc : List T) (ha : IsSl a xs.length cc) (hx : IsExs xs cc) (level n : Nat) (hl : level ≤ 16) (hn : n ≤ 200) (o : Out) (ho : o = if fitsOkL n (level + 1) xs then .ext 0 else .ret) (hlen : nodesL xs < 100000) (fr : Fr) (lh : Tri Ent) (sh : List Ent) (hsh : sh = cntS n)
    (h1 : getF fr 1 = .i .i64 (level : Int)) (h2 : getF fr 2 = .ptr .S 0 1 0) (h23 : getF fr 23 = a) (h24 : getF fr 24 = .i .i64 (xs.length : Int)) (h25 : getF fr 25 = .i .i64 0) :
    DC pE 36 (.loop c101_L1) ⟨fr, lh, sh⟩ = some (o, ⟨frL pE 36 c101_L1 fr lh sh, lhL pE 36 c101_L1 fr lh sh, shL pE 36 c101_L1 fr lh sh⟩) ∧
    ((fitsOkL n (level + 1) xs → shL pE 36 c101_L1 fr lh sh = cntS (n + nodesL xs)) ∧ (¬ fitsOkL n (level + 1) xs → getF (frL pE 36 c101_L1 fr lh sh) 6 = .b false ∧ ∃ m, shL pE 36 c101_L1 fr lh sh = cntS m)) := by
  refine loop_rule (P := fun fr lh sh => (fitsOkL n (level + 1) xs → sh = cntS (n + nodesL xs)) ∧ (¬ fitsOkL n (level + 1) xs → getF fr 6 = .b false ∧ ∃ m, sh = cntS m)) (loop_inv (fitsI level n a xs) _ xs.length ?_ ?_ 0 _ (Nat.zero_le _) ⟨fr, lh, n, by rw [hsh], h1, h2, h23, h24, h25, hn, Iff.rfl, fun _ => rfl⟩)
  · rintro k _ hk ⟨fr, lh, m, rfl, h1, h2, h23, h24, h25, hm, he, hs⟩
    have hk' : (k : Int) < xs.length := by omega
    have hlen' := nodesL_len xs
    have hyk := nodesL_mem (List.getElem_mem hk)
    have hw := wr_succS (k := k) (by omega)
    have hw2 := wr_succS (k := level) (by omega)
    obtain ⟨b, cb, r, hia, hb1, hb2, hb⟩ := arg_at ha hx k hk
    obtain ⟨m', hcall, hm'⟩ := ih xs[k] (List.getElem_mem hk) (level + 1) m _ hb (by omega) hm (by omega)
    rw [drop_args hk] at he hs
    simp only [fitsOkL, nodesL, depthL] at he hs
    by_cases hf : fitsOk m (level + 1) xs[k]
    · left
      rw [decide_eq_true hf] at hcall
      simp only [qF, qGO0, qGO1, qGO2, qGO3, qGO4, qGO5, splice, Nat.reduceAdd, Nat.reduceLT, Nat.reduceLeDiff, Nat.reduceEqDiff, qKP0, c101_L1, h1, h2, h23, h24, h25, hk', hia, hw, hw2, hcall, dc101, hb1.kept1]
      refine ⟨_, rfl, _, _, m', rfl, ?_, ?_, ?_, ?_, ?_, ?_, ?_, ?_⟩
      all_goals first | (simp only [qGO2, qGO4, Nat.reduceEqDiff, h1, h2, h23, h24]; done) | skip
      all_goals (rw [hm' hf]; unfold fitsOk at hf; first | omega | (simp only [fitsOkL]; omega) | (intro hc; have := hs (by simpa only [fitsOkL] using hc); omega))
    · right
      rw [decide_eq_false hf] at hcall
      simp only [qF, qGO0, qGO1, qGO2, qGO3, qGO4, qGO5, splice, Nat.reduceAdd, Nat.reduceLT, Nat.reduceLeDiff, Nat.reduceEqDiff, qKP0, c101_L1, h1, h2, h23, h24, h25, hk', hia, hw2, hcall, dc101, hb1.kept1]
      have hno : ¬ fitsOkL n (level + 1) xs := by unfold fitsOk at hf; unfold fitsOkL; omega
      refine ⟨_, _, (by simp : Out.ret ≠ .nrm), rfl, ?_, fun hc => absurd hc hno, fun _ => ⟨by simp only [qGO2], m', rfl⟩⟩
      rw [ho, if_neg hno]
  · rintro _ ⟨fr, lh, m, rfl, h1, h2, h23, h24, h25, hm, he, hs⟩
    rw [List.drop_length] at he hs
    have hyes : fitsOkL n (level + 1) xs := he.1 (by unfold fitsOkL; rw [nodesL, depthL]; omega)
    simp only [qGO0, qGO1, qGO2, qGO4, qGO5, Nat.reduceLT, c101_L1, h24, h25, Int.lt_irrefl]
    refine ⟨_, _, (by simp : Out.ext 0 ≠ .nrm), rfl, by rw [ho, if_pos hyes], fun _ => ?_, fun hc => absurd hyes hc⟩
    have := hs hyes
    rw [nodesL, Nat.add_zero] at this
    rw [this]
theorem fits_ev (x : Ex) : fitsP x := by
  induction x using Ex.ind with
  | h x ih =>
    intro level n cs hx hb hn hl
    obtain ⟨a, cc, rfl, ha, hxs⟩ := hx.cells
    rw [p_fun fn101 (by simp [c101])]
    have hw := wr_succS (k := n) (by omega)
    have hnd := x.nodes_eq
    have hdp := x.depth_eq
    unfold cntS
    by_cases h1 : (200 : Int) < ((n + 1 : Nat) : Int)
    · have hf : ¬ fitsOk n level x := by unfold fitsOk; omega
      rw [decide_eq_false hf]
      simp only [qF, qGO0, qGO1, qGO2, qGO3, qGO4, qGO5, splice, Nat.reduceAdd, reduceCtorEq, Nat.reduceLT, Nat.reduceEqDiff, qSH0, c101, hw, h1]
      exact ⟨n + 1, rfl, fun h => absurd h hf⟩
    · by_cases h2 : (16 : Int) < (level : Int)
      · have hf : ¬ fitsOk n level x := by unfold fitsOk; omega
        rw [decide_eq_false hf]
        simp only [qF, qGO0, qGO1, qGO2, qGO3, qGO4, qGO5, splice, Nat.reduceAdd, reduceCtorEq, Nat.reduceLT, Nat.reduceEqDiff, qSH0, c101, hw, h1, h2]
        exact ⟨n + 1, rfl, fun h => absurd h hf⟩
      · have hlen : nodesL x.args < 100000 := by omega
        have hiff : fitsOk n level x ↔ fitsOkL (n + 1) (level + 1) x.args := by unfold fitsOk fitsOkL; omega
        have hL := fun fr lh sh hsh => fits1 x.args ih a cc ha hxs level (n + 1) (by omega) (by omega) _ rfl hlen fr lh sh hsh
        unfold cntS at hL
        by_cases hf : fitsOkL (n + 1) (level + 1) x.args
        · rw [decide_eq_true (hiff.2 hf)]
          simp only [hf, if_true, forall_const, not_true_eq_false, false_implies, and_true] at hL
          simp only [qF, qGO0, qGO1, qGO2, qGO3, qGO4, qGO5, splice, Nat.reduceAdd, reduceCtorEq, Nat.reduceLT, Nat.reduceEqDiff, qSH0, c101, hw, h1, h2, ha.lenI, hL]
          exact ⟨n + 1 + nodesL x.args, rfl, fun _ => by omega⟩
        · rw [decide_eq_false (fun h => hf (hiff.1 h))]
          simp only [hf, if_false, forall_const, not_false_eq_true, false_implies, true_and] at hL
          have hL2 := fun fr lh sh hsh h1 h2 h3 h4 h5 => (hL fr lh sh hsh h1 h2 h3 h4 h5).2.2
          have hL1 := fun fr lh sh hsh h1 h2 h3 h4 h5 => And.intro (hL fr lh sh hsh h1 h2 h3 h4 h5).1 (hL fr lh sh hsh h1 h2 h3 h4 h5).2.1
          simp only [qF, qGO0, qGO1, qGO2, qGO3, qGO4, qGO5, splice, Nat.reduceAdd, reduceCtorEq, Nat.reduceLT, Nat.reduceEqDiff, qSH0, c101, hw, h1, h2, ha.lenI, hL1]
          generalize hX : shL _ _ _ _ _ _ = X
          obtain ⟨m, hm⟩ : ∃ m : Nat, X = [⟨1, .cells [.i .i64 (m : Int)] 0 true⟩] := by
            rw [← hX]
            refine hL2 _ _ _ rfl ?_ ?_ ?_ ?_ ?_ <;> simp only [qGO2, qGO4, reduceCtorEq, Nat.reduceEqDiff]
          rw [hm]
          exact ⟨m, rfl, fun h => absurd (hiff.1 h) hf⟩
end Go.Proofs.YtfenhjpkomldcaaGreat
namespace Go.Proofs.YtfenhjpkomldcaaGreat
open Go Go.Ev
mutual
/-- The size, as the reference counts it. -/
def Ex.sz : Ex → Nat → Nat × Nat
  | .mk _ _ _ args, level => if 16 < level then (1, 1) else szL args level (1, 1)
def szL : List Ex → Nat → Nat × Nat → Nat × Nat
  | [], _, p => p
  | x :: xs, level, p => if p.1 ≤ 200 then szL xs level (p.1 + (x.sz (level + 1)).1, max p.2 ((x.sz (level + 1)).2 + 1)) else p
end
theorem Ex.sz_eq (x : Ex) (level : Nat) : x.sz level = if 16 < level then (1, 1) else szL x.args level (1, 1) := by obtain ⟨_, _, _, _⟩ := x; rw [Ex.sz]; rfl
theorem szL_bd {xs : List Ex} {level : Nat} (ih : ∀ y ∈ xs, (y.sz (level + 1)).1 ≤ 1 + 200 * (17 - (level + 1)) ∧ (y.sz (level + 1)).2 ≤ 18 - (level + 1)) (hl : level ≤ 16) : ∀ p : Nat × Nat, p.1 ≤ 1 + 200 * (17 - level) → p.2 ≤ 18 - level → (szL xs level p).1 ≤ 1 + 200 * (17 - level) ∧ (szL xs level p).2 ≤ 18 - level := by
  induction xs with
  | nil => intro p h1 h2; rw [szL]; exact ⟨h1, h2⟩
  | cons y ys ihy =>
    intro p h1 h2
    rw [szL]
    have h3 := ih y (by simp)
    split
    · refine ihy (fun z hz => ih z (by simp [hz])) _ ?_ ?_ <;> simp only <;> omega
    · exact ⟨h1, h2⟩
theorem sz_bd (x : Ex) : ∀ level, level ≤ 17 → (x.sz level).1 ≤ 1 + 200 * (17 - level) ∧ (x.sz level).2 ≤ 18 - level := by
  induction x using Ex.ind with
  | h x ih =>
    intro level hl
    rw [Ex.sz_eq]
    split
    · simp only; omega
    · exact szL_bd (fun y hy => ih y hy (level + 1) (by omega)) (by omega) _ (by simp only; omega) (by simp only; omega)
theorem sz_bd' (x : Ex) {level : Nat} (h : level ≤ 17) : (x.sz level).1 ≤ 4000 ∧ (x.sz level).2 ≤ 18 := by
  have := sz_bd x level h
  generalize x.sz level = q at *
  have h1 : 17 - level ≤ 17 := by omega
  generalize 17 - level = r at *
  constructor <;> omega
theorem szL_mono : ∀ (xs : List Ex) (level : Nat) (p : Nat × Nat), p.1 ≤ (szL xs level p).1 ∧ p.2 ≤ (szL xs level p).2
  | [], level, p => by rw [szL]; simp
  | x :: xs, level, p => by
    rw [szL]
    split
    · have := szL_mono xs level (p.1 + (x.sz (level + 1)).1, max p.2 ((x.sz (level + 1)).2 + 1))
      simp only at this; omega
    · simp
def szOk (x : Ex) : Prop := ∀ level, level ≤ 17 → if fitsOk 0 level x then x.sz level = (x.nodes, x.depth) else 200 < (x.sz level).1 ∨ 17 < level + (x.sz level).2
theorem szL_ok {xs : List Ex} {level : Nat} (ih : ∀ y ∈ xs, szOk y) (hl : level ≤ 16) : ∀ p : Nat × Nat, 1 ≤ p.2 → p.1 ≤ 200 →
    if fitsOkL p.1 (level + 1) xs then szL xs level p = (p.1 + nodesL xs, max p.2 (depthL xs + 1)) else 200 < (szL xs level p).1 ∨ 17 < level + (szL xs level p).2 := by
  induction xs with
  | nil =>
    intro p h1 h2
    have : fitsOkL p.1 (level + 1) [] := by unfold fitsOkL; rw [nodesL, depthL]; omega
    rw [if_pos this, szL, nodesL, depthL, Nat.max_eq_left (by omega)]; rfl
  | cons y ys ihy =>
    intro p h1 h2
    have hy := ih y (by simp) (level + 1) (by omega)
    have hys := ihy fun z hz => ih z (by simp [hz])
    have hnd : 1 ≤ y.nodes := by rw [y.nodes_eq]; omega
    have hmono := szL_mono ys level (p.1 + (y.sz (level + 1)).1, max p.2 ((y.sz (level + 1)).2 + 1))
    rw [szL, if_pos h2]
    by_cases hf : fitsOk 0 (level + 1) y
    · rw [if_pos hf] at hy
      rw [hy] at hmono ⊢
      simp only at hmono ⊢
      by_cases h3 : p.1 + y.nodes ≤ 200
      · have := hys (p.1 + y.nodes, max p.2 (y.depth + 1)) (by simp only; omega) h3
        simp only at this
        by_cases h4 : fitsOkL (p.1 + y.nodes) (level + 1) ys
        · rw [if_pos h4] at this
          have h5 : fitsOkL p.1 (level + 1) (y :: ys) := by unfold fitsOkL at h4 ⊢; unfold fitsOk at hf; rw [nodesL, depthL]; omega
          rw [if_pos h5, this, nodesL, depthL]
          refine Prod.ext ?_ ?_ <;> simp only <;> omega
        · rw [if_neg h4] at this
          have h5 : ¬ fitsOkL p.1 (level + 1) (y :: ys) := by unfold fitsOkL at h4 ⊢; unfold fitsOk at hf; rw [nodesL, depthL]; omega
          rw [if_neg h5]; exact this
      · have h5 : ¬ fitsOkL p.1 (level + 1) (y :: ys) := by unfold fitsOkL; rw [nodesL, depthL]; omega
        rw [if_neg h5]; omega
    · rw [if_neg hf] at hy
      have h5 : ¬ fitsOkL p.1 (level + 1) (y :: ys) := by unfold fitsOkL; unfold fitsOk at hf; rw [nodesL, depthL]; omega
      rw [if_neg h5]
      simp only at hmono; omega
theorem sz_ok (x : Ex) : szOk x := by
  induction x using Ex.ind with
  | h x ih =>
    intro level hl
    have hnd := x.nodes_eq
    have hdp := x.depth_eq
    rw [Ex.sz_eq]
    by_cases h : 16 < level
    · have h5 : ¬ fitsOk 0 level x := by unfold fitsOk; omega
      rw [if_neg h5, if_pos h]; simp only; omega
    · rw [if_neg h]
      have := szL_ok ih (level := level) (by omega) (1, 1) (by simp) (by simp)
      simp only at this
      by_cases h4 : fitsOkL 1 (level + 1) x.args
      · rw [if_pos h4] at this
        have h5 : fitsOk 0 level x := by unfold fitsOkL at h4; unfold fitsOk; omega
        rw [if_pos h5, this]
        refine Prod.ext ?_ ?_ <;> simp only <;> omega
      · rw [if_neg h4] at this
        have h5 : ¬ fitsOk 0 level x := by unfold fitsOkL at h4; unfold fitsOk; omega
        rw [if_neg h5]; exact this
theorem sz_big (x : Ex) : (200 < (x.sz 1).1 ∨ 16 < (x.sz 1).2) ↔ big x := by
  have := sz_ok x 1 (by omega)
  by_cases h : fitsOk 0 1 x
  · rw [if_pos h] at this
    rw [this]; unfold big; simp only
  · rw [if_neg h] at this
    unfold big; unfold fitsOk at h; omega
/-- The loop over the arguments. -/
def szP (y : Ex) : Prop := ∀ (level : Nat) (cs : List T), IsEx y cs → level ≤ 17 → DCall pE 166 [.agg cs, .i .i64 (level : Int)] [] = some (.tup [.i .i64 ((y.sz level).1 : Int), .i .i64 ((y.sz level).2 : Int)], [])
theorem size1 (xs : List Ex) (ih : ∀ y ∈ xs, szP y) (a : T) (cc : List T) (ha : IsSl a xs.length cc) (hx : IsExs xs cc) (level : Nat) (hl : level ≤ 16) (op num : Int) (s : List Nat) (g : Nat) (fr : Fr) (lh : Tri Ent) (sh : List Ent)
    (h1 : getF fr 1 = .i .i64 (level : Int)) (h2 : getF fr 2 = .ptr .L 2 g 0) (h6 : getF fr 6 = .i .i64 1) (h7 : getF fr 7 = .i .i64 1) (h8 : getF fr 8 = .i .i64 0) (o2 : getO lh 2 = ⟨g, .cells [.i .i64 op, .i .i64 num, .s s, a] 0 true⟩) :
    DC pE 44 (.loop c166_L1) ⟨fr, lh, sh⟩ = some (.ext 0, ⟨frL pE 44 c166_L1 fr lh sh, lhL pE 44 c166_L1 fr lh sh, shL pE 44 c166_L1 fr lh sh⟩) ∧
    (getF (frL pE 44 c166_L1 fr lh sh) 6 = .i .i64 ((szL xs level (1, 1)).1 : Int) ∧ getF (frL pE 44 c166_L1 fr lh sh) 7 = .i .i64 ((szL xs level (1, 1)).2 : Int) ∧ lhL pE 44 c166_L1 fr lh sh = lh ∧ shL pE 44 c166_L1 fr lh sh = sh) := by
  refine loop_rule (P := fun fr lh' sh' => getF fr 6 = .i .i64 ((szL xs level (1, 1)).1 : Int) ∧ getF fr 7 = .i .i64 ((szL xs level (1, 1)).2 : Int) ∧ lh' = lh ∧ sh' = sh) (loop_inv (fun k st => ∃ (fr : Fr) (p : Nat × Nat), st = ⟨fr, lh, sh⟩ ∧ getF fr 1 = .i .i64 (level : Int) ∧ getF fr 2 = .ptr .L 2 g 0 ∧ getF fr 6 = .i .i64 (p.1 : Int) ∧ getF fr 7 = .i .i64 (p.2 : Int) ∧ getF fr 8 = .i .i64 (k : Int) ∧
      szL (xs.drop k) level p = szL xs level (1, 1) ∧ k ≤ p.1 ∧ p.2 ≤ 19 ∧ p.1 ≤ 4300) _ xs.length ?_ ?_ 0 _ (Nat.zero_le _) ⟨fr, (1, 1), rfl, h1, h2, h6, h7, h8, rfl, by simp, by simp, by simp⟩)
  · rintro k _ hk ⟨fr, p, rfl, h1, h2, h6, h7, h8, he, hp, hp2, hp1⟩
    have hk' : (k : Int) < xs.length := by omega
    obtain ⟨b, cb, r, hia, hb1, hb2, hb⟩ := arg_at ha hx k hk
    have hcall := ih xs[k] (List.getElem_mem hk) (level + 1) _ hb (by omega)
    have hbd := sz_bd' xs[k] (level := level + 1) (by omega)
    have hpos : 1 ≤ (xs[k].sz (level + 1)).1 := by
      rw [Ex.sz_eq]; split
      · simp
      · exact (szL_mono xs[k].args (level + 1) (1, 1)).1
    rw [drop_args hk, szL] at he
    generalize xs[k].sz (level + 1) = q at hcall hbd hpos he
    obtain ⟨hq1, hq2⟩ := hbd
    by_cases hf : p.1 ≤ 200
    · left
      have hf' : (p.1 : Int) ≤ 200 := by omega
      have hw := wr_succS (k := k) (Nat.le_trans hp (Nat.le_trans hf (by decide)))
      have hw2 := wr_succS (k := level) (Nat.le_trans hl (by decide))
      have hw3 := wr_succS (k := q.2) (Nat.le_trans hq2 (by decide))
      have hw4 := wr_addS (a := p.1) (b := q.1) (Nat.le_trans hf (by decide)) (Nat.le_trans hq1 (by decide))
      rw [if_pos hf] at he
      by_cases hmx : (p.2 : Int) < ((q.2 + 1 : Nat) : Int)
      · have hmx' : (p.2 : Int) < ((q.2 + 1 : Nat) : Int) := hmx
        simp only [qF, qGO0, qGO1, qGO2, qGO3, qGO4, mmV, minmax, Nat.reduceLT, Nat.reduceLeDiff, Nat.reduceEqDiff, c166_L1, h1, h2, h6, h7, h8, o2, hk', ha.lenI, hf', hia, hw, hw2, hw3, hw4, hcall, dc166, hb1.froz1, hmx]
        refine ⟨_, rfl, _, (p.1 + q.1, q.2 + 1), rfl, ?_, ?_, ?_, ?_, ?_, ?_, ?_, ?_, ?_⟩
        all_goals first | (simp only [qGO2, qGO4, Nat.reduceLeDiff, Nat.reduceEqDiff, h1, h2]; done) | skip
        · rw [Nat.max_eq_right (by omega)] at he; exact he
        all_goals (simp only; omega)
      · simp only [qF, qGO0, qGO1, qGO2, qGO3, qGO4, mmV, minmax, Nat.reduceLT, Nat.reduceLeDiff, Nat.reduceEqDiff, c166_L1, h1, h2, h6, h7, h8, o2, hk', ha.lenI, hf', hia, hw, hw2, hw3, hw4, hcall, dc166, hb1.froz1, hmx]
        refine ⟨_, rfl, _, (p.1 + q.1, p.2), rfl, ?_, ?_, ?_, ?_, ?_, ?_, ?_, ?_, ?_⟩
        all_goals first | (simp only [qGO2, qGO4, Nat.reduceEqDiff, h1, h2]; done) | skip
        · rw [Nat.max_eq_left (by omega)] at he; exact he
        all_goals (simp only; omega)
    · right
      have hf' : ¬ (p.1 : Int) ≤ 200 := by omega
      rw [if_neg hf] at he
      simp only [qGO0, qGO1, qGO2, qGO3, qGO4, qGO5, Nat.reduceLT, Nat.reduceEqDiff, c166_L1, h2, h6, h8, o2, hk', ha.lenI, hf']
      exact ⟨_, _, (by simp : Out.ext 0 ≠ .nrm), rfl, rfl, by simp only [qGO2, qGO4, Nat.reduceEqDiff, h6, ← he], by simp only [qGO2, qGO4, Nat.reduceEqDiff, h7, ← he], rfl, rfl⟩
  · rintro _ ⟨fr, p, rfl, h1, h2, h6, h7, h8, he, hp, hp2, hp1⟩
    rw [List.drop_length, szL] at he
    simp only [qGO0, qGO1, qGO2, qGO3, qGO4, qGO5, Nat.reduceLT, Nat.reduceEqDiff, c166_L1, h2, h8, o2, ha.lenI, Int.lt_irrefl]
    exact ⟨_, _, (by simp : Out.ext 0 ≠ .nrm), rfl, rfl, by simp only [qGO2, qGO4, Nat.reduceEqDiff, h6, ← he], by simp only [qGO2, qGO4, Nat.reduceEqDiff, h7, ← he], rfl, rfl⟩
end Go.Proofs.YtfenhjpkomldcaaGreat
namespace Go.Proofs.YtfenhjpkomldcaaGreat
open Go Go.Ev
theorem size_ev (x : Ex) : szP x := by
  induction x using Ex.ind with
  | h x ih =>
    intro level cs hx hl
    obtain ⟨a, cc, rfl, ha, hxs⟩ := hx.cells
    rw [p_fun fn166 (by simp [c166]), Ex.sz_eq]
    by_cases h2 : (16 : Int) < (level : Int)
    · have h3 : 16 < level := by omega
      simp only [qF, qGO0, qGO1, qGO2, qGO3, qGO4, reduceCtorEq, Nat.reduceLT, Nat.reduceEqDiff, c166, h2, h3]
    · have h3 : ¬ 16 < level := by omega
      have hL := fun g fr lh sh => size1 x.args ih a cc ha hxs level (by omega) x.op x.num x.name g fr lh sh
      simp only [qF, qGO0, qGO1, qGO2, qGO3, qGO4, qGO5, reduceCtorEq, Nat.reduceLT, Nat.reduceEqDiff, c166, h2, h3, hL 1]
theorem Size_ev (x : Ex) (cs : List T) (hx : IsEx x cs) : DCall pE 111 [.agg cs] [] = some (.tup [.i .i64 ((x.sz 1).1 : Int), .i .i64 ((x.sz 1).2 : Int)], []) := by
  have h := size_ev x 1 cs hx (by omega)
  obtain ⟨a, cc, rfl, ha, hxs⟩ := hx.cells
  rw [p_fun fn111 (by simp [c111])]
  simp only [qF, qGO0, qGO1, qGO2, qGO3, qGO4, qGO5, Nat.reduceAdd, Nat.reduceLT, Nat.reduceEqDiff, c111, dc166, ha.froz1] at h ⊢
  simp only [qF, qGO0, qGO1, qGO2, qGO3, qGO4, Nat.reduceLT, Nat.reduceEqDiff, h]
theorem op_cases {op : Int} (h1 : 1 ≤ op) (h2 : op ≤ 22) : op = 1 ∨ op = 2 ∨ op = 3 ∨ op = 4 ∨ op = 5 ∨ op = 6 ∨ op = 7 ∨ op = 8 ∨ op = 9 ∨ op = 10 ∨ op = 11 ∨ op = 12 ∨ op = 13 ∨ op = 14 ∨ op = 15 ∨ op = 16 ∨ op = 17 ∨ op = 18 ∨ op = 19 ∨ op = 20 ∨ op = 21 ∨ op = 22 := by omega
theorem argsFit_ev (op : Int) (n : Nat) (h1 : 1 ≤ op) (h2 : op ≤ 22) : DCall pE 155 [.i .i64 op, .i .i64 (n : Int)] [] = some (.b (arOk op n), []) := by
  have e0 : decide ((n : Int) = 0) = decide (n = 0) := by rw [decide_eq_decide]; omega
  have e1 : decide ((n : Int) = 1) = decide (n = 1) := by rw [decide_eq_decide]; omega
  have e2 : decide ((n : Int) = 2) = decide (n = 2) := by rw [decide_eq_decide]; omega
  have e3 : decide ((n : Int) = 3) = decide (n = 3) := by rw [decide_eq_decide]; omega
  have e4 : decide ((2 : Int) ≤ n) = decide (2 ≤ n) := by rw [decide_eq_decide]; omega
  rw [p_fun fn155 (by simp [c155])]
  rcases op_cases h1 h2 with rfl | rfl | rfl | rfl | rfl | rfl | rfl | rfl | rfl | rfl | rfl | rfl | rfl | rfl | rfl | rfl | rfl | rfl | rfl | rfl | rfl | rfl <;>
    simp only [qF, qGO0, qGO1, qGO2, qGO3, qGO4, qGO5, reduceCtorEq, Nat.reduceLT, Nat.reduceEqDiff, Int.reduceLE, Int.reduceEq, c155, arOk, e0, e1, e2, e3, e4, or_true, or_false, or_self]
def arLo (op : Int) : Int := if op ≤ 6 then 0 else if op = 7 ∨ op = 19 then 1 else if op = 12 ∨ op = 13 then 2 else if op = 14 ∨ op = 15 then 3 else 2
def arHi (op : Int) : Int := if op ≤ 6 then 0 else if op = 7 ∨ op = 19 then 1 else if op = 12 ∨ op = 13 then 200 else if op = 14 ∨ op = 15 then 3 else 2
theorem arity_ev (op : Int) (h1 : 1 ≤ op) (h2 : op ≤ 22) : DCall pE 167 [.i .i64 op] [] = some (.tup [.i .i64 (arLo op), .i .i64 (arHi op)], []) := by
  rw [p_fun fn167 (by simp [c167])]
  rcases op_cases h1 h2 with rfl | rfl | rfl | rfl | rfl | rfl | rfl | rfl | rfl | rfl | rfl | rfl | rfl | rfl | rfl | rfl | rfl | rfl | rfl | rfl | rfl | rfl <;>
    simp only [qF, qGO0, qGO1, qGO2, qGO3, qGO4, qGO5, reduceCtorEq, Nat.reduceLT, Nat.reduceEqDiff, Int.reduceLE, Int.reduceEq, c167, arLo, arHi, or_true, or_false, or_self]
theorem ar_iff (op : Int) (n : Nat) (h1 : 1 ≤ op) (h2 : op ≤ 22) (hn : n ≤ 200) : arOk op n = true ↔ ¬ (n : Int) < arLo op ∧ ¬ arHi op < (n : Int) := by
  rcases op_cases h1 h2 with rfl | rfl | rfl | rfl | rfl | rfl | rfl | rfl | rfl | rfl | rfl | rfl | rfl | rfl | rfl | rfl | rfl | rfl | rfl | rfl | rfl | rfl <;>
    simp only [arOk, arLo, arHi, Int.reduceLE, Int.reduceEq, or_true, or_false, or_self, if_true, if_false, decide_eq_true_eq] <;> omega
theorem dotI_lt : ∀ {s : List Nat} {i : Nat}, dotI s = some i → i < s.length
  | [], i, h => by simp [dotI] at h
  | c :: cs, i, h => by
    rw [dotI] at h
    split at h
    · simp at h; subst h; simp
    · cases hd : dotI cs with
      | none => simp [hd] at h
      | some j =>
        simp [hd] at h
        have := dotI_lt hd
        subst h; simpa using this
theorem dotI_drop {s : List Nat} : ∀ (k : Nat) , k ≤ s.length → (∀ j (h : j < k) (hl : j < s.length), s[j] ≠ 46) → dotI s = (dotI (s.drop k)).map (· + k)
  | 0, _, _ => by simp
  | k + 1, hk, h => by
    have := dotI_drop (s := s) k (by omega) fun j hj hl => h j (by omega) hl
    have hlt : k < s.length := by omega
    rw [this, List.drop_eq_getElem_cons hlt, dotI, if_neg (h k (by omega) hlt)]
    cases dotI (s.drop (k + 1)) with
    | none => rfl
    | some i => simp; omega
/-- The reference's search for a dot. -/
theorem rfind1 (s : List Nat) (hs : s.length ≤ Lim) (o : Out) (ho : o = if dotI s = none then .ext 0 else .ret) (fr : Fr) (lh : Tri Ent) (sh : List Ent) (h0 : getF fr 0 = .s s) (h1 : getF fr 1 = .i .u8 46) (h5 : getF fr 5 = .i .i64 0) :
    DC pE 18 (.loop c223_L1) ⟨fr, lh, sh⟩ = some (o, ⟨frL pE 18 c223_L1 fr lh sh, lhL pE 18 c223_L1 fr lh sh, shL pE 18 c223_L1 fr lh sh⟩) ∧
    ((∀ i, dotI s = some i → getF (frL pE 18 c223_L1 fr lh sh) 4 = .i .i64 (i : Int)) ∧ lhL pE 18 c223_L1 fr lh sh = lh ∧ shL pE 18 c223_L1 fr lh sh = sh) := by
  refine loop_rule (P := fun fr lh' sh' => (∀ i, dotI s = some i → getF fr 4 = .i .i64 (i : Int)) ∧ lh' = lh ∧ sh' = sh) (loop_inv (fun k st => ∃ fr : Fr, st = ⟨fr, lh, sh⟩ ∧ getF fr 0 = .s s ∧ getF fr 1 = .i .u8 46 ∧ getF fr 5 = .i .i64 (k : Int) ∧ k ≤ s.length ∧ ∀ j (h : j < k) (hl : j < s.length), s[j] ≠ 46) _ s.length ?_ ?_ 0 _ (Nat.zero_le _) ⟨fr, rfl, h0, h1, h5, Nat.zero_le _, by simp⟩)
  · rintro k _ hk ⟨fr, rfl, h0, h1, h5, hkl, hno⟩
    have hk' : (k : Int) < s.length := by omega
    have hw := wr_succL (k := k) (by omega)
    have hd := dotI_drop k hkl hno
    rw [List.drop_eq_getElem_cons hk, dotI] at hd
    by_cases hc : s[k] = 46
    · right
      have hc' : (s[k] : Int) = 46 := by omega
      rw [if_pos hc] at hd
      simp only [Option.map_some, Nat.zero_add] at hd
      simp only [qGO0, qGO1, qGO2, qGO3, qGO4, reduceCtorEq, Nat.reduceLT, Nat.reduceEqDiff, c223_L1, h0, h1, h5, hk', ix_at hk, hc']
      refine ⟨_, _, (by simp : Out.ret ≠ .nrm), rfl, by rw [ho, hd]; rfl, fun i hi => ?_, rfl, rfl⟩
      rw [hd] at hi
      cases hi
      simp only [qGO2]
    · left
      have hc' : ¬ (s[k] : Int) = 46 := by omega
      simp only [qGO0, qGO1, qGO2, qGO3, qGO4, qGO5, reduceCtorEq, Nat.reduceLT, Nat.reduceEqDiff, c223_L1, h0, h1, h5, hk', ix_at hk, hc', hw]
      refine ⟨_, rfl, _, rfl, ?_, ?_, ?_, by omega, ?_⟩
      all_goals first | (simp only [qGO2, qGO4, reduceCtorEq, Nat.reduceEqDiff, h0, h1]; done) | skip
      intro j hj hl
      by_cases e : j = k
      · subst e; exact hc
      · exact hno j (by omega) hl
  · rintro _ ⟨fr, rfl, h0, h1, h5, hkl, hno⟩
    have hd := dotI_drop s.length hkl hno
    rw [List.drop_length, dotI] at hd
    simp only [qGO0, qGO1, qGO2, qGO4, qGO5, reduceCtorEq, Nat.reduceLT, Nat.reduceEqDiff, c223_L1, h0, h5, Int.lt_irrefl]
    refine ⟨_, _, (by simp : Out.ext 0 ≠ .nrm), rfl, by rw [ho, hd]; rfl, fun i hi => ?_, rfl, rfl⟩
    rw [hd] at hi; cases hi
def dotV (s : List Nat) : Int := match dotI s with | none => -1 | some i => (i : Int)
theorem rfind_ev (s : List Nat) (hs : s.length ≤ Lim) : DCall pE 223 [.s s, .i .u8 46] [] = some (.i .i64 (dotV s), []) := by
  have hL := fun fr lh sh => rfind1 s hs _ rfl fr lh sh
  rw [p_fun fn223 (by simp [c223])]
  unfold dotV
  cases hd : dotI s with
  | none =>
    simp only [hd, if_true, reduceCtorEq, false_implies, implies_true, true_and] at hL
    simp only [qF, qGO0, qGO1, qGO2, qGO3, qGO4, Int.reduceNeg, reduceCtorEq, Nat.reduceLT, Nat.reduceEqDiff, c223, hL]
  | some i =>
    simp only [hd, reduceCtorEq, if_false, Option.some.injEq, forall_eq'] at hL
    simp only [qF, qGO0, qGO1, qGO2, qGO3, qGO4, Int.reduceNeg, reduceCtorEq, Nat.reduceLT, Nat.reduceEqDiff, c223, hL]
theorem slSV_from {fr : Fr} {bs : List Nat} {x : Opd} {k : IntKind} {j : Nat} (h : rd fr x = .i k (j : Int)) (hj : j ≤ bs.length) : slSV fr (.s bs) (some x) none = some (.s (bs.drop j)) := by
  unfold slSV optVal
  have ht : List.take (bs.length - j) (bs.drop j) = bs.drop j := List.take_of_length_le (by simp)
  simp [h, asNat_i, hj, ht]
theorem slSV_to {fr : Fr} {bs : List Nat} {x : Opd} {k : IntKind} {j : Nat} (h : rd fr x = .i k (j : Int)) (hj : j ≤ bs.length) : slSV fr (.s bs) none (some x) = some (.s (bs.take j)) := by
  unfold slSV optVal
  simp [h, asNat_i, hj]
theorem attrNm_some {s : List Nat} {i : Nat} (h : dotI s = some i) : attrNm s = (nameS (s.take i) && nameS (s.drop (i + 1))) := by unfold attrNm; rw [h]
theorem attrNm_none {s : List Nat} (h : dotI s = none) : attrNm s = dnameS s := by unfold attrNm; rw [h]
theorem rattrNm_ev (s : List Nat) (hs : s.length ≤ Lim) : DCall pE 168 [.s s] [] = some (.b (attrNm s), []) := by
  have hf := rfind_ev s hs
  unfold dotV at hf
  rw [p_fun fn168 (by simp [c168])]
  cases hd : dotI s with
  | none =>
    simp only [hd] at hf
    rw [attrNm_none hd]
    simp (maxDischargeDepth := 6) only [qF, qGO0, qGO1, qGO2, qGO3, qGO4, Int.reduceNeg, reduceCtorEq, Nat.reduceLT, Int.reduceLT, c168, hf, dc223, rdname_ev, dc126]
  | some i =>
    simp only [hd] at hf
    rw [attrNm_some hd]
    have hi := dotI_lt hd
    have h0 : ¬ (i : Int) < 0 := by omega
    have hw := wr_succL (k := i) (by omega)
    have hle : i ≤ s.length := by omega
    have hle' : i + 1 ≤ s.length := by omega
    generalize i + 1 = j at hw hle' ⊢
    have hs1 := fun fr x (h : rd fr x = .i .i64 (j : Int)) => slSV_from h hle'
    have hs2 := fun fr x (h : rd fr x = .i .i64 (i : Int)) => slSV_to h hle
    cases hn : nameS (s.take i) <;> simp (maxDischargeDepth := 6) only [qF, qGO0, qGO1, qGO2, qGO3, qGO4, qGO5, reduceCtorEq, Nat.reduceLT, Nat.reduceEqDiff, c168, hf, dc223, rname_ev, dc182, h0, hw, hs1, hs2, hn]
end Go.Proofs.YtfenhjpkomldcaaGreat
