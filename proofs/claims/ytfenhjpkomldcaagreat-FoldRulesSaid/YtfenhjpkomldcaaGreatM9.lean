/- Values of typed operators stay in their types: plain. Simplified nodes keep their types: plain. Simplified forms keep their types: plain. The program's reduce. The program's reduce: its parts. Conditions: the theorems' own. -/
import Derived.Test.YtfenhjpkomldcaaGreatM8
import Derived.KernelRfl
set_option maxRecDepth 100000
set_option linter.unusedSimpArgs false
set_option linter.unusedVariables false
set_option linter.unusedSectionVars false
set_option maxHeartbeats 16000000
namespace Go.Proofs.YtfenhjpkomldcaaGreat
open Go Go.Ev
def inKs : List Int → List Int → Prop
  | [], [] => True
  | t :: ts, v :: vs => inK t v ∧ inKs ts vs
  | _, _ => False
theorem inKs.len : ∀ {ts vs : List Int}, inKs ts vs → ts.length = vs.length
  | [], [], _ => rfl
  | t :: ts, v :: vs, h => by rw [List.length_cons, List.length_cons, inKs.len h.2]
theorem inKs.bd : ∀ {ts vs : List Int}, inKs ts vs → ∀ v ∈ vs, bd v
  | [], [], _ => by simp
  | t :: ts, v :: vs, h => by
    intro w hw
    rcases List.mem_cons.1 hw with rfl | hw
    · exact inK_bd h.1
    · exact inKs.bd h.2 w hw
theorem inKs.all {k : Int} : ∀ {ts vs : List Int}, inKs ts vs → allK ts k = true → ∀ v ∈ vs, inK k v
  | [], [], _, _ => by simp
  | t :: ts, v :: vs, h, ha => by
    rw [allK_cons, Bool.and_eq_true, decide_eq_true_eq] at ha
    intro w hw
    rcases List.mem_cons.1 hw with rfl | hw
    · rw [← ha.1]; exact h.1
    · exact inKs.all h.2 ha.2 w hw
theorem exL_bd (op : Int) (h : op = 12 ∨ op = 13) : ∀ (vs : List Int) (m : Int), bd m → (∀ v ∈ vs, bd v) → bd (exL op m vs)
  | [], m, hm, _ => by rw [exL_nil]; exact hm
  | v :: vs, m, hm, hv => by
    rw [exL_cons _ _ _ _ h]
    refine exL_bd op h vs _ ?_ (fun w hw => hv w (by simp [hw]))
    have := hv v (by simp)
    split <;> (unfold Go.Proofs.YtfenhjpkomldcaaGreat.bd at *; omega)
theorem k12 {ts : List Int} {k : Int} (h : (if allK ts 1 = true then (1 : Int) else if allK ts 2 = true then 2 else 0) = k) (hk : k ≠ 0) : k = 1 ∨ k = 2 := by
  split at h
  · exact .inl h.symm
  · split at h
    · exact .inr h.symm
    · exact absurd h.symm hk
theorem prodK_in {op a b k : Int} (h : prodK op a b = k) (hk : k ≠ 0) : k = 1 ∨ k = 2 := by
  unfold prodK at h
  split at h
  · omega
  · split at h
    · omega
    · split at h
      · omega
      · split at h <;> omega
theorem ap_ok {op k : Int} {ts vs : List Int} (hin : inKs ts vs) (h7 : 7 ≤ op) (h22 : op ≤ 22) (har : arOk op ts.length = true) (hr : resK op ts = k) (hk : k ≠ 0) : vOk op vs ∧ inK k (apS op vs) := by
  have hbd := hin.bd
  have hlen := hin.len
  have flag : ∀ b : Bool, inK 4 (flagS b) := fun b => .inr (.inr ⟨rfl, flagS_bit b⟩)
  rcases op_cases (show 1 ≤ op by omega) h22 with rfl | rfl | rfl | rfl | rfl | rfl | rfl | rfl | rfl | rfl | rfl | rfl | rfl | rfl | rfl | rfl | rfl | rfl | rfl | rfl | rfl | rfl
  iterate 6 · omega
  · have hkk := k12 hr hk
    obtain ⟨v, rfl⟩ := len1 (ts := vs) (by rw [← hlen]; simpa [arOk] using har)
    exact ⟨⟨hbd, fun h => absurd h (by decide), fun h => absurd h (by decide)⟩, inK_of hkk (bd_neg (hbd v (by simp)))⟩
  · have hkk := k12 hr hk
    obtain ⟨v, w, rfl⟩ := len2 (ts := vs) (by rw [← hlen]; simpa [arOk] using har)
    exact ⟨⟨hbd, fun h => absurd h (by decide), fun h => absurd h (by decide)⟩, inK_of hkk (clampS_bd _)⟩
  · have hkk := k12 hr hk
    obtain ⟨v, w, rfl⟩ := len2 (ts := vs) (by rw [← hlen]; simpa [arOk] using har)
    exact ⟨⟨hbd, fun h => absurd h (by decide), fun h => absurd h (by decide)⟩, inK_of hkk (clampS_bd _)⟩
  · have hkk := prodK_in (op := 10) hr hk
    obtain ⟨v, w, rfl⟩ := len2 (ts := vs) (by rw [← hlen]; simpa [arOk] using har)
    exact ⟨⟨hbd, fun h => absurd h (by decide), fun h => absurd h (by decide)⟩, inK_of hkk (clampS_bd _)⟩
  · have hkk := prodK_in (op := 11) hr hk
    obtain ⟨v, w, rfl⟩ := len2 (ts := vs) (by rw [← hlen]; simpa [arOk] using har)
    exact ⟨⟨hbd, fun h => absurd h (by decide), fun h => absurd h (by decide)⟩, inK_of hkk (divS_bd _ _)⟩
  iterate 2
    · have hkk := k12 hr hk
      match vs, hbd, hlen with
      | [], _, hlen => rw [hlen] at har; simp [arOk] at har
      | v :: vs, hbd, _ =>
        refine ⟨⟨hbd, fun h => absurd h (by decide), fun h => absurd h (by decide)⟩, inK_of hkk ?_⟩
        first
          | exact exL_bd 12 (.inl rfl) vs v (hbd v (by simp)) (fun w hw => hbd w (by simp [hw]))
          | exact exL_bd 13 (.inr rfl) vs v (hbd v (by simp)) (fun w hw => hbd w (by simp [hw]))
  · obtain ⟨a, b, c, rfl⟩ := len3 (ts := ts) (by simpa [arOk] using har)
    obtain ⟨x, y, z, rfl⟩ := len3 (ts := vs) (by rw [← hlen]; rfl)
    obtain ⟨h1, h2, h3, _⟩ := hin
    have hrr : (if a = 4 ∧ b = c then b else 0) = k := hr
    split at hrr
    · rename_i hab
      obtain ⟨rfl, rfl⟩ := hab
      subst hrr
      have hbit := inK_bit h1
      refine ⟨⟨hbd, fun h => absurd h (by decide), fun _ => hbit⟩, ?_⟩
      show inK b (if x = 0 then z else y)
      split
      · exact h3
      · exact h2
    · exact absurd hrr.symm hk
  · have hrr : (if allK ts 3 = true then (4 : Int) else 0) = k := hr
    split at hrr
    · subst hrr
      exact ⟨⟨hbd, fun h => absurd h (by decide), fun h => absurd h (by decide)⟩, flag _⟩
    · exact absurd hrr.symm hk
  iterate 2
    · have hrr : (if (a0 ts = 1 ∨ a0 ts = 2) ∧ a0 ts = a1 ts then (4 : Int) else 0) = k := hr
      split at hrr
      · subst hrr
        exact ⟨⟨hbd, fun h => absurd h (by decide), fun h => absurd h (by decide)⟩, flag _⟩
      · exact absurd hrr.symm hk
  · have hrr : (if a0 ts = a1 ts then (4 : Int) else 0) = k := hr
    split at hrr
    · subst hrr
      exact ⟨⟨hbd, fun h => absurd h (by decide), fun h => absurd h (by decide)⟩, flag _⟩
    · exact absurd hrr.symm hk
  · have hrr : (if allK ts 4 = true then (4 : Int) else 0) = k := hr
    split at hrr
    · rename_i hall
      subst hrr
      have hb := fun v hv => inK_bit (hin.all hall v hv)
      obtain ⟨v, rfl⟩ := len1 (ts := vs) (by rw [← hlen]; simpa [arOk] using har)
      have hv := hb v (by simp)
      refine ⟨⟨hbd, fun _ => hb, fun h => absurd h (by decide)⟩, .inr (.inr ⟨rfl, ?_⟩)⟩
      show bit (1 - v)
      unfold bit at *; omega
    · exact absurd hrr.symm hk
  iterate 3
    · have hrr : (if allK ts 4 = true then (4 : Int) else 0) = k := hr
      split at hrr
      · rename_i hall
        subst hrr
        have hb := fun v hv => inK_bit (hin.all hall v hv)
        obtain ⟨v, w, rfl⟩ := len2 (ts := vs) (by rw [← hlen]; simpa [arOk] using har)
        have hv := hb v (by simp)
        have hw := hb w (by simp)
        refine ⟨⟨hbd, fun _ => hb, fun h => absurd h (by decide)⟩, .inr (.inr ⟨rfl, ?_⟩)⟩
        first
          | (show bit (min v w); unfold bit at *; omega)
          | (show bit (max v w); unfold bit at *; omega)
          | (show bit (max (1 - v) w); unfold bit at *; omega)
      · exact absurd hrr.symm hk
/-- The type of a node of literals, as the program finds it. -/
theorem kX_node {op k : Int} {ts : List Int} {ys : List Ex} (hks : kXL ys = ts) (h7 : 7 ≤ op) (h22 : op ≤ 22) (har : arOk op ts.length = true) (hr : resK op ts = k) (hk : k ≠ 0) : (Ex.mk op 0 [] ys).kX = k := by
  rw [Ex.kX_eq]
  show (if op = 1 then (1 : Int) else if op = 2 then 2 else if op = 3 then 3 else if op = 7 ∨ op = 8 ∨ op = 9 ∨ op = 12 ∨ op = 13 then a0 (kXL ys) else if op = 14 then a1 (kXL ys)
    else if op = 10 then max (a0 (kXL ys)) (a1 (kXL ys)) else if op = 11 then (if a1 (kXL ys) = 2 then 1 else a0 (kXL ys)) else 4) = k
  rw [hks]
  have hsum : ∀ t us, ts = t :: us → (if allK ts 1 = true then (1 : Int) else if allK ts 2 = true then 2 else 0) = k → t = k := by
    rintro t us rfl h
    rw [sumK] at h
    split at h
    · exact h
    · exact absurd h.symm hk
  have hc : ∀ t us, ts = t :: us → a0 ts = t := by rintro t us rfl; rfl
  rcases op_cases (show 1 ≤ op by omega) h22 with rfl | rfl | rfl | rfl | rfl | rfl | rfl | rfl | rfl | rfl | rfl | rfl | rfl | rfl | rfl | rfl | rfl | rfl | rfl | rfl | rfl | rfl
  iterate 6 · omega
  · obtain ⟨a, rfl⟩ := len1 (ts := ts) (by simpa [arOk] using har)
    exact hsum a [] rfl hr
  · obtain ⟨a, b, rfl⟩ := len2 (ts := ts) (by simpa [arOk] using har)
    exact hsum a [b] rfl hr
  · obtain ⟨a, b, rfl⟩ := len2 (ts := ts) (by simpa [arOk] using har)
    exact hsum a [b] rfl hr
  · obtain ⟨a, b, rfl⟩ := len2 (ts := ts) (by simpa [arOk] using har)
    have hrr : prodK 10 a b = k := hr
    unfold prodK at hrr
    show max a b = k
    split at hrr
    · omega
    · split at hrr
      · omega
      · split at hrr
        · omega
        · split at hrr <;> omega
  · obtain ⟨a, b, rfl⟩ := len2 (ts := ts) (by simpa [arOk] using har)
    have hrr : prodK 11 a b = k := hr
    unfold prodK at hrr
    show (if b = 2 then (1 : Int) else a) = k
    split at hrr
    · rw [if_neg (by omega)]; omega
    · split at hrr
      · rw [if_neg (by omega)]; omega
      · split at hrr
        · omega
        · split at hrr
          · rw [if_pos (by omega)]; omega
          · omega
  iterate 2
    · match ts, har, hr, hsum with
      | [], har, _, _ => simp [arOk] at har
      | t :: us, _, hr, hsum => exact hsum t us rfl hr
  · obtain ⟨a, b, c, rfl⟩ := len3 (ts := ts) (by simpa [arOk] using har)
    have hrr : (if a = 4 ∧ b = c then b else 0) = k := hr
    split at hrr
    · exact hrr
    · exact absurd hrr.symm hk
  all_goals
    (have h4 : k = 4 ∨ k = 0 := by
      simp only [resK, Int.reduceEq, or_self, if_false, if_true, or_true, or_false] at hr
      split at hr <;> omega)
    (rcases h4 with rfl | rfl
     · rfl
     · exact absurd rfl hk)
end Go.Proofs.YtfenhjpkomldcaaGreat
namespace Go.Proofs.YtfenhjpkomldcaaGreat
open Go Go.Ev
theorem FK.op1 {scope k : Int} {y : Ex} (h : FK scope k y) (h1 : y.op = 1) : k = 1 := by
  obtain ⟨ts, _, hr, _⟩ := h.arg (by omega)
  rw [h1] at hr; exact hr.symm
theorem FK.not {scope k : Int} {y : Ex} (h : FK scope k y) (h19 : y.op = 19) : k = 4 ∧ FK scope 4 (y.args.headD (leafX 0 0)) := by
  obtain ⟨_, _, har, _⟩ := h.node
  obtain ⟨ts, hts, hr, hk⟩ := h.arg (by omega)
  have hlen : y.args.length = 1 := by rw [h19] at har; simpa [arOk] using har
  rw [h19] at hr
  have hrr : (if allK ts 4 = true then (4 : Int) else 0) = k := hr
  split at hrr
  · rename_i hall
    refine ⟨hrr.symm, ?_⟩
    generalize y.args = l at hts hlen
    match l, ts, hts, hlen, hall with
    | [z], [t], hts, _, hall =>
      rw [allK_cons, Bool.and_eq_true, decide_eq_true_eq] at hall
      rw [← hall.1]; exact hts.1
  · exact absurd hrr.symm hk
def red2 (op : Int) (a b : Ex) : Ex :=
    if op = 20 then (if a.op = 5 ∨ b.op = 5 then leafX 5 0 else if a.op = 4 then b else if b.op = 4 then a else .mk op 0 [] [a, b])
    else if op = 21 then (if a.op = 4 ∨ b.op = 4 then leafX 4 0 else if a.op = 5 then b else if b.op = 5 then a else .mk op 0 [] [a, b])
    else if op = 22 then (if a.op = 5 ∨ b.op = 4 then leafX 4 0 else if a.op = 4 then b else if b.op = 5 then (if a.op = 19 then a.args.headD (leafX 0 0) else .mk 19 0 [] [a]) else .mk op 0 [] [a, b])
    else if op = 8 then (if zeroX b then a else if zeroX a then b else .mk op 0 [] [a, b])
    else if op = 9 then (if zeroX b then a else .mk op 0 [] [a, b])
    else if op = 10 then (if oneX b then a else if oneX a then b else .mk op 0 [] [a, b])
    else if op = 11 then (if oneX b then a else .mk op 0 [] [a, b])
    else .mk op 0 [] [a, b]
theorem redX_two (op : Int) (a b : Ex) : redX op [a, b] = red2 op a b := rfl
theorem oneX_op {y : Ex} (h : oneX y = true) : y.op = 1 := by unfold oneX at h; simp at h; exact h.1
theorem red_ok {scope op k : Int} {ts : List Int} {ys : List Ex} (hys : FKs scope ts ys) (h7 : 7 ≤ op) (h22 : op ≤ 22) (har : arOk op ys.length = true) (hr : resK op ts = k) (hk : k ≠ 0) : FK scope k (redX op ys) := by
  have hnode : FK scope k (.mk op 0 [] ys) := FK.mk (by omega) h22 (by omega) har hys hr hk
  match ys, ts, hys, har, hr, hnode with
  | [], [], _, _, _, hnode => exact hnode
  | [a], [t], hys, har, hr, hnode =>
    show FK scope k (if op = 19 ∧ a.op = 19 then a.args.headD (leafX 0 0) else .mk op 0 [] [a])
    split
    · rename_i h
      obtain ⟨rfl, h2⟩ := h
      have := hys.1.not h2
      have hrr : (if allK [t] 4 = true then (4 : Int) else 0) = k := hr
      split at hrr
      · rw [← hrr]; exact this.2
      · exact absurd hrr.symm hk
    · exact hnode
  | [a, b], [t, u], hys, har, hr, hnode =>
    obtain ⟨ha, hb, _⟩ := hys
    have h44 : (op = 20 ∨ op = 21 ∨ op = 22) → t = 4 ∧ u = 4 ∧ k = 4 := by
      intro ho
      have hrr : (if allK [t, u] 4 = true then (4 : Int) else 0) = k := by rcases ho with rfl | rfl | rfl <;> exact hr
      split at hrr
      · rename_i hall
        rw [allK_cons, allK_cons, allK_nil, Bool.and_eq_true, Bool.and_eq_true, decide_eq_true_eq, decide_eq_true_eq] at hall
        exact ⟨hall.1, hall.2.1, hrr.symm⟩
      · exact absurd hrr.symm hk
    have htt : (op = 8 ∨ op = 9) → t = k ∧ u = k := by
      intro ho
      have hrr : (if allK [t, u] 1 = true then (1 : Int) else if allK [t, u] 2 = true then 2 else 0) = k := by rcases ho with rfl | rfl <;> exact hr
      rw [allK_cons, allK_cons, allK_nil, allK_cons, allK_cons, allK_nil] at hrr
      simp only [Bool.and_true, Bool.and_eq_true, decide_eq_true_eq] at hrr
      split at hrr
      · omega
      · split at hrr <;> omega
    have T4 : FK scope 4 (leafX 4 0) := FK.leaf (.inr (.inr (.inr (.inl ⟨rfl, rfl, rfl⟩))))
    have T5 : FK scope 4 (leafX 5 0) := FK.leaf (.inr (.inr (.inr (.inr ⟨rfl, rfl, rfl⟩))))
    rw [redX_two]
    unfold red2
    by_cases o20 : op = 20
    · obtain ⟨rfl, rfl, rfl⟩ := h44 (.inl o20)
      rw [if_pos o20]
      split
      · exact T5
      · split
        · exact hb
        · split
          · exact ha
          · exact hnode
    rw [if_neg o20]
    by_cases o21 : op = 21
    · obtain ⟨rfl, rfl, rfl⟩ := h44 (.inr (.inl o21))
      rw [if_pos o21]
      split
      · exact T4
      · split
        · exact hb
        · split
          · exact ha
          · exact hnode
    rw [if_neg o21]
    by_cases o22 : op = 22
    · obtain ⟨rfl, rfl, rfl⟩ := h44 (.inr (.inr o22))
      rw [if_pos o22]
      split
      · exact T4
      · split
        · exact hb
        · split
          · split
            · rename_i h19
              exact (ha.not h19).2
            · exact FK.mk (ts := [4]) (by decide) (by decide) (by decide) rfl ⟨ha, trivial⟩ rfl (by decide)
          · exact hnode
    rw [if_neg o22]
    by_cases o8 : op = 8
    · obtain ⟨rfl, rfl⟩ := htt (.inl o8)
      rw [if_pos o8]
      split
      · exact ha
      · split
        · exact hb
        · exact hnode
    rw [if_neg o8]
    by_cases o9 : op = 9
    · obtain ⟨rfl, rfl⟩ := htt (.inr o9)
      rw [if_pos o9]
      split
      · exact ha
      · exact hnode
    rw [if_neg o9]
    by_cases o10 : op = 10
    · subst o10
      have hrr : prodK 10 t u = k := hr
      unfold prodK at hrr
      rw [if_pos rfl]
      split
      · rename_i h1
        have := hb.op1 (oneX_op h1)
        have e : t = k := by
          split at hrr
          · omega
          · split at hrr
            · omega
            · split at hrr
              · omega
              · split at hrr <;> omega
        rw [← e]; exact ha
      · split
        · rename_i h1
          have := ha.op1 (oneX_op h1)
          have e : u = k := by
            split at hrr
            · omega
            · split at hrr
              · omega
              · split at hrr
                · omega
                · split at hrr <;> omega
          rw [← e]; exact hb
        · exact hnode
    rw [if_neg o10]
    by_cases o11 : op = 11
    · subst o11
      have hrr : prodK 11 t u = k := hr
      unfold prodK at hrr
      rw [if_pos rfl]
      split
      · rename_i h1
        have := hb.op1 (oneX_op h1)
        have e : t = k := by
          split at hrr
          · omega
          · split at hrr
            · omega
            · split at hrr
              · omega
              · split at hrr <;> omega
        rw [← e]; exact ha
      · exact hnode
    rw [if_neg o11]
    exact hnode
  | [a, b, c], [t, u, w], hys, har, hr, hnode =>
    obtain ⟨ha, hb, hc, _⟩ := hys
    show FK scope k (if op = 14 then (if a.op = 4 then b else if a.op = 5 then c else .mk op 0 [] [a, b, c]) else .mk op 0 [] [a, b, c])
    split
    · rename_i o14
      subst o14
      have hrr : (if t = 4 ∧ u = w then u else 0) = k := hr
      split at hrr
      · rename_i hh
        obtain ⟨_, rfl⟩ := hh
        subst hrr
        split
        · exact hb
        · split
          · exact hc
          · exact hnode
      · exact absurd hrr.symm hk
    · exact hnode
  | a :: b :: c :: d :: rest, _, _, _, _, hnode => exact hnode
end Go.Proofs.YtfenhjpkomldcaaGreat
namespace Go.Proofs.YtfenhjpkomldcaaGreat
open Go Go.Ev
theorem Ex.fold_eq (cl : List Nat → Int × Int) (cx : List Nat → Ex) (scope : Int) (x : Ex) : x.fold cl cx scope =
    if x.op = 6 then (if attrK scope x.name ≠ 0 then x else cx x.name)
    else if x.args.isEmpty then x
    else if (foldL cl cx scope x.args).all isLit then litX (x.ty cl scope).1 (apS x.op ((foldL cl cx scope x.args).map litV))
    else redX x.op (foldL cl cx scope x.args) := by obtain ⟨_, _, _, _⟩ := x; rw [Ex.fold]; rfl
theorem foldL_map (cl : List Nat → Int × Int) (cx : List Nat → Ex) (scope : Int) : ∀ xs, foldL cl cx scope xs = xs.map (Ex.fold cl cx scope)
  | [] => rfl
  | x :: xs => by rw [foldL, foldL_map cl cx scope xs]; rfl
/-- The parts of a typed node. -/
theorem ty_node {cl : List Nat → Int × Int} {scope k : Int} {x : Ex} (ht : x.ty cl scope = (k, 0)) (h6 : x.op ≠ 6) : ∃ ts, tyL cl scope x.args = .ok ts ∧ resK x.op ts = k ∧ k ≠ 0 := by
  rw [Ex.ty_eq, if_neg h6] at ht
  cases hr : tyL cl scope x.args with
  | error e =>
    rw [hr] at ht
    have hh : ((0 : Int), e) = (k, 0) := ht
    injection hh with _ h0
    exact absurd h0 (tyL_err hr)
  | ok ts =>
    rw [hr] at ht
    have hh : (if resK x.op ts = 0 then ((0 : Int), (9 : Int)) else (resK x.op ts, 0)) = (k, 0) := ht
    split at hh
    · cases hh
    · rename_i hne
      have e1 : resK x.op ts = k := by injection hh
      exact ⟨ts, rfl, e1, by rw [← e1]; exact hne⟩
theorem tyL_cons {cl : List Nat → Int × Int} {scope : Int} {x : Ex} {xs : List Ex} {ts : List Int} (h : tyL cl scope (x :: xs) = .ok ts) : ∃ t us, ts = t :: us ∧ x.ty cl scope = (t, 0) ∧ tyL cl scope xs = .ok us := by
  rw [tyL] at h
  split at h
  · cases h
  · rename_i h0
    cases hx : tyL cl scope xs with
    | error e => rw [hx] at h; cases h
    | ok us =>
      rw [hx] at h; cases h
      have e2 : (x.ty cl scope).2 = 0 := by simpa using h0
      exact ⟨_, us, rfl, by rw [← e2], rfl⟩
theorem wf_node {x : Ex} (h : x.wf = true) : 1 ≤ x.op ∧ x.op ≤ 22 ∧ arOk x.op x.args.length = true ∧ (0 ≤ x.num ∧ x.num ≤ mostN x.op) ∧ (if x.op = 6 then attrNm x.name = true else x.name = []) ∧ wfL x.args = true := by
  rw [Ex.wf_eq, Bool.and_eq_true] at h
  obtain ⟨hno, hwl⟩ := h
  simp only [nodeOk, Bool.and_eq_true, decide_eq_true_eq] at hno
  obtain ⟨h1, h2, h3, h4, h5⟩ := hno
  refine ⟨h1, h2, h3, h4, ?_, hwl⟩
  split at h5 <;> rename_i e
  · rw [if_pos e]; exact h5
  · rw [if_neg e]; simpa using h5
theorem ar_pos {op : Int} {n : Nat} (h1 : 1 ≤ op) (har : arOk op n = true) (hn : n ≠ 0) : 7 ≤ op := by
  by_cases h : op ≤ 6
  · simp [arOk, h] at har; omega
  · omega
theorem ar_zero {op : Int} {n : Nat} (h2 : op ≤ 22) (har : arOk op n = true) (hn : n = 0) : op ≤ 6 := by
  subst hn
  by_cases h : op ≤ 6
  · exact h
  · rcases op_cases (show 1 ≤ op by omega) h2 with rfl | rfl | rfl | rfl | rfl | rfl | rfl | rfl | rfl | rfl | rfl | rfl | rfl | rfl | rfl | rfl | rfl | rfl | rfl | rfl | rfl | rfl <;> simp [arOk] at har h
/-- Constants are literals of their types. -/
def cxOk (cl : List Nat → Int × Int) (cx : List Nat → Ex) : Prop := ∀ s t, cl s = (t, 0) → ∃ n, cx s = litX t n ∧ inK t n
/-- Values of literals of some types. -/
theorem lits {scope : Int} : ∀ {ts : List Int} {ys : List Ex}, FKs scope ts ys → ys.all isLit = true → inKs ts (ys.map litV) ∧ kXL ys = ts
  | [], [], _, _ => ⟨trivial, rfl⟩
  | t :: ts, y :: ys, h, ha => by
    rw [List.all_cons, Bool.and_eq_true] at ha
    have h1 := h.1.lit ha.1
    have h2 := lits h.2 ha.2
    exact ⟨⟨h1.1, h2.1⟩, by rw [kXL, h1.2.1, h2.2]⟩
theorem fold_ok {cl : List Nat → Int × Int} {cx : List Nat → Ex} (hc : cxOk cl cx) (scope : Int) (x : Ex) : ∀ k, x.wf = true → x.ty cl scope = (k, 0) → FK scope k (x.fold cl cx scope) := by
  induction x using Ex.ind with
  | h x ih =>
    intro k hwf ht
    obtain ⟨h1, h2, har, hnum, hname, hwl⟩ := wf_node hwf
    rw [Ex.fold_eq]
    by_cases h6 : x.op = 6
    · rw [if_pos h6]
      rw [Ex.ty_eq, if_pos h6] at ht
      by_cases hz : attrK scope x.name ≠ 0
      · rw [if_pos hz]
        rw [if_pos hz] at ht
        refine ⟨hwf, ?_⟩
        rw [Ex.ty_eq, if_pos h6, if_pos hz]; exact ht
      · rw [if_neg hz]
        rw [if_neg hz] at ht
        obtain ⟨n, e, hn⟩ := hc _ _ ht
        rw [e]; exact (litX_ok hn).1
    rw [if_neg h6]
    obtain ⟨ts, hts, hr, hk⟩ := ty_node ht h6
    by_cases he : x.args.isEmpty = true
    · rw [if_pos he]
      have hnil : x.args = [] := by simpa using he
      refine ⟨hwf, ?_⟩
      rw [hnil, tyL] at hts
      cases hts
      rw [Ex.ty_eq, if_neg h6, hnil, tyL]
      show (if resK x.op [] = 0 then ((0 : Int), (9 : Int)) else (resK x.op [], 0)) = (k, 0)
      rw [hr, if_neg hk]
    · rw [if_neg he]
      have hne : x.args.length ≠ 0 := by
        intro h; exact he (by simp [List.length_eq_zero_iff.1 h])
      have h7 := ar_pos h1 har hne
      have hys : FKs scope ts (foldL cl cx scope x.args) := by
        clear ht har hne he hr hwf hnum hname
        generalize x.args = xs at ih hts hwl
        induction xs generalizing ts with
        | nil => rw [tyL] at hts; cases hts; trivial
        | cons z zs ihz =>
          obtain ⟨t, us, rfl, e1, e2⟩ := tyL_cons hts
          rw [wfL, Bool.and_eq_true] at hwl
          rw [foldL]
          exact ⟨ih z (by simp) t hwl.1 e1, ihz us (fun y hy => ih y (by simp [hy])) e2 hwl.2⟩
      have hlen : ts.length = x.args.length := tyL_len hts
      by_cases hall : (foldL cl cx scope x.args).all isLit = true
      · rw [if_pos hall, ht]
        exact (litX_ok (ap_ok (lits hys hall).1 h7 h2 (by rw [hlen]; exact har) hr hk).2).1
      · rw [if_neg hall]
        exact red_ok hys h7 h2 (by rw [← hys.len, hlen]; exact har) hr hk
end Go.Proofs.YtfenhjpkomldcaaGreat
namespace Go.Proofs.YtfenhjpkomldcaaGreat
open Go Go.Ev
/-- Negations have their argument. -/
def negOk (ys : List Ex) : Prop := ∀ y ∈ ys, y.op = 7 → 0 < y.args.length
theorem all_drop {ys : List Ex} {k : Nat} (hk : k < ys.length) : (ys.drop k).all isLit = (isLit ys[k] && (ys.drop (k + 1)).all isLit) := by rw [drop_args hk, List.all_cons]
theorem cont1 (ys : List Ex) (hn : negOk ys) (a : T) (cc : List T) (ha : IsSl a ys.length cc) (hx : IsExs ys cc) (hlen : ys.length ≤ Lim) (o : Out) (ho : o = if ys.all isLit then .ext 0 else .ret) (fr : Fr) (lh : Tri Ent) (sh : List Ent)
    (h0 : getF fr 0 = a) (h1 : getF fr 1 = .fn 147 [] []) (h7 : getF fr 7 = .i .i64 (ys.length : Int)) (h8 : getF fr 8 = .i .i64 0) :
    DC pE 19 (.loop c216_L1) ⟨fr, lh, sh⟩ = some (o, ⟨frL pE 19 c216_L1 fr lh sh, lhL pE 19 c216_L1 fr lh sh, shL pE 19 c216_L1 fr lh sh⟩) ∧
    ((ys.all isLit = false → ∃ k : Nat, getF (frL pE 19 c216_L1 fr lh sh) 4 = .i .i64 (k : Int)) ∧ lhL pE 19 c216_L1 fr lh sh = lh ∧ shL pE 19 c216_L1 fr lh sh = sh) := by
  refine loop_rule (P := fun fr lh' sh' => (ys.all isLit = false → ∃ k : Nat, getF fr 4 = .i .i64 (k : Int)) ∧ lh' = lh ∧ sh' = sh) (loop_inv (fun k st => ∃ (fr : Fr), st = ⟨fr, lh, sh⟩ ∧ getF fr 0 = a ∧ getF fr 1 = .fn 147 [] [] ∧ getF fr 7 = .i .i64 (ys.length : Int) ∧ getF fr 8 = .i .i64 (k : Int) ∧ ys.all isLit = (ys.drop k).all isLit) _ ys.length ?_ ?_ 0 _ (Nat.zero_le _) ⟨fr, rfl, h0, h1, h7, h8, rfl⟩)
  · rintro k _ hk ⟨fr, rfl, h0, h1, h7, h8, hall⟩
    have hk' : (k : Int) < ys.length := by omega
    have hw := wr_succL (k := k) (by omega)
    obtain ⟨b, cb, r, hia, hb1, hb2, hb⟩ := arg_at ha hx k hk
    have hcall := notLit_ev ys[k] _ hb (hn _ (List.getElem_mem hk))
    rw [all_drop hk] at hall
    cases hf : isLit ys[k] with
    | true =>
      left
      rw [hf] at hcall hall
      rw [Bool.not_true] at hcall
      simp (maxDischargeDepth := 6) only [qF, qGO0, qGO1, qGO2, qGO3, qGO4, doCallV, reduceCtorEq, Nat.reduceLT, Nat.reduceLeDiff, Nat.reduceEqDiff, c216_L1, h0, h1, h7, h8, hk', hia, hw, hcall, dc147, hb1.froz1]
      refine ⟨_, rfl, _, rfl, ?_, ?_, ?_, ?_, hall⟩ <;> simp (maxDischargeDepth := 6) only [qGO2, qGO4, reduceCtorEq, Nat.reduceEqDiff, h0, h1, h7]
    | false =>
      right
      rw [hf] at hcall hall
      rw [Bool.not_false] at hcall
      simp (maxDischargeDepth := 6) only [qF, qGO0, qGO1, qGO2, qGO3, qGO4, doCallV, reduceCtorEq, Nat.reduceLT, Nat.reduceLeDiff, Nat.reduceEqDiff, c216_L1, h0, h1, h7, h8, hk', hia, hcall, dc147, hb1.froz1]
      refine ⟨_, _, (by simp : Out.ret ≠ .nrm), rfl, by rw [ho, hall]; rfl, fun _ => ⟨k, by simp (maxDischargeDepth := 6) only [qGO2]⟩, rfl, rfl⟩
  · rintro _ ⟨fr, rfl, h0, h1, h7, h8, hall⟩
    rw [List.drop_length] at hall
    have hall : ys.all isLit = true := hall
    simp (maxDischargeDepth := 6) only [qGO0, qGO1, qGO2, qGO4, qGO5, Nat.reduceLT, c216_L1, h7, h8, Int.lt_irrefl]
    exact ⟨_, _, (by simp : Out.ext 0 ≠ .nrm), rfl, by rw [ho, hall]; rfl, fun hc => (by rw [hall] at hc; cases hc), rfl, rfl⟩
theorem cont_ev (ys : List Ex) (hn : negOk ys) (a : T) (cc : List T) (ha : IsSl a ys.length cc) (hx : IsExs ys cc) (hlen : ys.length ≤ Lim) : DCall pE 146 [a, .fn 147 [] []] [] = some (.b (!ys.all isLit), []) := by
  have hL := fun fr lh sh h0 h1 h7 h8 => cont1 ys hn a cc ha hx hlen _ rfl fr lh sh h0 h1 h7 h8
  have hfz : froz (.fn 147 [] []) = true := rfl
  have hI : ∃ j : Int, DCall pE 216 [a, .fn 147 [] []] [] = some (.i .i64 j, []) ∧ (0 ≤ j ↔ ys.all isLit = false) := by
    rw [p_fun fn216 (by simp [c216])]
    cases h : ys.all isLit with
    | true =>
      have hL' := fun fr lh sh h0 h1 h7 h8 => And.intro (hL fr lh sh h0 h1 h7 h8).1 (hL fr lh sh h0 h1 h7 h8).2.2
      simp only [h, if_true] at hL'
      simp (maxDischargeDepth := 6) only [qF, qGO0, qGO1, qGO2, qGO3, qGO4, Int.reduceNeg, reduceCtorEq, Nat.reduceLT, Nat.reduceEqDiff, c216, ha.lenI, hL']
      exact ⟨-1, rfl, by simp⟩
    | false =>
      have hL' := fun fr lh sh h0 h1 h7 h8 => And.intro (hL fr lh sh h0 h1 h7 h8).1 (hL fr lh sh h0 h1 h7 h8).2.2
      simp only [h, Bool.false_eq_true, if_false] at hL'
      simp (maxDischargeDepth := 6) only [qF, qGO0, qGO1, qGO2, qGO4, Int.reduceNeg, reduceCtorEq, Nat.reduceLT, Nat.reduceEqDiff, c216, ha.lenI, hL']
      generalize hX : getF _ _ = X
      obtain ⟨k, e⟩ : ∃ k : Nat, X = .i .i64 (k : Int) := by
        rw [← hX]
        refine (hL _ _ _ ?_ ?_ ?_ ?_).2.1 h <;> simp (maxDischargeDepth := 6) only [qGO2, qGO4, reduceCtorEq, Nat.reduceEqDiff]
      rw [e]
      exact ⟨k, rfl, by simp⟩
  obtain ⟨j, hj, hiff⟩ := hI
  rw [p_fun fn146 (by simp [c146])]
  have e : decide (0 ≤ j) = !ys.all isLit := by
    cases h : ys.all isLit with
    | true => rw [h] at hiff; simp at hiff; simp; omega
    | false => rw [h] at hiff; simp at hiff; simp [hiff]
  simp (maxDischargeDepth := 6) only [qF, qGO0, qGO1, qGO2, qGO3, qGO4, reduceCtorEq, Nat.reduceLT, Nat.reduceEqDiff, c146, hj, dc216, ha.froz, hfz, e]
end Go.Proofs.YtfenhjpkomldcaaGreat
namespace Go.Proofs.YtfenhjpkomldcaaGreat
open Go Go.Ev
theorem argJ {xs : List Ex} {a : T} {cc : List T} (h1 : IsSl a xs.length cc) (h2 : IsExs xs cc) (k : Nat) (hk : k < xs.length) (j : Int) (hj : j = (k : Int)) :
    ∃ b r, (∀ kk, iaV a (.i kk j) 4 = some (.vp (.i .i64 xs[k].op :: .i .i64 xs[k].num :: .s xs[k].name :: b :: r))) ∧ (∃ cb, IsSl b xs[k].args.length cb ∧ IsExs xs[k].args cb) ∧ froz1 b = true ∧ IsEx xs[k] [.i .i64 xs[k].op, .i .i64 xs[k].num, .s xs[k].name, b] := by
  obtain ⟨b, cb, r, hia, h3, h4, h5⟩ := arg_at h1 h2 k hk
  subst hj
  exact ⟨b, r, hia, ⟨cb, h3, h4⟩, h3.froz1, h5⟩
theorem node_is (op : Int) (ys : List Ex) (a : T) (cc : List T) (ha : IsSl a ys.length cc) (hx : IsExs ys cc) : IsEx (.mk op 0 [] ys) [.i .i64 op, .i .i64 0, .s [], a] := IsEx.of (x := .mk op 0 [] ys) ha hx
theorem junction_ev (op : Int) (ho : op = 20 ∨ op = 21) (x y : Ex) (a : T) (cc : List T) (ha : IsSl a 2 cc) (hx : IsExs [x, y] cc) : ∃ cs, DCall pE 150 [.agg [.i .i64 op, .i .i64 0, .s [], a]] [] = some (.agg cs, []) ∧ IsEx (red2 op x y) cs := by
  obtain ⟨b0, r0, hia0, _, hf0, he0⟩ := argJ (xs := [x, y]) ha hx 0 (by simp) 0 rfl
  obtain ⟨b1, r1, hia1, _, hf1, he1⟩ := argJ (xs := [x, y]) ha hx 1 (by simp) 1 rfl
  simp only [List.getElem_cons_zero, List.getElem_cons_succ] at hia0 hia1 he0 he1
  have hn := node_is op [x, y] a cc ha hx
  rw [p_fun fn150 (by simp [c150])]
  unfold red2
  rcases ho with rfl | rfl
  · by_cases a5 : x.op = 5
    · simp (maxDischargeDepth := 6) only [qF, qGO0, qGO1, qGO2, qGO3, qGO4, qGO5, buildV, splice, fills, Nat.reduceAdd, Nat.reduceLT, Nat.reduceLeDiff, Nat.reduceEqDiff, Int.reduceEq, qDR0, qDR1, getL, c150, hia0, hia1, hf0, hf1, a5, true_or]
      exact ⟨_, rfl, leaf_is _ _ _ nil_is⟩
    by_cases b5 : y.op = 5
    · simp (maxDischargeDepth := 6) only [qF, qGO0, qGO1, qGO2, qGO3, qGO4, qGO5, buildV, splice, fills, Nat.reduceAdd, Nat.reduceLT, Nat.reduceLeDiff, Nat.reduceEqDiff, Int.reduceEq, qDR0, qDR1, getL, c150, hia0, hia1, hf0, hf1, a5, b5, or_true]
      exact ⟨_, rfl, leaf_is _ _ _ nil_is⟩
    by_cases a4 : x.op = 4
    · simp (maxDischargeDepth := 6) only [qF, qGO0, qGO1, qGO2, qGO3, qGO4, qGO5, buildV, splice, fills, Nat.reduceAdd, Nat.reduceLT, Nat.reduceLeDiff, Nat.reduceEqDiff, Int.reduceEq, qDR0, qDR1, getL, c150, hia0, hia1, hf0, hf1, b5, a4, or_self]
      exact ⟨_, rfl, he1⟩
    by_cases b4 : y.op = 4
    · rw [b4] at he1
      simp (maxDischargeDepth := 6) only [qF, qGO0, qGO1, qGO2, qGO3, qGO4, qGO5, buildV, splice, fills, Nat.reduceAdd, Nat.reduceLT, Nat.reduceLeDiff, Nat.reduceEqDiff, Int.reduceEq, qDR0, qDR1, getL, c150, hia0, hia1, hf0, hf1, a5, a4, b4, or_self]
      exact ⟨_, rfl, he0⟩
    · simp (maxDischargeDepth := 6) only [qF, qGO0, qGO1, qGO2, qGO3, qGO4, qGO5, buildV, splice, fills, Nat.reduceAdd, Nat.reduceLT, Nat.reduceLeDiff, Nat.reduceEqDiff, Int.reduceEq, qDR0, qDR1, getL, c150, hia0, hia1, hf0, hf1, ha.froz1, a5, b5, a4, b4, or_self]
      exact ⟨_, rfl, hn⟩
  · by_cases a4 : x.op = 4
    · simp (maxDischargeDepth := 6) only [qF, qGO0, qGO1, qGO2, qGO3, qGO4, qGO5, buildV, splice, fills, Nat.reduceAdd, Nat.reduceLT, Nat.reduceLeDiff, Nat.reduceEqDiff, Int.reduceEq, qDR0, qDR1, getL, c150, hia0, hia1, hf0, hf1, a4, true_or]
      exact ⟨_, rfl, leaf_is _ _ _ nil_is⟩
    by_cases b4 : y.op = 4
    · simp (maxDischargeDepth := 6) only [qF, qGO0, qGO1, qGO2, qGO3, qGO4, qGO5, buildV, splice, fills, Nat.reduceAdd, Nat.reduceLT, Nat.reduceLeDiff, Nat.reduceEqDiff, Int.reduceEq, qDR0, qDR1, getL, c150, hia0, hia1, hf0, hf1, a4, b4, or_true]
      exact ⟨_, rfl, leaf_is _ _ _ nil_is⟩
    by_cases a5 : x.op = 5
    · simp (maxDischargeDepth := 6) only [qF, qGO0, qGO1, qGO2, qGO3, qGO4, qGO5, buildV, splice, fills, Nat.reduceAdd, Nat.reduceLT, Nat.reduceLeDiff, Nat.reduceEqDiff, Int.reduceEq, qDR0, qDR1, getL, c150, hia0, hia1, hf0, hf1, a5, b4, or_self]
      exact ⟨_, rfl, he1⟩
    by_cases b5 : y.op = 5
    · rw [b5] at he1
      simp (maxDischargeDepth := 6) only [qF, qGO0, qGO1, qGO2, qGO3, qGO4, qGO5, buildV, splice, fills, Nat.reduceAdd, Nat.reduceLT, Nat.reduceLeDiff, Nat.reduceEqDiff, Int.reduceEq, qDR0, qDR1, getL, c150, hia0, hia1, hf0, hf1, a5, b5, a4, or_self]
      exact ⟨_, rfl, he0⟩
    · simp (maxDischargeDepth := 6) only [qF, qGO0, qGO1, qGO2, qGO3, qGO4, qGO5, buildV, splice, fills, Nat.reduceAdd, Nat.reduceLT, Nat.reduceLeDiff, Nat.reduceEqDiff, Int.reduceEq, qDR0, qDR1, getL, c150, hia0, hia1, hf0, hf1, ha.froz1, a5, b5, a4, b4, or_self]
      exact ⟨_, rfl, hn⟩
/-- A neutral argument. -/
theorem neutral_ev (op : Int) (f : Nat) (is : Ex → Bool) (both : Bool) (hf : ∀ (z : Ex) (b : T), froz1 b = true → ∀ d fr lh sh, doCall pE (DCall pE) d ⟨fr, lh, sh⟩ f [.agg [.i .i64 z.op, .i .i64 z.num, .s z.name, b]] = some (.b (is z), ⟨fr, lh, sh⟩)) (x y : Ex) (a : T) (cc : List T) (ha : IsSl a 2 cc) (hx : IsExs [x, y] cc) :
    ∃ cs, DCall pE 152 [.agg [.i .i64 op, .i .i64 0, .s [], a], .fn f [] [], .b both] [] = some (.agg cs, []) ∧ IsEx (if is y then x else if both && is x then y else .mk op 0 [] [x, y]) cs := by
  obtain ⟨b0, r0, hia0, _, hf0, he0⟩ := argJ (xs := [x, y]) ha hx 0 (by simp) 0 rfl
  obtain ⟨b1, r1, hia1, _, hf1, he1⟩ := argJ (xs := [x, y]) ha hx 1 (by simp) 1 rfl
  simp only [List.getElem_cons_zero, List.getElem_cons_succ] at hia0 hia1 he0 he1
  have hn := node_is op [x, y] a cc ha hx
  have h1 := fun d fr lh sh => hf y b1 hf1 d fr lh sh
  have h0 := fun d fr lh sh => hf x b0 hf0 d fr lh sh
  rw [p_fun fn152 (by simp [c152])]
  cases hy : is y with
  | true =>
    rw [hy] at h1
    simp (maxDischargeDepth := 6) only [qF, qGO0, qGO1, qGO2, qGO3, qGO4, qGO5, doCallV, splice, Nat.reduceAdd, reduceCtorEq, Nat.reduceLT, Nat.reduceLeDiff, Nat.reduceEqDiff, c152, hia0, hia1, hf0, h1]
    exact ⟨_, rfl, he0⟩
  | false =>
    rw [hy] at h1
    cases both with
    | false =>
      simp (maxDischargeDepth := 6) only [qF, qGO0, qGO1, qGO2, qGO3, qGO4, qGO5, doCallV, splice, Nat.reduceAdd, reduceCtorEq, Nat.reduceLT, Nat.reduceLeDiff, Nat.reduceEqDiff, c152, hia0, hia1, ha.froz1, h1]
      exact ⟨_, rfl, hn⟩
    | true =>
      cases hxx : is x with
      | true =>
        rw [hxx] at h0
        simp (maxDischargeDepth := 6) only [qF, qGO0, qGO1, qGO2, qGO3, qGO4, qGO5, doCallV, splice, Nat.reduceAdd, reduceCtorEq, Nat.reduceLT, Nat.reduceLeDiff, Nat.reduceEqDiff, c152, hia0, hia1, hf1, h1, h0]
        exact ⟨_, rfl, he1⟩
      | false =>
        rw [hxx] at h0
        simp (maxDischargeDepth := 6) only [qF, qGO0, qGO1, qGO2, qGO3, qGO4, qGO5, doCallV, splice, Nat.reduceAdd, reduceCtorEq, Nat.reduceLT, Nat.reduceLeDiff, Nat.reduceEqDiff, c152, hia0, hia1, ha.froz1, h1, h0]
        exact ⟨_, rfl, hn⟩
end Go.Proofs.YtfenhjpkomldcaaGreat
