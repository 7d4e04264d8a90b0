/- spoil changes one stint of a list. Conditions: the theorems' own. -/
import Derived.Test.YtfenhjpkomldcaaGreatTV
set_option maxRecDepth 100000
set_option maxHeartbeats 4000000
set_option linter.unusedSimpArgs false
set_option linter.unusedVariables false
namespace Go.Proofs.YtfenhjpkomldcaaGreat
open Go Go.Ev
theorem splice_app {α : Type} : ∀ (A R : List α) (j : Nat) (vs : List α), splice (A ++ R) (A.length + j) vs = A ++ splice R j vs
  | [], R, j, vs => by simp
  | a :: A, R, j, vs => by
    have := splice_app A R j vs
    rw [List.length_cons, show A.length + 1 + j = (A.length + j) + 1 by omega]
    show a :: splice (A ++ R) (A.length + j) vs = _
    rw [this]; rfl
structure RowAt (row : T → T → T → List T) (i n : Nat) : Prop where
  len : ∀ x y v, (row x y v).length = n * 3
  g0 : ∀ x y v, (row x y v)[i * 3]? = some x
  g1 : ∀ x y v, (row x y v)[i * 3 + 1]? = some y
  g2 : ∀ x y v, (row x y v)[i * 3 + 2]? = some v
  p0 : ∀ x y v u, splice (row x y v) (i * 3) [u] = row u y v
  p1 : ∀ x y v u, splice (row x y v) (i * 3 + 1) [u] = row x u v
  p2 : ∀ x y v u, splice (row x y v) (i * 3 + 2) [u] = row x y u
  fz : ∀ x y v v' us lh sh, froz1 x = true → froz1 y = true → fzW 6 lh sh false v = some (v', us) → fzWL 6 lh sh false (row x y v) = some (row x y v', us)
theorem fzWL_app {m : Nat} {lh : Tri Ent} {sh : List Ent} {keep : Bool} : ∀ (A R : List T), fzWL m lh sh keep (A ++ R) = (fzWL m lh sh keep A).bind fun p => (fzWL m lh sh keep R).bind fun q => some (p.1 ++ q.1, p.2 ++ q.2)
  | [], R => by
    rw [fzWL_nil, List.nil_append, Option.bind_some]
    cases fzWL m lh sh keep R <;> rfl
  | a :: A, R => by
    rw [List.cons_append, fzWL_cons, fzWL_cons, fzWL_app A R]
    cases fzW m lh sh keep a with
    | none => rfl
    | some p =>
      cases fzWL m lh sh keep A with
      | none => rfl
      | some q =>
        cases fzWL m lh sh keep R with
        | none => rfl
        | some r => simp only [Option.bind_some, List.append_assoc, List.cons_append]
theorem rowAt (ss : List Sti) (i : Nat) (h : i < ss.length) (hf : ∀ s ∈ ss, froz1 s.v = true) : ∃ row, RowAt row i ss.length ∧ (ss.flatMap stC = row (.i .i64 ss[i].a) (.i .i64 ss[i].b) ss[i].v) ∧ ∀ s : Sti, (ss.set i s).flatMap stC = row (.i .i64 s.a) (.i .i64 s.b) s.v := by
  have hA : ((ss.take i).flatMap stC).length = i * 3 := by rw [stC_len, List.length_take]; omega
  have hB : ((ss.drop (i + 1)).flatMap stC).length = (ss.length - (i + 1)) * 3 := by rw [stC_len, List.length_drop]
  have fA : ((ss.take i).flatMap stC).all froz1 = true := by
    rw [List.all_eq_true]; intro x hx
    obtain ⟨s, hs, hx⟩ := List.mem_flatMap.1 hx
    simp only [stC, List.mem_cons, List.not_mem_nil, or_false] at hx
    rcases hx with rfl | rfl | rfl
    · rfl
    · rfl
    · exact hf s (List.mem_of_mem_take hs)
  have fB : ((ss.drop (i + 1)).flatMap stC).all froz1 = true := by
    rw [List.all_eq_true]; intro x hx
    obtain ⟨s, hs, hx⟩ := List.mem_flatMap.1 hx
    simp only [stC, List.mem_cons, List.not_mem_nil, or_false] at hx
    rcases hx with rfl | rfl | rfl
    · rfl
    · rfl
    · exact hf s (List.mem_of_mem_drop hs)
  have e1 : ss.flatMap stC = (ss.take i).flatMap stC ++ ([.i .i64 ss[i].a, .i .i64 ss[i].b, ss[i].v] ++ (ss.drop (i + 1)).flatMap stC) := by
    conv => lhs; rw [← List.take_append_drop i ss, List.flatMap_append, List.drop_eq_getElem_cons h, List.flatMap_cons]
    rfl
  have e2 : ∀ s : Sti, (ss.set i s).flatMap stC = (ss.take i).flatMap stC ++ ([.i .i64 s.a, .i .i64 s.b, s.v] ++ (ss.drop (i + 1)).flatMap stC) := by
    intro s
    rw [List.set_eq_take_append_cons_drop, if_pos h, List.flatMap_append, List.flatMap_cons]
    rfl
  generalize (ss.take i).flatMap stC = A at *
  generalize (ss.drop (i + 1)).flatMap stC = B at *
  refine ⟨fun x y v => A ++ ([x, y, v] ++ B), ⟨fun x y v => ?_, fun x y v => ?_, fun x y v => ?_, fun x y v => ?_, fun x y v u => ?_, fun x y v u => ?_, fun x y v u => ?_, ?_⟩, e1, e2⟩
  · simp [hA, hB]; omega
  · rw [List.getElem?_append_right (by omega), hA, Nat.sub_self]; rfl
  · rw [List.getElem?_append_right (by omega), hA, show i * 3 + 1 - i * 3 = 1 by omega]; rfl
  · rw [List.getElem?_append_right (by omega), hA, show i * 3 + 2 - i * 3 = 2 by omega]; rfl
  · have := splice_app A ([x, y, v] ++ B) 0 [u]
    rw [hA] at this
    rw [Nat.add_zero] at this
    rw [this]
    show A ++ (u :: splice (y :: v :: B) 0 []) = _
    rw [splice_nil]; rfl
  · have := splice_app A ([x, y, v] ++ B) 1 [u]
    rw [hA] at this
    rw [this]
    show A ++ (x :: u :: splice (v :: B) 0 []) = _
    rw [splice_nil]; rfl
  · have := splice_app A ([x, y, v] ++ B) 2 [u]
    rw [hA] at this
    rw [this]
    show A ++ (x :: y :: u :: splice B 0 []) = _
    rw [splice_nil]; rfl
  · intro x y v v' us lh sh hx hy hv
    rw [fzWL_app, fzWL_froz1 fA, Option.bind_some, List.cons_append, fzWL_cons, fzW_froz1 hx, Option.bind_some, List.cons_append, fzWL_cons, fzW_froz1 hy, Option.bind_some, List.cons_append, List.nil_append, fzWL_cons, hv, Option.bind_some, fzWL_froz1 fB]
    simp
theorem islV_T {k g g' off len sz wm : Nat} {lh : Tri Ent} {sh : List Ent} {cs : List T} : islV 7 lh sh k ⟨g', .cells cs wm true⟩ g off len sz = if g' = g ∧ off + len * sz ≤ cs.length then (fzWL 6 lh sh false ((cs.drop off).take (len * sz))).map fun q => (.sl q.1 len false, q.2 ++ [(.L, k, ⟨g, .cells cs cs.length true⟩)]) else none := rfl
theorem spoil_ans {row : T → T → T → List T} {i n : Nat} (hr : RowAt row i n) {lh : Tri Ent} {x y : Int} {g m wm : Nat} {cs : List T} (h9 : getO lh 9 = ⟨1, .cells (row (.i .i64 x) (.i .i64 y) (.isl .L 27 g 0 m 1)) 0 true⟩) (h27 : getO lh 27 = ⟨g, .cells cs wm false⟩) (hm : cs.length = m) :
    ansV lh [] false [.isl .L 9 1 0 n 3] = some (.sl (row (.i .i64 x) (.i .i64 y) (.sl cs m false)) n false, []) := by
  have hv : fzW 6 lh [] false (.isl .L 27 g 0 m 1) = some (.sl cs m false, [(.L, 27, ⟨g, .cells cs cs.length false⟩)]) := by
    rw [fzW_isl, h27, islV_cells, if_pos ⟨rfl, by omega⟩, List.drop_zero, Nat.mul_one, ← hm, List.take_length]
  have hL := hr.len (.i .i64 x) (.i .i64 y) (.isl .L 27 g 0 m 1)
  have ht : (row (.i .i64 x) (.i .i64 y) (.isl .L 27 g 0 m 1)).take (n * 3) = row (.i .i64 x) (.i .i64 y) (.isl .L 27 g 0 m 1) := by rw [← hL]; exact List.take_length
  rw [ansV_gen, fzV_isl, h9, islV_T, if_pos ⟨rfl, by omega⟩, List.drop_zero, ht, hr.fz _ _ _ _ _ _ _ rfl rfl hv]
  rfl
def spX (k : Int) : Int := [1099511627776, 1099511627777, -1099511627776, -1099511627777].getD (k / 8 % 4).toNat 0
def spS (w k : Int) (s : Sti) : Sti :=
  if w = 0 then ⟨k % 3 - 2, s.b, .sl (ints s.xs) s.xs.length false, s.xs⟩
  else if w = 1 then ⟨s.a, s.a, .sl (ints s.xs) s.xs.length false, s.xs⟩
  else if w = 2 then ⟨s.a, 52596000 + k % 2, .sl (ints s.xs) s.xs.length false, s.xs⟩
  else if w = 3 then ⟨s.a, s.b, .sl (ints (s.xs ++ [0])) (s.xs ++ [0]).length false, s.xs ++ [0]⟩
  else if w = 4 then ⟨s.a, s.b, .sl (ints (s.xs.set 0 (spX k))) (s.xs.set 0 (spX k)).length false, s.xs.set 0 (spX k)⟩
  else if w = 5 then ⟨s.a - 5000, s.b, .sl (ints s.xs) s.xs.length false, s.xs⟩
  else ⟨s.a, s.b, .sl (ints s.xs) s.xs.length false, s.xs⟩
end Go.Proofs.YtfenhjpkomldcaaGreat
