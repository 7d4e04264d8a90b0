/- Small things about answers and valid stints. Conditions: the theorems' own. -/
import Derived.Test.YtfenhjpkomldcaaGreatTV
import Derived.Test.YtfenhjpkomldcaaGreatTI
set_option linter.unusedSimpArgs false
set_option linter.unusedVariables false
namespace Go.Proofs.YtfenhjpkomldcaaGreat
open Go Go.Ev
theorem OutS.ans2 {lh : Tri Ent} {v : T} {k sz n : Nat} {cs : List T} (sh : List Ent) (h : OutS lh v k sz n cs) : ansV lh sh false [v, .i .i64 0] = some (.tup [outT n cs, .i .i64 0], sh) := by
  rw [ansV_gen2]
  rcases h with ⟨h0, h1, h2⟩ | ⟨g, wm, h1, h2, h3, h4⟩
  · subst h0 h1 h2; rfl
  · subst h1
    rw [fzV_tupK, fzWL_cons, fzW_isl, h2, islV_cells, if_pos ⟨rfl, by omega⟩]
    have e : (cs.drop 0).take (n * sz) = cs := by rw [List.drop_zero, ← h3]; exact List.take_length
    rw [e]
    unfold outT
    rw [if_neg (by omega)]
    rfl
theorem val_all (nl : Nat) : ∀ (ss : List Sti) (p : Option Int), valFrom nl p ss = 0 → ∀ s ∈ ss, 0 ≤ s.a ∧ s.a < s.b ∧ s.b ≤ 52596000 ∧ s.xs.length = nl ∧ s.xs.all okN = true
  | [], p, _, s, hs => by simp at hs
  | t :: ss, p, h, s, hs => by
    unfold valFrom at h
    by_cases h0 : valStep nl p t = 0
    · rw [if_pos h0] at h
      rcases List.mem_cons.1 hs with rfl | hs
      · unfold valStep at h0
        split at h0
        · cases h0
        · rename_i c1
          split at h0
          · cases h0
          · rename_i c2
            split at h0
            · cases h0
            · rename_i c3
              simp at c2 c3
              exact ⟨by omega, by omega, by omega, c2, by simpa using c3⟩
      · exact val_all nl ss _ h s hs
    · rw [if_neg h0] at h; exact absurd h h0
theorem val_fit {ss : List Sti} (h : valSpec 2 ss = 0) (hs : ∀ s ∈ ss, s.ok) : Fit ss 2 := by
  unfold valSpec at h
  split at h
  · cases h
  · rename_i hl
    have ha := val_all 2 ss none h
    refine ⟨by omega, hs, fun s hs => (ha s hs).2.2.2.1, fun s hs => ⟨(ha s hs).1, (ha s hs).2.1, (ha s hs).2.2.1⟩, fun s hs x hx => ?_⟩
    have := List.all_eq_true.1 (ha s hs).2.2.2.2 x hx
    simpa [okN] using this
end Go.Proofs.YtfenhjpkomldcaaGreat
