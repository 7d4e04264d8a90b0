/- Days off: the reference's list is the program's. Plain lists; conditions: the theorems' own. -/
import Derived.Test.YtfenhjpkomldcaaGreatRO
set_option linter.unusedSimpArgs false
set_option linter.unusedVariables false
namespace Go.Proofs.YtfenhjpkomldcaaGreat
open Go Go.Ev
theorem busy_at (z : Zn) (ss : List Sti) (from_ : Int) (n a : Nat) (h : a < n) : (busyOf z ss from_ n).getD a true = busyB z ss (from_ + a) := by
  unfold busyOf
  rw [List.getD_eq_getElem?_getD, List.getElem?_map, List.getElem?_range h]
  rfl
theorem free_fr (z : Zn) (ss : List Sti) (from_ : Int) (n : Nat) : ∀ (j a : Nat), a + j ≤ n → freeTo (busyOf z ss from_ n) (a + j) - freeTo (busyOf z ss from_ n) a = frC z ss j (from_ + a)
  | 0, a, h => by simp [frC]
  | j + 1, a, h => by
    have ih := free_fr z ss from_ n j (a + 1) (by omega)
    have h1 : freeTo (busyOf z ss from_ n) (a + 1) = freeTo (busyOf z ss from_ n) a + if busyB z ss (from_ + a) = true then 0 else 1 := by
      conv => lhs; unfold freeTo
      rw [busy_at z ss from_ n a (by omega)]
      cases busyB z ss (from_ + a) <;> rfl
    have h2 : frC z ss (j + 1) (from_ + a) = (if busyB z ss (from_ + a) = true then 0 else 1) + frC z ss j (from_ + a + 1) := by
      conv => lhs; unfold frC
    have e1 : from_ + ((a + 1 : Nat) : Int) = from_ + a + 1 := by omega
    rw [e1] at ih
    rw [show a + (j + 1) = a + 1 + j by omega, h2, ← ih, h1]
    omega
theorem off_late (z : Zn) (ss : List Sti) (from_ cnt : Int) (n D : Nat) : ∀ (m k : Nat), k + m = n → D ≤ k + 1 → offL (busyOf z ss from_ n) D cnt from_ k m = refL z ss D cnt m (from_ + k - D + 1)
  | 0, k, _, _ => rfl
  | m + 1, k, h, hD => by
    have hf := free_fr z ss from_ n D (k + 1 - D) (by omega)
    rw [show k + 1 - D + D = k + 1 by omega] at hf
    have e : from_ + ((k + 1 - D : Nat) : Int) = from_ + k - D + 1 := by omega
    rw [e] at hf
    unfold offL refL
    rw [off_late z ss from_ cnt n D m (k + 1) (by omega) (by omega), show from_ + ((k + 1 : Nat) : Int) - D + 1 = from_ + k - D + 1 + 1 by omega, hf]
    simp only [hD, true_and]
theorem off_early (bs : List Bool) (from_ cnt : Int) (D : Nat) : ∀ (j m k : Nat), k + j + 1 ≤ D → offL bs D cnt from_ k (j + m) = offL bs D cnt from_ (k + j) m
  | 0, m, k, _ => by simp
  | j + 1, m, k, h => by
    have ih := off_early bs from_ cnt D j m (k + 1) (by omega)
    rw [show j + 1 + m = (j + m) + 1 by omega]
    conv => lhs; unfold offL
    rw [if_neg (by omega), List.nil_append, ih, show k + 1 + j = k + (j + 1) by omega]
theorem off_none (bs : List Bool) (from_ cnt : Int) (D : Nat) : ∀ (m k : Nat), k + m + 1 ≤ D → offL bs D cnt from_ k m = []
  | 0, k, _ => rfl
  | m + 1, k, h => by
    conv => lhs; unfold offL
    rw [if_neg (by omega), List.nil_append]
    exact off_none bs from_ cnt D m (k + 1) (by omega)
/-- The two lists. -/
theorem off_ref (z : Zn) (ss : List Sti) (from_ cnt : Int) (n D : Nat) (hD : 1 ≤ D) : offL (busyOf z ss from_ n) D cnt from_ 0 n = refL z ss D cnt (n + 1 - D) from_ := by
  by_cases h : D ≤ n
  · obtain ⟨r, hr⟩ : ∃ r, n = (D - 1) + r := ⟨n - (D - 1), by omega⟩
    have h1 := off_early (busyOf z ss from_ n) from_ cnt D (D - 1) r 0 (by omega)
    have h2 := off_late z ss from_ cnt n D r (D - 1) (by omega) (by omega)
    have e1 : offL (busyOf z ss from_ n) D cnt from_ 0 n = offL (busyOf z ss from_ n) D cnt from_ 0 (D - 1 + r) := by rw [← hr]
    rw [e1, h1, Nat.zero_add, h2, show n + 1 - D = r by omega]
    congr 1
    omega
  · rw [off_none _ _ _ _ _ _ (by omega), show n + 1 - D = 0 by omega]
    rfl
/-- What a list without a flaw is like. -/
theorem val_all (nl : Nat) : ∀ (ss : List Sti) (p : Option Int), valFrom nl p ss = 0 → ∀ s ∈ ss, 0 ≤ s.a ∧ s.a < s.b ∧ s.b ≤ 52596000 ∧ s.xs.length = nl ∧ s.xs.all okN = true
  | [], p, _, s, hs => by simp at hs
  | t :: ss, p, h, s, hs => by
    unfold valFrom at h
    by_cases h0 : valStep nl p t = 0
    · rw [if_pos h0] at h
      rcases List.mem_cons.1 hs with rfl | hs
      · unfold valStep at h0
        split at h0
        · cases h0
        · rename_i c1
          split at h0
          · cases h0
          · rename_i c2
            split at h0
            · cases h0
            · rename_i c3
              simp at c2 c3
              exact ⟨by omega, by omega, by omega, c2, by simpa using c3⟩
      · exact val_all nl ss _ h s hs
    · rw [if_neg h0] at h; exact absurd h h0
theorem val_fit {ss : List Sti} (h : valSpec 2 ss = 0) (hs : ∀ s ∈ ss, s.ok) : Fit ss 2 := by
  unfold valSpec at h
  split at h
  · cases h
  · rename_i hl
    have ha := val_all 2 ss none h
    refine ⟨by omega, hs, fun s hs => (ha s hs).2.2.2.1, fun s hs => ⟨(ha s hs).1, (ha s hs).2.1, (ha s hs).2.2.1⟩, fun s hs x hx => ?_⟩
    have := List.all_eq_true.1 (ha s hs).2.2.2.2 x hx
    simpa [okN] using this
end Go.Proofs.YtfenhjpkomldcaaGreat
