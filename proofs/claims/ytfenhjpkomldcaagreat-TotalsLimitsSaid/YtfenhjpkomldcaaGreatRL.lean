/- The reference's Limits: its loops. Conditions: the theorems' own. -/
import Derived.Test.YtfenhjpkomldcaaGreatRD
import Derived.Test.YtfenhjpkomldcaaGreatTQ
set_option maxRecDepth 100000
set_option maxHeartbeats 4000000
set_option linter.unusedSimpArgs false
set_option linter.unusedVariables false
namespace Go.Proofs.YtfenhjpkomldcaaGreat
open Go Go.Ev
def anyW (D : Int) (l : List (Int × Int)) (d : Int) : Bool := l.any fun p => decide (d ≤ p.1 ∧ p.1 < d + D)
theorem any_cons (D : Int) (p : Int × Int) (l : List (Int × Int)) (d : Int) : anyW D (p :: l) d = (decide (d ≤ p.1 ∧ p.1 < d + D) || anyW D l d) := rfl
def lowL (ds : List Int) (a : Int) : Int := ds.foldl (fun a b => if b < a then b else a) a
def highL (ds : List Int) (a : Int) : Int := ds.foldl (fun a b => if b > a then b else a) a
theorem b12 {x : Int} (h : -1099511627776 ≤ x ∧ x ≤ 1099511627776) : -2000000000000 ≤ x ∧ x ≤ 2000000000000 := ⟨Int.le_trans (by decide) h.1, Int.le_trans h.2 (by decide)⟩
def SBd (k : Nat) (s : Int) : Prop := -(2000000000000 * (k : Int)) ≤ s ∧ s ≤ 2000000000000 * (k : Int)
def VBd (x : Int) : Prop := -2000000000000 ≤ x ∧ x ≤ 2000000000000
theorem sbd_zero : SBd 0 0 := by unfold SBd; omega
theorem sbd_skip {k : Nat} {s : Int} (h : SBd k s) : SBd (k + 1) s := by unfold SBd at *; omega
theorem sbd_step {k : Nat} {s x : Int} (h : SBd k s) (hx : VBd x) : SBd (k + 1) (s + x) := by unfold SBd VBd at *; omega
theorem sbd_w {k : Nat} {s x : Int} (h : SBd k s) (hx : VBd x) (hk : k ≤ 200) : wr .i64 (s + x) = s + x := wr64 (by unfold SBd VBd at *; omega)
theorem val_bd {ss : List Sti} {nl : Nat} (hf : Fit ss nl) {s : Sti} (hs : s ∈ ss) (i : Nat) : VBd (s.xs.getD i 0) := by
  rw [List.getD_eq_getElem?_getD]
  by_cases hi : i < s.xs.length
  · rw [List.getElem?_eq_getElem hi, Option.getD_some]
    exact b12 (hf.val s hs _ (List.getElem_mem hi))
  · rw [List.getElem?_eq_none (by omega), Option.getD_none]; exact ⟨by decide, by decide⟩
theorem dvs_drop (z : Zn) (ss : List Sti) (i k : Nat) (h : k < ss.length) : (dvs z ss i).drop k = (z.day ss[k].a, ss[k].xs.getD i 0) :: (dvs z ss i).drop (k + 1) := by
  have hl : k < (dvs z ss i).length := by unfold dvs; simpa using h
  rw [List.drop_eq_getElem_cons hl]
  unfold dvs
  simp
theorem day_get (z : Zn) (ss : List Sti) (k : Nat) (h : k < ss.length) : (ints (ss.map fun s => z.day s.a))[k]? = some (.i .i64 (z.day ss[k].a)) := by
  unfold ints
  rw [List.getElem?_map, List.getElem?_map, List.getElem?_eq_getElem h]
  rfl
theorem ex1_mono {α : Type} {A : α → Prop} {P Q : α → Prop} (h : ∃ a, A a ∧ P a) (f : ∀ a, P a → Q a) : ∃ a, A a ∧ Q a := by
  obtain ⟨a, h1, h2⟩ := h
  exact ⟨a, h1, f a h2⟩
section
variable (z : Zn) (hz : z.ok) (l v : T) (cc : List T) (ss : List Sti) (lims : List Lm) (hl : IsSl l ss.length (ss.flatMap stC)) (hf : Fit ss lims.length) (hcc : cc[11]? = some v) (hv : IsSl v lims.length (lims.flatMap lmC)) (hli : ∀ x ∈ lims, 1 ≤ x.d ∧ x.d ≤ 31)
include hz hl hf hcc hv hli
theorem Q1 (i : Nat) (hi : i < lims.length) (d : Int) (hd : -1000000 ≤ d ∧ d ≤ 1000000) (lh : Tri Ent) (sh : List Ent) (g wm : Nat) (hO4 : getO lh 4 = ⟨1, .cells cc 0 true⟩) (hO43 : getO lh 43 = ⟨g, .cells (ints (ss.map fun s => z.day s.a)) wm false⟩) : ∀ (m k : Nat) (s : Int) (f : Bool) (fr : Fr), ss.length - k = m → k ≤ ss.length → SBd k s →
    getF fr 2 = l → getF fr 4 = .ptr .L 4 1 0 → getF fr 10 = .isl .L 43 g 0 ss.length 1 → getF fr 12 = .i .i64 (i : Int) → getF fr 16 = .i .i64 d → getF fr 17 = .i .i64 s → getF fr 18 = .b f → getF fr 19 = .i .i64 (k : Int) →
    ∃ fr', DC pE 149 (.loop c35_L1) ⟨fr, lh, sh⟩ = some (.ext 8, ⟨fr', lh, sh⟩) ∧ (getF fr' 17 = .i .i64 (s + winSum lims[i].d ((dvs z ss i).drop k) d) ∧ getF fr' 18 = .b (f || anyW lims[i].d ((dvs z ss i).drop k) d))
  | 0, k, s, f, fr, hm, hk, hs, h2, h4, h10, h12, h16, h17, h18, h19 => by
    have _ := hz
    have : k = ss.length := by omega
    subst this
    have e : (dvs z ss i).drop ss.length = [] := List.drop_of_length_le (by unfold dvs; simp)
    rw [e, DC_loop]
    generalize hK : DC pE 149 (.loop c35_L1) = K
    simp only [DC_seq, DC_skip, DC_exit, DC_region, p_cond, isB_b, isT_b, andThen_nrm, andThen_ext, kv_some, e_nil, o_mv, p_bin, p_lenV, rd_t, get_same, get_ne, bin_lss, Option.map_some, Bool.false_eq_true, if_false, ne_eq, not_false_eq_true, Nat.reduceLT, Nat.reduceEqDiff, decide_false, c35_L1, h2, h19, hl.lenI, Int.lt_irrefl]
    refine ⟨_, rfl, ?_, ?_⟩
    · simp only [get_ne, ne_eq, not_false_eq_true, Nat.reduceEqDiff, h17]; simp [winSum]
    · simp only [get_ne, ne_eq, not_false_eq_true, Nat.reduceEqDiff, h18]; simp [anyW]
  | m + 1, k, s, f, fr, hm, hk, hs, h2, h4, h10, h12, h16, h17, h18, h19 => by
    have hlt : k < ss.length := by omega
    have hlt' : (k : Int) < ss.length := by omega
    have hn := hf.len
    have hle : k + 1 ≤ ss.length := hlt
    have hlen : (ints (ss.map fun s => z.day s.a)).length = ss.length := by rw [ints_len, List.length_map]
    have hg := day_get z ss k hlt
    have hdv := dvs_drop z ss i k hlt
    have hil : (i : Int) < lims.length := by omega
    have hiv : ∀ kk, iaV v (.i kk (i : Int)) 4 = some (.vp (lims[i].nm :: lims[i].ms :: .i .i64 lims[i].most :: .i .i64 lims[i].d :: (lims.drop (i + 1)).flatMap lmC)) := fun kk => by
      rw [hv.ia (sz := 4) (flat_len (f := lmC) (fun _ => rfl) lims) hi, flat_drop (f := lmC) (fun _ => rfl) lims i hi]; rfl
    have hia : ∀ kk, iaV l (.i kk (k : Int)) 3 = some (.vp (.i .i64 ss[k].a :: .i .i64 ss[k].b :: ss[k].v :: (ss.drop (k + 1)).flatMap stC)) := fun kk => by
      rw [hl.ia (sz := 3) (stC_len ss) hlt, flat_drop (f := stC) (fun _ => rfl) ss k hlt]; rfl
    have hx1 := hf.n ss[k] (List.getElem_mem hlt)
    have hix : i < ss[k].xs.length := by omega
    have hxv : ss[k].xs[i] = ss[k].xs.getD i 0 := by rw [List.getD_eq_getElem?_getD, List.getElem?_eq_getElem hix]; rfl
    have hix' : ∀ kk, iaV ss[k].v (.i kk (i : Int)) 1 = some (.vp (T.i .i64 (ss[k].xs.getD i 0) :: (ints ss[k].xs).drop (i + 1))) := fun kk => by
      rw [((hf.ok ss[k] (List.getElem_mem hlt)).1).ia (sz := 1) (by rw [ints_len]; omega) hix, Nat.mul_one, ints_drop ss[k].xs i hix, hxv]
    have hw : wr .i64 ((k : Int) + 1) = ((k + 1 : Nat) : Int) := by rw [wr64 (by omega)]; omega
    have hdd := hli lims[i] (List.getElem_mem hi)
    have hw2 : wr .i64 (d + lims[i].d) = d + lims[i].d := wr64 (by omega)
    have hvb := val_bd hf (List.getElem_mem hlt) i
    have hw3 : wr .i64 (s + ss[k].xs.getD i 0) = s + ss[k].xs.getD i 0 := sbd_w hs hvb (Nat.le_trans hk hn)
    rw [hdv, win_cons, any_cons, DC_loop]
    dsimp only
    generalize hK : DC pE 149 (.loop c35_L1) = K
    generalize ss[k].xs.getD i 0 = x at *
    by_cases c1 : d ≤ z.day ss[k].a
    · by_cases c2 : z.day ss[k].a < d + lims[i].d
      · simp only [DC_seq, DC_skip, DC_exit, DC_region, DC_calm, DC_block, p_cond, isB_b, isT_b, andThen_nrm, outOf_nrm, kv_some, e_nil, o_mv, p_pick, pickV_b, p_bin, p_fa, faV_vp, faV_ptr, p_ia, iaV_isl, p_lenV, p_ld, ldV_vp, ldV_L, ldE_cells, g_passT, rd_t, rd_c, get_same, get_ne, part_f, backD, calmOp, Nat.reduceAdd, List.all_nil, decide_true, bin_add, bin_lss, bin_geq, Option.map_some, List.map_cons, List.map_nil, List.all_cons, List.all_nil, List.length_cons, List.drop_zero, List.getElem?_cons_zero, List.drop_succ_cons, Bool.and_self, if_true, ne_eq, not_false_eq_true, and_self, Nat.zero_add, Nat.mul_one, Nat.reduceAdd, Nat.reduceLT, Nat.reduceLeDiff, Nat.reduceEqDiff, decide_true, Int.toNat_natCast, Int.natCast_nonneg, c35_L1, h2, h4, h10, h12, h16, h17, h19, hl.lenI, hlt, hlt', hO4, hO43, hcc, hg, hiv, hia, hix', hw, hw2, hw3, c1, c2]
        rw [← hK]
        simp only [Bool.true_or, Bool.or_true]
        rw [← Int.add_assoc]
        refine ex1_mono (Q1 i hi d hd lh sh g wm hO4 hO43 m (k + 1) (s + x) true _ (by omega) (by omega) (sbd_step hs hvb) ?_ ?_ ?_ ?_ ?_ ?_ ?_ ?_) (fun fr' h => ⟨h.1, by rw [h.2]; rfl⟩)
        all_goals simp only [get_same, get_ne, ne_eq, not_false_eq_true, Nat.reduceEqDiff, h2, h4, h10, h12, h16]
      · simp only [DC_seq, DC_skip, DC_exit, DC_region, DC_calm, DC_block, p_cond, isB_b, isT_b, andThen_nrm, outOf_nrm, kv_some, e_nil, o_mv, p_pick, pickV_b, p_bin, p_fa, faV_vp, faV_ptr, p_ia, iaV_isl, p_lenV, p_ld, ldV_vp, ldV_L, ldE_cells, g_passT, rd_t, rd_c, get_same, get_ne, part_f, backD, calmOp, Nat.reduceAdd, List.all_nil, decide_true, bin_add, bin_lss, bin_geq, Option.map_some, List.map_cons, List.map_nil, List.all_cons, List.all_nil, List.length_cons, List.drop_zero, List.getElem?_cons_zero, List.drop_succ_cons, Bool.and_self, Bool.false_eq_true, if_true, if_false, ite_self, ne_eq, not_false_eq_true, and_self, and_false, Nat.zero_add, Nat.mul_one, Nat.reduceAdd, Nat.reduceLT, Nat.reduceLeDiff, Nat.reduceEqDiff, decide_true, decide_false, Int.toNat_natCast, Int.natCast_nonneg, c35_L1, h2, h4, h10, h12, h16, h17, h19, hl.lenI, hlt, hlt', hO4, hO43, hcc, hg, hiv, hia, hix', hw, hw2, hw3, c1, c2]
        rw [← hK]
        simp only [Bool.false_or, Int.zero_add]
        refine Q1 i hi d hd lh sh g wm hO4 hO43 m (k + 1) s f _ (by omega) (by omega) (sbd_skip hs) ?_ ?_ ?_ ?_ ?_ ?_ ?_ ?_ <;> simp only [get_same, get_ne, ne_eq, not_false_eq_true, Nat.reduceEqDiff, h2, h4, h10, h12, h16, h17, h18]
    · simp only [DC_seq, DC_skip, DC_exit, DC_region, DC_calm, DC_block, p_cond, isB_b, isT_b, andThen_nrm, outOf_nrm, kv_some, e_nil, o_mv, p_pick, pickV_b, p_bin, p_fa, faV_vp, p_ia, iaV_isl, p_lenV, p_ld, ldV_vp, ldV_L, ldE_cells, g_skipT, rd_t, rd_c, get_same, get_ne, part_f, backD, calmOp, Nat.reduceAdd, List.all_nil, decide_true, bin_add, bin_lss, bin_geq, Option.map_some, List.map_cons, List.map_nil, List.all_cons, List.all_nil, List.length_cons, List.drop_zero, List.getElem?_cons_zero, List.drop_succ_cons, Bool.and_self, Bool.false_eq_true, if_true, if_false, ne_eq, not_false_eq_true, and_self, false_and, Nat.zero_add, Nat.mul_one, Nat.reduceAdd, Nat.reduceLT, Nat.reduceLeDiff, Nat.reduceEqDiff, decide_true, decide_false, Int.toNat_natCast, Int.natCast_nonneg, c35_L1, h2, h10, h12, h16, h17, h19, hl.lenI, hlt, hlt', hO43, hg, hia, hix', hw, hw3, c1]
      rw [← hK]
      simp only [Bool.false_or, Int.zero_add]
      refine Q1 i hi d hd lh sh g wm hO4 hO43 m (k + 1) s f _ (by omega) (by omega) (sbd_skip hs) ?_ ?_ ?_ ?_ ?_ ?_ ?_ ?_ <;> simp only [get_same, get_ne, ne_eq, not_false_eq_true, Nat.reduceEqDiff, h2, h4, h10, h12, h16, h17, h18]
end
end Go.Proofs.YtfenhjpkomldcaaGreat
