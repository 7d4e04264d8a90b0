/- TotalsMoves: its loops. Conditions: the theorems' own. -/
import Derived.Test.YtfenhjpkomldcaaGreatTU
set_option maxRecDepth 100000
set_option linter.unusedSimpArgs false
set_option linter.unusedVariables false
namespace Go.Proofs.YtfenhjpkomldcaaGreat
open Go Go.Ev
theorem splice_app {α : Type} : ∀ (A R : List α) (j : Nat) (vs : List α), splice (A ++ R) (A.length + j) vs = A ++ splice R j vs
  | [], R, j, vs => by simp
  | a :: A, R, j, vs => by
    have := splice_app A R j vs
    rw [List.length_cons, show A.length + 1 + j = (A.length + j) + 1 by omega]
    show a :: splice (A ++ R) (A.length + j) vs = _
    rw [this]; rfl
/-- The rows, the first k of them moved. -/
def mix (d : Int) (bs : List Br) (k : Nat) : List T := ((bs.take k).map (Br.mv d) ++ bs.drop k).flatMap bC
theorem mix_zero (d : Int) (bs : List Br) : mix d bs 0 = bs.flatMap bC := by simp [mix]
theorem mix_full (d : Int) (bs : List Br) : mix d bs bs.length = (bs.map (Br.mv d)).flatMap bC := by simp [mix]
theorem mix_len (d : Int) (bs : List Br) (k : Nat) (h : k ≤ bs.length) : (mix d bs k).length = bs.length * 3 := by
  unfold mix
  rw [bC_len]
  simp
  omega
theorem mix_at (d : Int) (bs : List Br) (k : Nat) (h : k < bs.length) : mix d bs k = ((bs.take k).map (Br.mv d)).flatMap bC ++ ([.b bs[k].off, .i .i64 bs[k].i, .i .i64 bs[k].d] ++ (bs.drop (k + 1)).flatMap bC) := by
  unfold mix
  rw [List.flatMap_append, List.drop_eq_getElem_cons h, List.flatMap_cons]
  rfl
theorem pre_len (d : Int) (bs : List Br) (k : Nat) (h : k ≤ bs.length) : (((bs.take k).map (Br.mv d)).flatMap bC).length = k * 3 := by
  rw [bC_len]; simp; omega
theorem mix_get (d : Int) (bs : List Br) (k : Nat) (h : k < bs.length) : (mix d bs k)[k * 3 + 2]? = some (.i .i64 bs[k].d) := by
  rw [mix_at d bs k h, List.getElem?_append_right (by rw [pre_len d bs k (by omega)]; omega), pre_len d bs k (by omega), show k * 3 + 2 - k * 3 = 2 by omega]
  rfl
theorem mix_put (d : Int) (bs : List Br) (k : Nat) (h : k < bs.length) : splice (mix d bs k) (k * 3 + 2) [.i .i64 (bs[k].d + d)] = mix d bs (k + 1) := by
  rw [mix_at d bs k h, show k * 3 + 2 = (((bs.take k).map (Br.mv d)).flatMap bC).length + 2 by rw [pre_len d bs k (by omega)], splice_app]
  unfold mix
  rw [List.take_succ_eq_append_getElem h, List.map_append, List.flatMap_append, List.flatMap_append, List.append_assoc]
  have : ∀ (R : List T) (a b c x : T), splice ([a, b, c] ++ R) 2 [x] = [a, b, x] ++ R := fun R a b c x => by
    show a :: b :: x :: splice R 0 [] = _
    rw [splice_nil]; rfl
  rw [this]
  rfl
/-- A caller's own rows. -/
def OwS (lh : Tri Ent) (v : T) (k n : Nat) (cs : List T) : Prop :=
  (n = 0 ∧ v = .nilsl ∧ cs = []) ∨ (n ≠ 0 ∧ v = .isl .L k 1 0 n 3 ∧ getO lh k = ⟨1, .cells cs 0 false⟩ ∧ cs.length = n * 3)
theorem OwS.congr {lh lh' : Tri Ent} {v : T} {k n : Nat} {cs : List T} (h : OwS lh v k n cs) (e : getO lh' k = getO lh k) : OwS lh' v k n cs := by
  rcases h with h | ⟨h0, h1, h2, h3⟩
  · exact .inl h
  · exact .inr ⟨h0, h1, by rw [e]; exact h2, h3⟩
theorem OwS.fz {lh : Tri Ent} {v : T} {k n : Nat} {cs : List T} (sh : List Ent) (h : OwS lh v k n cs) : ∃ us, fzV lh sh false v = some (outT n cs, us) := by
  rcases h with ⟨h0, h1, h2⟩ | ⟨h0, h1, h2, h3⟩
  · subst h0 h1 h2; exact ⟨[], rfl⟩
  · subst h1
    refine ⟨[(.L, k, ⟨1, .cells cs cs.length false⟩)], ?_⟩
    rw [fzV_isl, h2, islV_cells, if_pos ⟨rfl, by omega⟩]
    have e : (cs.drop 0).take (n * 3) = cs := by rw [List.drop_zero, ← h3]; exact List.take_length
    rw [e]
    rw [outT_pos h0]
theorem ML1 (bs : List Br) (hn : Near bs) (hb : bs.length < 1000000) (d : Int) (hd : 0 ≤ d ∧ d ≤ 64) (h0 : bs.length ≠ 0) (sh : List Ent) : ∀ (m k : Nat) (fr : Fr) (lh : Tri Ent), bs.length - k = m → k ≤ bs.length →
    getF fr 17 = .isl .L 87 1 0 bs.length 3 → getF fr 22 = .i .i64 (k : Int) → getF fr 10 = .i .i64 d → getO lh 87 = ⟨1, .cells (mix d bs k) 0 false⟩ →
    ∃ fr' lh', DC pE 158 (.loop c12_L1) ⟨fr, lh, sh⟩ = some (.ext 4, ⟨fr', lh', sh⟩) ∧ (getO lh' 87 = ⟨1, .cells (mix d bs bs.length) 0 false⟩ ∧ ∀ j, j ≠ 87 → getO lh' j = getO lh j)
  | 0, k, fr, lh, hm, hk, hu, hi, h10, hO => by
    have : k = bs.length := by omega
    subst this
    rw [DC_loop]
    generalize hK : DC pE 158 (.loop c12_L1) = K
    simp only [DC_seq, DC_skip, DC_exit, DC_region, p_cond, isB_b, isT_b, andThen_nrm, andThen_ext, kv_some, e_nil, o_mv, p_bin, p_lenV, lenI_isl, rd_t, get_same, get_ne, bin_lss, Option.map_some, Bool.false_eq_true, if_false, ne_eq, not_false_eq_true, Nat.reduceLT, Nat.reduceEqDiff, decide_false, c12_L1, hu, hi, Int.lt_irrefl]
    exact ⟨_, _, rfl, hO, fun _ _ => rfl⟩
  | m + 1, k, fr, lh, hm, hk, hu, hi, h10, hO => by
    have hlt : k < bs.length := by omega
    have hlt' : (k : Int) < bs.length := by omega
    have hw : wr .i64 ((k : Int) + 1) = ((k + 1 : Nat) : Int) := by rw [wr64 (by omega)]; omega
    have hx := hn bs[k] (List.getElem_mem hlt)
    have hw2 : wr .i64 (bs[k].d + d) = bs[k].d + d := wr64 (by omega)
    have hg := mix_get d bs k hlt
    have hp := mix_put d bs k hlt
    have hL := mix_len d bs k hk
    have hle : k * 3 + 2 + 1 ≤ bs.length * 3 := by omega
    rw [DC_loop]
    generalize hK : DC pE 158 (.loop c12_L1) = K
    simp only [DC_seq, DC_skip, DC_exit, DC_region, DC_block, p_cond, isB_b, isT_b, andThen_nrm, outOf_nrm, kv_some, ks_some, e_nil, o_mv, p_bin, p_fa, faV_ptr, p_ia, iaV_isl, p_lenV, lenI_isl, p_ld, ldV_L, ldE_cells, p_st, stV_L, stB_row, rd_t, rd_c, get_same, get_ne, froz_i, cells_i, noTup_i, part_f, decide_true, bin_add, bin_lss, Option.map_some, List.length_cons, List.length_nil, if_true, ne_eq, not_false_eq_true, and_self, Nat.zero_add, Nat.reduceLT, Nat.reduceEqDiff, decide_true, Nat.zero_le, Int.toNat_natCast, Int.natCast_nonneg, c12_L1, hu, hi, h10, hlt, hlt', hO, hg, hp, hL, hle, hw, hw2, Nat.zero_add]
    rw [← hK]
    refine ex2_mono (ML1 bs hn hb d hd h0 sh m (k + 1) _ _ (by omega) (by omega) ?_ ?_ ?_ ?_) (fun fr' lh' h => ?_)
    all_goals first | (simp only [get_same, get_ne, getO_same, ne_eq, not_false_eq_true, Nat.reduceEqDiff, hu, h10]; done) | skip
    exact ⟨h.1, fun j hj => by rw [h.2 j hj, getO_ne _ _ hj]⟩
/-- The loop, where there may be no rows. -/
theorem ML1' (bs : List Br) (hn : Near bs) (hb : bs.length < 1000000) (d : Int) (hd : 0 ≤ d ∧ d ≤ 64) (fr : Fr) (lh : Tri Ent) (sh : List Ent) (v : T) (hv : OwS lh v 87 bs.length (bs.flatMap bC)) (hu : getF fr 17 = v) (hi : getF fr 22 = .i .i64 0) (h10 : getF fr 10 = .i .i64 d) :
    ∃ fr' lh', DC pE 158 (.loop c12_L1) ⟨fr, lh, sh⟩ = some (.ext 4, ⟨fr', lh', sh⟩) ∧ (OwS lh' v 87 bs.length ((bs.map (Br.mv d)).flatMap bC) ∧ ∀ j, j ≠ 87 → getO lh' j = getO lh j) := by
  rcases hv with ⟨e0, e1, e2⟩ | ⟨e0, e1, e2, e3⟩
  · have : bs = [] := List.length_eq_zero_iff.1 e0
    subst this
    subst e1
    rw [DC_loop]
    generalize hK : DC pE 158 (.loop c12_L1) = K
    simp only [DC_seq, DC_skip, DC_exit, DC_region, p_cond, isB_b, isT_b, andThen_nrm, andThen_ext, kv_some, e_nil, o_mv, p_bin, p_lenV, lenI_nil, rd_t, get_same, get_ne, bin_lss, Option.map_some, List.map_nil, List.length_nil, Bool.false_eq_true, if_false, ne_eq, not_false_eq_true, Nat.reduceLT, Nat.reduceEqDiff, decide_false, c12_L1, hu, hi, Int.lt_irrefl]
    exact ⟨_, _, rfl, .inl ⟨rfl, rfl, rfl⟩, fun _ _ => rfl⟩
  · subst e1
    refine ex2_mono (ML1 bs hn hb d hd e0 sh bs.length 0 fr lh (by omega) (by omega) hu hi h10 (by rw [mix_zero]; exact e2)) (fun fr' lh' h => ?_)
    exact ⟨.inr ⟨e0, rfl, by rw [← mix_full]; exact h.1, by rw [bC_len]; simp⟩, h.2⟩
theorem ML2 (bs : List Br) (hn : Near bs) (hb : bs.length < 1000000) (d : Int) (hd : 0 ≤ d ∧ d ≤ 64) (h0 : bs.length ≠ 0) (sh : List Ent) : ∀ (m k : Nat) (fr : Fr) (lh : Tri Ent), bs.length - k = m → k ≤ bs.length →
    getF fr 13 = .isl .L 73 1 0 bs.length 3 → getF fr 21 = .i .i64 (k : Int) → getF fr 10 = .i .i64 d → getO lh 73 = ⟨1, .cells (mix d bs k) 0 false⟩ →
    ∃ fr' lh', DC pE 158 (.loop c12_L2) ⟨fr, lh, sh⟩ = some (.ext 2, ⟨fr', lh', sh⟩) ∧ (getO lh' 73 = ⟨1, .cells (mix d bs bs.length) 0 false⟩ ∧ ∀ j, j ≠ 73 → getO lh' j = getO lh j)
  | 0, k, fr, lh, hm, hk, hu, hi, h10, hO => by
    have : k = bs.length := by omega
    subst this
    rw [DC_loop]
    generalize hK : DC pE 158 (.loop c12_L2) = K
    simp only [DC_seq, DC_skip, DC_exit, DC_region, p_cond, isB_b, isT_b, andThen_nrm, andThen_ext, kv_some, e_nil, o_mv, p_bin, p_lenV, lenI_isl, rd_t, get_same, get_ne, bin_lss, Option.map_some, Bool.false_eq_true, if_false, ne_eq, not_false_eq_true, Nat.reduceLT, Nat.reduceEqDiff, decide_false, c12_L2, hu, hi, Int.lt_irrefl]
    exact ⟨_, _, rfl, hO, fun _ _ => rfl⟩
  | m + 1, k, fr, lh, hm, hk, hu, hi, h10, hO => by
    have hlt : k < bs.length := by omega
    have hlt' : (k : Int) < bs.length := by omega
    have hw : wr .i64 ((k : Int) + 1) = ((k + 1 : Nat) : Int) := by rw [wr64 (by omega)]; omega
    have hx := hn bs[k] (List.getElem_mem hlt)
    have hw2 : wr .i64 (bs[k].d + d) = bs[k].d + d := wr64 (by omega)
    have hg := mix_get d bs k hlt
    have hp := mix_put d bs k hlt
    have hL := mix_len d bs k hk
    have hle : k * 3 + 2 + 1 ≤ bs.length * 3 := by omega
    rw [DC_loop]
    generalize hK : DC pE 158 (.loop c12_L2) = K
    simp only [DC_seq, DC_skip, DC_exit, DC_region, DC_block, p_cond, isB_b, isT_b, andThen_nrm, outOf_nrm, kv_some, ks_some, e_nil, o_mv, p_bin, p_fa, faV_ptr, p_ia, iaV_isl, p_lenV, lenI_isl, p_ld, ldV_L, ldE_cells, p_st, stV_L, stB_row, rd_t, rd_c, get_same, get_ne, froz_i, cells_i, noTup_i, part_f, decide_true, bin_add, bin_lss, Option.map_some, List.length_cons, List.length_nil, if_true, ne_eq, not_false_eq_true, and_self, Nat.zero_add, Nat.reduceLT, Nat.reduceEqDiff, decide_true, Nat.zero_le, Int.toNat_natCast, Int.natCast_nonneg, c12_L2, hu, hi, h10, hlt, hlt', hO, hg, hp, hL, hle, hw, hw2, Nat.zero_add]
    rw [← hK]
    refine ex2_mono (ML2 bs hn hb d hd h0 sh m (k + 1) _ _ (by omega) (by omega) ?_ ?_ ?_ ?_) (fun fr' lh' h => ?_)
    all_goals first | (simp only [get_same, get_ne, getO_same, ne_eq, not_false_eq_true, Nat.reduceEqDiff, hu, h10]; done) | skip
    exact ⟨h.1, fun j hj => by rw [h.2 j hj, getO_ne _ _ hj]⟩
/-- The loop, where there may be no rows. -/
theorem ML2' (bs : List Br) (hn : Near bs) (hb : bs.length < 1000000) (d : Int) (hd : 0 ≤ d ∧ d ≤ 64) (fr : Fr) (lh : Tri Ent) (sh : List Ent) (v : T) (hv : OwS lh v 73 bs.length (bs.flatMap bC)) (hu : getF fr 13 = v) (hi : getF fr 21 = .i .i64 0) (h10 : getF fr 10 = .i .i64 d) :
    ∃ fr' lh', DC pE 158 (.loop c12_L2) ⟨fr, lh, sh⟩ = some (.ext 2, ⟨fr', lh', sh⟩) ∧ (OwS lh' v 73 bs.length ((bs.map (Br.mv d)).flatMap bC) ∧ ∀ j, j ≠ 73 → getO lh' j = getO lh j) := by
  rcases hv with ⟨e0, e1, e2⟩ | ⟨e0, e1, e2, e3⟩
  · have : bs = [] := List.length_eq_zero_iff.1 e0
    subst this
    subst e1
    rw [DC_loop]
    generalize hK : DC pE 158 (.loop c12_L2) = K
    simp only [DC_seq, DC_skip, DC_exit, DC_region, p_cond, isB_b, isT_b, andThen_nrm, andThen_ext, kv_some, e_nil, o_mv, p_bin, p_lenV, lenI_nil, rd_t, get_same, get_ne, bin_lss, Option.map_some, List.map_nil, List.length_nil, Bool.false_eq_true, if_false, ne_eq, not_false_eq_true, Nat.reduceLT, Nat.reduceEqDiff, decide_false, c12_L2, hu, hi, Int.lt_irrefl]
    exact ⟨_, _, rfl, .inl ⟨rfl, rfl, rfl⟩, fun _ _ => rfl⟩
  · subst e1
    refine ex2_mono (ML2 bs hn hb d hd e0 sh bs.length 0 fr lh (by omega) (by omega) hu hi h10 (by rw [mix_zero]; exact e2)) (fun fr' lh' h => ?_)
    exact ⟨.inr ⟨e0, rfl, by rw [← mix_full]; exact h.1, by rw [bC_len]; simp⟩, h.2⟩
/-- Lists that are equal are the same breaches. -/
theorem SL (u v : T) (bs : List Br) (hu : IsSl u bs.length (bs.flatMap bC)) (hv : IsSl v bs.length (bs.flatMap bC)) (hb : bs.length < 1000000) (lh : Tri Ent) (sh : List Ent) : ∀ (m k : Nat) (fr : Fr), bs.length - k = m → k ≤ bs.length →
    getF fr 0 = u → getF fr 1 = v → getF fr 5 = .i .i64 (k : Int) →
    ∃ fr', DC pE 26 (.loop c36_L1) ⟨fr, lh, sh⟩ = some (.ext 0, ⟨fr', lh, sh⟩)
  | 0, k, fr, hm, hk, h0, h1, h5 => by
    have : k = bs.length := by omega
    subst this
    rw [DC_loop]
    generalize hK : DC pE 26 (.loop c36_L1) = K
    simp only [DC_seq, DC_skip, DC_exit, DC_region, p_cond, isB_b, isT_b, andThen_nrm, andThen_ext, kv_some, e_nil, o_mv, p_bin, p_lenV, rd_t, get_same, get_ne, bin_lss, Option.map_some, Bool.false_eq_true, if_false, reduceCtorEq, ne_eq, not_false_eq_true, Nat.reduceLT, Nat.reduceEqDiff, decide_false, c36_L1, h0, h5, hu.lenI, Int.lt_irrefl]
    exact ⟨_, rfl⟩
  | m + 1, k, fr, hm, hk, h0, h1, h5 => by
    have hlt : k < bs.length := by omega
    have hlt' : (k : Int) < bs.length := by omega
    have hia : ∀ kk, iaV u (.i kk (k : Int)) 3 = some (.vp (bC bs[k] ++ (bs.drop (k + 1)).flatMap bC)) := fun kk => by
      rw [hu.ia (sz := 3) (bC_len bs) hlt, flat_drop (f := bC) (fun _ => rfl) bs k hlt]
    have hib : ∀ kk, iaV v (.i kk (k : Int)) 3 = some (.vp (bC bs[k] ++ (bs.drop (k + 1)).flatMap bC)) := fun kk => by
      rw [hv.ia (sz := 3) (bC_len bs) hlt, flat_drop (f := bC) (fun _ => rfl) bs k hlt]
    have hw : wr .i64 ((k : Int) + 1) = ((k + 1 : Nat) : Int) := by rw [wr64 (by omega)]; omega
    have he := eqT_b bs[k] bs[k]
    rw [decide_eq_true rfl] at he
    unfold bC at hia hib he
    rw [DC_loop]
    generalize hK : DC pE 26 (.loop c36_L1) = K
    simp only [DC_seq, DC_skip, DC_exit, DC_ret, DC_region, DC_calm, DC_block, p_cond, isB_b, isT_b, andThen_nrm, andThen_ret, andThen_ite, outOf_nrm, outOf_ret, outOf_ite, kv_some, e_nil, o_mv, p_bin, p_eq, p_ia, p_lenV, p_ld, ldV_vp, rd_t, rd_c, get_same, get_ne, part_t, backD, calmOp, Nat.reduceAdd, List.all_nil, decide_true, bin_add, bin_lss, Option.map_some, List.map_cons, List.map_nil, List.all_cons, List.all_nil, List.length_cons, List.drop_zero, List.nil_append, List.cons_append, List.take_succ_cons, List.take_zero, Bool.and_self, if_true, reduceCtorEq, ne_eq, not_false_eq_true, Nat.zero_add, Nat.reduceAdd, Nat.reduceLT, Nat.reduceLeDiff, Nat.reduceEqDiff, decide_true, c36_L1, h0, h1, h5, hu.lenI, hlt', hia, hib, he, hw]
    rw [← hK]
    refine SL u v bs hu hv hb lh sh m (k + 1) _ (by omega) (by omega) ?_ ?_ ?_ <;> simp only [get_same, get_ne, reduceCtorEq, ne_eq, not_false_eq_true, Nat.reduceEqDiff, h0, h1]
theorem same_ev (u v : T) (bs : List Br) (hu : IsSl u bs.length (bs.flatMap bC)) (hv : IsSl v bs.length (bs.flatMap bC)) (hb : bs.length < 1000000) : DCall pE 36 [u, v] [] = some (.b true, []) := by
  rw [p_fun fn36 (by simp [c36])]
  have hS := fun fr lh sh h0 h1 (h5 : getF fr 5 = .i .i64 0) => (loop_fix (P := fun _ => True) (let ⟨f, h⟩ := SL u v bs hu hv hb lh sh bs.length 0 fr (by omega) (by omega) h0 h1 h5; ⟨f, h, trivial⟩)).1
  simp (maxDischargeDepth := 6) only [DC_seq, DC_skip, DC_ret, DC_region, DC_block, p_cond, isB_b, isT_b, andThen_nrm, outOf_ext, endR_ret, kv_some, e_nil, o_mv, p_bin, p_lenV, rd_t, rd_c, get_same, get_ne, resV, ansV_gen, froz_b, frOf, frFrom, fzV_froz, ups_nil, decide_true, bin_neq, Option.bind_some, Option.map_some, Bool.not_true, Bool.false_eq_true, if_true, if_false, reduceCtorEq, ne_eq, not_false_eq_true, Nat.zero_add, Nat.reduceLT, Nat.reduceEqDiff, decide_true, c36, hu.lenI, hv.lenI, hS]
theorem outT_rec (bs : List Br) : IsSl (outT bs.length (bs.flatMap bC)) bs.length (bs.flatMap bC) := outT_isl (fun h => by rw [List.length_eq_zero_iff.1 h]; rfl)
theorem same_call (bs : List Br) (hb : bs.length < 1000000) {u v : T} {i j n n' : Nat} (lh : Tri Ent) (hn : n = bs.length) (hn' : n' = bs.length) (hu : OwS lh u i n (bs.flatMap bC)) (hv : OwS lh v j n' (bs.flatMap bC)) (z : Nat) (fr : Fr) (sh : List Ent) :
    doCall pE (DCall pE) z ⟨fr, lh, sh⟩ 36 [u, v] = some (.b true, ⟨fr, lh, sh⟩) := by
  subst hn hn'
  obtain ⟨us, h1⟩ := hu.fz sh
  obtain ⟨vs, h2⟩ := hv.fz sh
  rw [dp36, fzL_cons, h1, Option.bind_some, fzL_cons, h2, Option.bind_some, fzL_nil, Option.bind_some, Option.bind_some, Option.bind_some]
  show (DCall pE 36 [outT bs.length (bs.flatMap bC), outT bs.length (bs.flatMap bC)] []).bind _ = _
  rw [same_ev _ _ bs (outT_rec bs) (outT_rec bs) hb]
  rfl
end Go.Proofs.YtfenhjpkomldcaaGreat
