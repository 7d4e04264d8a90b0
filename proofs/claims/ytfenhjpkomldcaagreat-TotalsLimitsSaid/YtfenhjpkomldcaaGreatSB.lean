/- A caller's own rows; SameBreaches of equal lists. Conditions: the theorems' own. -/
import Derived.Test.YtfenhjpkomldcaaGreatTP
import Derived.Test.YtfenhjpkomldcaaGreatTO
set_option maxRecDepth 100000
set_option linter.unusedSimpArgs false
set_option linter.unusedVariables false
namespace Go.Proofs.YtfenhjpkomldcaaGreat
open Go Go.Ev
def OwS (lh : Tri Ent) (v : T) (k n : Nat) (cs : List T) : Prop :=
  (n = 0 ∧ v = .nilsl ∧ cs = []) ∨ (n ≠ 0 ∧ v = .isl .L k 1 0 n 3 ∧ getO lh k = ⟨1, .cells cs 0 false⟩ ∧ cs.length = n * 3)
theorem OwS.congr {lh lh' : Tri Ent} {v : T} {k n : Nat} {cs : List T} (h : OwS lh v k n cs) (e : getO lh' k = getO lh k) : OwS lh' v k n cs := by
  rcases h with h | ⟨h0, h1, h2, h3⟩
  · exact .inl h
  · exact .inr ⟨h0, h1, by rw [e]; exact h2, h3⟩
theorem OwS.fz {lh : Tri Ent} {v : T} {k n : Nat} {cs : List T} (sh : List Ent) (h : OwS lh v k n cs) : ∃ us, fzV lh sh false v = some (outT n cs, us) := by
  rcases h with ⟨h0, h1, h2⟩ | ⟨h0, h1, h2, h3⟩
  · subst h0 h1 h2; exact ⟨[], rfl⟩
  · subst h1
    refine ⟨[(.L, k, ⟨1, .cells cs cs.length false⟩)], ?_⟩
    rw [fzV_isl, h2, islV_cells, if_pos ⟨rfl, by omega⟩]
    have e : (cs.drop 0).take (n * 3) = cs := by rw [List.drop_zero, ← h3]; exact List.take_length
    rw [e]
    rw [outT_pos h0]
theorem SL (u v : T) (bs : List Br) (hu : IsSl u bs.length (bs.flatMap bC)) (hv : IsSl v bs.length (bs.flatMap bC)) (hb : bs.length < 1000000) (lh : Tri Ent) (sh : List Ent) : ∀ (m k : Nat) (fr : Fr), bs.length - k = m → k ≤ bs.length →
    getF fr 0 = u → getF fr 1 = v → getF fr 5 = .i .i64 (k : Int) →
    ∃ fr', DC pE 26 (.loop c36_L1) ⟨fr, lh, sh⟩ = some (.ext 0, ⟨fr', lh, sh⟩)
  | 0, k, fr, hm, hk, h0, h1, h5 => by
    have : k = bs.length := by omega
    subst this
    rw [DC_loop]
    generalize hK : DC pE 26 (.loop c36_L1) = K
    simp only [DC_seq, DC_skip, DC_exit, DC_region, p_cond, isB_b, isT_b, andThen_nrm, andThen_ext, kv_some, e_nil, o_mv, p_bin, p_lenV, rd_t, get_same, get_ne, bin_lss, Option.map_some, Bool.false_eq_true, if_false, reduceCtorEq, ne_eq, not_false_eq_true, Nat.reduceLT, Nat.reduceEqDiff, decide_false, c36_L1, h0, h5, hu.lenI, Int.lt_irrefl]
    exact ⟨_, rfl⟩
  | m + 1, k, fr, hm, hk, h0, h1, h5 => by
    have hlt : k < bs.length := by omega
    have hlt' : (k : Int) < bs.length := by omega
    have hia : ∀ kk, iaV u (.i kk (k : Int)) 3 = some (.vp (bC bs[k] ++ (bs.drop (k + 1)).flatMap bC)) := fun kk => by
      rw [hu.ia (sz := 3) (bC_len bs) hlt, flat_drop (f := bC) (fun _ => rfl) bs k hlt]
    have hib : ∀ kk, iaV v (.i kk (k : Int)) 3 = some (.vp (bC bs[k] ++ (bs.drop (k + 1)).flatMap bC)) := fun kk => by
      rw [hv.ia (sz := 3) (bC_len bs) hlt, flat_drop (f := bC) (fun _ => rfl) bs k hlt]
    have hw : wr .i64 ((k : Int) + 1) = ((k + 1 : Nat) : Int) := by rw [wr64 (by omega)]; omega
    have he := eqT_b bs[k] bs[k]
    rw [decide_eq_true rfl] at he
    unfold bC at hia hib he
    rw [DC_loop]
    generalize hK : DC pE 26 (.loop c36_L1) = K
    simp only [DC_seq, DC_skip, DC_exit, DC_ret, DC_region, DC_calm, DC_block, p_cond, isB_b, isT_b, andThen_nrm, andThen_ret, andThen_ite, outOf_nrm, outOf_ret, outOf_ite, kv_some, e_nil, o_mv, p_bin, p_eq, p_ia, p_lenV, p_ld, ldV_vp, rd_t, rd_c, get_same, get_ne, part_t, backD, calmOp, Nat.reduceAdd, List.all_nil, decide_true, bin_add, bin_lss, Option.map_some, List.map_cons, List.map_nil, List.all_cons, List.all_nil, List.length_cons, List.drop_zero, List.nil_append, List.cons_append, List.take_succ_cons, List.take_zero, Bool.and_self, if_true, reduceCtorEq, ne_eq, not_false_eq_true, Nat.zero_add, Nat.reduceAdd, Nat.reduceLT, Nat.reduceLeDiff, Nat.reduceEqDiff, decide_true, c36_L1, h0, h1, h5, hu.lenI, hlt', hia, hib, he, hw]
    rw [← hK]
    refine SL u v bs hu hv hb lh sh m (k + 1) _ (by omega) (by omega) ?_ ?_ ?_ <;> simp only [get_same, get_ne, reduceCtorEq, ne_eq, not_false_eq_true, Nat.reduceEqDiff, h0, h1]
theorem same_ev (u v : T) (bs : List Br) (hu : IsSl u bs.length (bs.flatMap bC)) (hv : IsSl v bs.length (bs.flatMap bC)) (hb : bs.length < 1000000) : DCall pE 36 [u, v] [] = some (.b true, []) := by
  rw [p_fun fn36 (by simp [c36])]
  have hS := fun fr lh sh h0 h1 (h5 : getF fr 5 = .i .i64 0) => (loop_fix (P := fun _ => True) (let ⟨f, h⟩ := SL u v bs hu hv hb lh sh bs.length 0 fr (by omega) (by omega) h0 h1 h5; ⟨f, h, trivial⟩)).1
  simp (maxDischargeDepth := 6) only [DC_seq, DC_skip, DC_ret, DC_region, DC_block, p_cond, isB_b, isT_b, andThen_nrm, outOf_ext, endR_ret, kv_some, e_nil, o_mv, p_bin, p_lenV, rd_t, rd_c, get_same, get_ne, resV, ansV_gen, froz_b, frOf, frFrom, fzV_froz, ups_nil, decide_true, bin_neq, Option.bind_some, Option.map_some, Bool.not_true, Bool.false_eq_true, if_true, if_false, reduceCtorEq, ne_eq, not_false_eq_true, Nat.zero_add, Nat.reduceLT, Nat.reduceEqDiff, decide_true, c36, hu.lenI, hv.lenI, hS]
theorem outT_rec (bs : List Br) : IsSl (outT bs.length (bs.flatMap bC)) bs.length (bs.flatMap bC) := outT_isl (fun h => by rw [List.length_eq_zero_iff.1 h]; rfl)
theorem same_call2 (bs : List Br) (hb : bs.length < 1000000) {u : T} {i : Nat} (lh : Tri Ent) (hu : OwS lh u i bs.length (bs.flatMap bC)) (z : Nat) (fr : Fr) (sh : List Ent) :
    doCall pE (DCall pE) z ⟨fr, lh, sh⟩ 36 [u, outT bs.length (bs.flatMap bC)] = some (.b true, ⟨fr, lh, sh⟩) := by
  obtain ⟨us, h1⟩ := hu.fz sh
  have h2 : froz (outT bs.length (bs.flatMap bC)) = true := by unfold outT; split <;> rfl
  rw [dp36, fzL_cons, h1, Option.bind_some, fzL_cons, fzV_froz h2, Option.bind_some, fzL_nil, Option.bind_some, Option.bind_some, Option.bind_some]
  show (DCall pE 36 [outT bs.length (bs.flatMap bC), outT bs.length (bs.flatMap bC)] []).bind _ = _
  rw [same_ev _ _ bs (outT_rec bs) (outT_rec bs) hb]
  rfl
def ownV (z n : Nat) : T := if n = 0 then .nilsl else .isl .L z 1 0 n 3
def ownH (z n : Nat) (cs : List T) (lh : Tri Ent) : Tri Ent := if n = 0 then lh else setO lh z ⟨1, .cells cs 0 false⟩
theorem ownH_ne {z n j : Nat} {cs : List T} {lh : Tri Ent} (h : j ≠ z) : getO (ownH z n cs lh) j = getO lh j := by
  unfold ownH
  split
  · rfl
  · exact getO_ne _ _ h
theorem own_S {z n : Nat} {cs : List T} {lh : Tri Ent} (hL : cs.length = n * 3) : OwS (ownH z n cs lh) (ownV z n) z n cs := by
  unfold ownH ownV
  by_cases h : n = 0
  · rw [if_pos h, if_pos h]
    refine Or.inl ⟨h, rfl, ?_⟩
    subst h
    exact List.length_eq_zero_iff.1 (by omega)
  · rw [if_neg h, if_neg h]
    exact Or.inr ⟨h, rfl, getO_same _ _ _, hL⟩
theorem own_callE {f : Nat} (hdp : ∀ (z : Nat) (fr : Fr) (lh : Tri Ent) (sh : List Ent) (args : List T), doCall pE (DCall pE) z ⟨fr, lh, sh⟩ f args = (fzL lh sh false args).bind fun q => (DCall pE f q.1 []).bind fun r => ownRes z 0 r.1 ⟨fr, lh, sh⟩ q.2)
    {args args' : List T} {n : Nat} {cs : List T} {e : Int} (hD : DCall pE f args' [] = some (.tup [outT n cs, .i .i64 e], [])) (hs : cs.all scal1 = true) (hL : cs.length = n * 3) {lh : Tri Ent} {sh : List Ent} {us : List Up} (hz : fzL lh sh false args = some (args', us)) {z : Nat} (hO : getO lh z = noEnt) (fr : Fr) :
    doCall pE (DCall pE) z ⟨fr, lh, sh⟩ f args = some (.tup [ownV z n, .i .i64 e], ⟨fr, ownH z n cs lh, sh⟩) := by
  rw [hdp, hz, Option.bind_some]
  show (DCall pE f args' []).bind _ = _
  rw [hD, Option.bind_some]
  unfold ownV ownH
  by_cases h : n = 0
  · rw [if_pos h, if_pos h, outT_zero h]
    exact ownRes_nil2
  · rw [if_neg h, if_neg h, outT_pos h]
    have e1 : cs.length / n = 3 := by rw [hL]; exact Nat.mul_div_cancel_left _ (Nat.pos_of_ne_zero h)
    have := ownRes_sl2 (fr := fr) (lh := lh) (sh := sh) (d := z) (us := us) (ex := false) (kk := .i64) (e := e) hs (show cs.length / n * n = cs.length by rw [e1, hL, Nat.mul_comm])
    rw [hO, e1] at this
    exact this
theorem bC_scal (bs : List Br) : (bs.flatMap bC).all scal1 = true := all3 (fun _ => rfl) bs
def toL (p : Int × Int) : Br := ⟨false, p.1, p.2⟩
def toO (d : Int) : Br := ⟨true, 0, d⟩
theorem toL_cells (l : List (Int × Int)) : l.flatMap brT = (l.map toL).flatMap bC := by rw [List.flatMap_map]; rfl
end Go.Proofs.YtfenhjpkomldcaaGreat
