/- The reference's simplified form. Both Simplify. The built expressions: leaves. Conditions: the theorems' own. -/
import Derived.Test.YtfenhjpkomldcaaGreatM12
import Derived.KernelRfl
set_option maxRecDepth 100000
set_option linter.unusedSimpArgs false
set_option linter.unusedVariables false
set_option linter.unusedSectionVars false
set_option maxHeartbeats 16000000
namespace Go.Proofs.YtfenhjpkomldcaaGreat
open Go Go.Ev
theorem OutS_ex {lh : Tri Ent} {sh : List Ent} {v : T} {k n : Nat} {cs : List T} (h : OutS lh v k 4 n cs) (hn : n ≤ Lim) (c0 c1 c2 c3 : T) (ex : Bool) :
    appW lh sh k 4 56 v (.sl [c0, c1, c2, c3] 1 ex) = some (nxV lh sh k 4 56 v (.sl [c0, c1, c2, c3] 1 ex), nxH lh sh k 4 56 v (.sl [c0, c1, c2, c3] 1 ex)) ∧ OutS (nxH lh sh k 4 56 v (.sl [c0, c1, c2, c3] 1 ex)) (nxV lh sh k 4 56 v (.sl [c0, c1, c2, c3] 1 ex)) k 4 (n + 1) (cs ++ [c0, c1, c2, c3]) ∧ ∀ j, j ≠ k → getO (nxH lh sh k 4 56 v (.sl [c0, c1, c2, c3] 1 ex)) j = getO lh j :=
  OutS.appW h (m := 0) (by rw [slC_sl]; rfl) rfl (by unfold roomy; unfold Lim at hn; omega)
theorem wf_bd {x : Ex} (h : x.wf = true) : bd x.num := by
  obtain ⟨_, _, _, hnum, _⟩ := wf_node h
  unfold mostN at hnum
  unfold bd
  split at hnum
  · omega
  · split at hnum <;> omega
theorem wf_lit7 {x : Ex} (h : x.wf = true) : (x.op = 7 → 0 < x.args.length) ∧ (x.op = 7 → bd (arg0 x).num) := by
  obtain ⟨_, _, har, _, _, hwl⟩ := wf_node h
  have h1 : x.op = 7 → 0 < x.args.length := fun e => by rw [e] at har; simp [arOk] at har; omega
  refine ⟨h1, fun e => ?_⟩
  have := h1 e
  unfold arg0
  generalize x.args = l at this hwl
  cases l with
  | nil => simp at this
  | cons y ys => rw [wfL, Bool.and_eq_true] at hwl; exact wf_bd hwl.1
/-- The values of the literals among expressions. -/
def litVs (ys : List Ex) : List Int := (ys.filter isLit).map litV
theorem litVs_app (ys : List Ex) (y : Ex) : litVs (ys ++ [y]) = litVs ys ++ (if isLit y then [litV y] else []) := by
  unfold litVs
  rw [List.filter_append, List.map_append]
  cases h : isLit y <;> simp [h]
theorem litVs_le (ys : List Ex) : (litVs ys).length ≤ ys.length := by
  unfold litVs; rw [List.length_map]; exact List.length_filter_le _ _
theorem litVs_all {ys : List Ex} : (litVs ys).length = ys.length ↔ ys.all isLit = true := by
  unfold litVs; rw [List.length_map, List.length_filter_eq_length_iff, List.all_eq_true]
theorem litVs_map {ys : List Ex} (h : ys.all isLit = true) : litVs ys = ys.map litV := by
  unfold litVs; rw [List.filter_eq_self.2 (List.all_eq_true.1 h)]
/-- The objects behind freezing such a row. -/
def fzH (lh : Tri Ent) : T → Tri Ent
  | .isl .L k g _ _ _ => match getO lh k with | ⟨_, .cells cs _ _⟩ => setO lh k ⟨g, .cells cs cs.length false⟩ | _ => lh
  | _ => lh
theorem ups_fzU {fr : Fr} {lh lh' : Tri Ent} {sh : List Ent} {v : T} (h : lh' = lh) : (St.mk fr lh sh).ups (fzU lh' v) = ⟨fr, fzH lh v, sh⟩ := by
  subst h
  cases v with
  | isl sp k g off len sz =>
    cases sp with
    | S => rfl
    | L =>
      unfold fzU fzH
      simp only
      generalize getO lh' k = e
      obtain ⟨g', ob⟩ := e
      cases ob <;> rfl
  | _ => rfl
theorem getO_fzH {lh : Tri Ent} {v : T} {k sz n : Nat} {cs : List T} (h : OutS lh v k sz n cs) {j : Nat} (hj : j ≠ k) : getO (fzH lh v) j = getO lh j := by
  rcases h with ⟨_, rfl, _⟩ | ⟨g, wm, rfl, h2, _, _⟩
  · rfl
  · unfold fzH
    simp only [h2]
    exact getO_ne _ _ hj
/-- The cells of a row that was built by appending. -/
def outC (lh : Tri Ent) : T → List T
  | .isl .L k _ _ _ _ => rowC lh k
  | _ => []
/-- The last cell of an own record of four, a row that was built by appending. -/
theorem box_four {lh : Tri Ent} {k g wm q n : Nat} {bx : Bool} {c0 c1 c2 : T} {P : List T → Prop} (h : ∃ v, getO lh k = ⟨g, .cells [c0, c1, c2, v] wm bx⟩ ∧ ∃ ce, OutS lh v q 4 n ce ∧ P ce) :
    getO lh k = ⟨g, .cells [c0, c1, c2, boxC lh k 3] wm bx⟩ ∧ OutS lh (boxC lh k 3) q 4 n (outC lh (boxC lh k 3)) ∧ P (outC lh (boxC lh k 3)) := by
  obtain ⟨v, h1, ce, h2, h3⟩ := h
  have e : boxC lh k 3 = v := by rw [boxC_of h1]; rfl
  have e2 : outC lh v = ce := by
    rcases h2 with ⟨_, rfl, rfl⟩ | ⟨g', wm', rfl, h5, _, _⟩
    · rfl
    · unfold outC; exact rowC_of h5
  rw [e, e2]
  exact ⟨h1, h2, h3⟩
section
variable (l : Cs) (lT vT : T) (cl : List T) (hl : IsSl lT l.length cl) (hcl : IsCl l cl) (hlen : l.length ≤ Lim) (hsm : smC l) (hv : IsSl vT l.length (ints (vlC l l.length)))
def rfoldP (scope : Int) (y : Ex) : Prop := ∀ k cs, IsEx y cs → y.nodes ≤ 200 → y.depth ≤ 16 → y.sm → y.wf = true → y.ty (CLa l) scope = (k, 0) → ∃ cs', DCall pE 57 [vT, lT, .i .i64 scope, .agg cs] [] = some (.agg cs', []) ∧ IsEx (foldS l scope y) cs'
include hl hv
theorem rfold1 (scope : Int) (xs : List Ex) (ih : ∀ y ∈ xs, rfoldP l lT vT scope y) (a : T) (cc : List T) (ha : IsSl a xs.length cc) (hx : IsExs xs cc) (hn : nodesL xs ≤ 200) (hd : depthL xs ≤ 16) (hs : smL xs) (hwf : wfL xs = true) (ts : List Int) (hty : tyL (CLa l) scope xs = .ok ts) (op num : Int) (s : List Nat) (k14 : T) (g g16 : Nat) (c8 : Ent) (fr : Fr) (lh : Tri Ent) (sh : List Ent)
    (h0 : getF fr 0 = vT) (h1 : getF fr 1 = lT) (h2 : getF fr 2 = .i .i64 scope) (h7 : getF fr 7 = .ptr .L 7 g 0) (h8 : getF fr 8 = .ptr .L 8 1 0) (h14 : getF fr 14 = k14) (h16 : getF fr 16 = .ptr .L 16 g16 0) (h17 : getF fr 17 = .nilsl) (h18 : getF fr 18 = .i .i64 0) (o7 : getO lh 7 = ⟨g, .cells [.i .i64 op, .i .i64 num, .s s, a] 0 true⟩) (o8 : getO lh 8 = c8) (o16 : getO lh 16 = ⟨g16, .cells [.i .i64 op, .i .i64 0, .s [], .nilsl] 0 true⟩) :
    DC pE 118 (.loop c57_L1) ⟨fr, lh, sh⟩ = some (.ext 0, ⟨frL pE 118 c57_L1 fr lh sh, lhL pE 118 c57_L1 fr lh sh, shL pE 118 c57_L1 fr lh sh⟩) ∧
    (getO (lhL pE 118 c57_L1 fr lh sh) 8 = c8 ∧ OutS (lhL pE 118 c57_L1 fr lh sh) (getF (frL pE 118 c57_L1 fr lh sh) 17) 103 1 (litVs (foldSL l scope xs)).length (ints (litVs (foldSL l scope xs))) ∧
      (∃ v1, getO (lhL pE 118 c57_L1 fr lh sh) 16 = ⟨g16, .cells [.i .i64 op, .i .i64 0, .s [], v1] 0 true⟩ ∧ ∃ ce, OutS (lhL pE 118 c57_L1 fr lh sh) v1 92 4 xs.length ce ∧ IsExs (foldSL l scope xs) ce) ∧ shL pE 118 c57_L1 fr lh sh = sh) := by
  refine loop_rule (P := fun fr' lh' sh' => getO lh' 8 = c8 ∧ OutS lh' (getF fr' 17) 103 1 (litVs (foldSL l scope xs)).length (ints (litVs (foldSL l scope xs))) ∧
      (∃ v1, getO lh' 16 = ⟨g16, .cells [.i .i64 op, .i .i64 0, .s [], v1] 0 true⟩ ∧ ∃ ce, OutS lh' v1 92 4 xs.length ce ∧ IsExs (foldSL l scope xs) ce) ∧ sh' = sh)
    (loop_inv (fun k st => ∃ (fr : Fr) (lh1 : Tri Ent) (v1 : T) (ce : List T), st = ⟨fr, lh1, sh⟩ ∧ getF fr 0 = vT ∧ getF fr 1 = lT ∧ getF fr 2 = .i .i64 scope ∧ getF fr 7 = .ptr .L 7 g 0 ∧ getF fr 16 = .ptr .L 16 g16 0 ∧ getF fr 18 = .i .i64 (k : Int) ∧ getO lh1 7 = ⟨g, .cells [.i .i64 op, .i .i64 num, .s s, a] 0 true⟩ ∧ getO lh1 8 = c8 ∧ getO lh1 16 = ⟨g16, .cells [.i .i64 op, .i .i64 0, .s [], v1] 0 true⟩ ∧
      OutS lh1 v1 92 4 k ce ∧ IsExs (foldSL l scope (xs.take k)) ce ∧ OutS lh1 (getF fr 17) 103 1 (litVs (foldSL l scope (xs.take k))).length (ints (litVs (foldSL l scope (xs.take k))))) _ xs.length ?_ ?_ 0 _ (Nat.zero_le _) ⟨fr, lh, .nilsl, [], rfl, h0, h1, h2, h7, h16, h18, o7, o8, o16, OutS.nil, IsExs.nil, by rw [h17]; exact OutS.nil⟩)
  · rintro k _ hkx ⟨fr, lh1, v1, ce, rfl, h0, h1, h2, h7, h16, h18, o7, o8, o16, hO1, hce, hO2⟩
    left
    have hk' : (k : Int) < xs.length := by omega
    have hlen' := nodesL_len xs
    have hyk := nodesL_mem (List.getElem_mem hkx)
    have hdk := depthL_mem (List.getElem_mem hkx)
    have hw := wr_succL (k := k) (lim_of (by omega))
    obtain ⟨b, cb, rr, hia, hb1, hb2, hb⟩ := arg_at ha hx k hkx
    obtain ⟨t, ht⟩ := tyL_get hty k hkx
    obtain ⟨cf, hcall, hcf⟩ := ih xs[k] (List.getElem_mem hkx) t _ hb (by omega) (by omega) (smL_mem.1 hs _ (List.getElem_mem hkx)) (wfL_mem.1 hwf _ (List.getElem_mem hkx)) ht
    have hfk := foldS_ok l scope xs[k] (wfL_mem.1 hwf _ (List.getElem_mem hkx)) ht
    have hlit := rLit_ev (foldS l scope xs[k]) cf hcf (wf_lit7 hfk.1).1 (wf_lit7 hfk.1).2
    have hnx : foldSL l scope (xs.take (k + 1)) = foldSL l scope (xs.take k) ++ [foldS l scope xs[k]] := by
      rw [List.take_succ_eq_append_getElem hkx, foldSL_map, List.map_append, ← foldSL_map]; rfl
    rw [hnx, litVs_app]
    have hll := litVs_le (foldSL l scope (xs.take k))
    rw [foldSL_len, List.length_take] at hll
    generalize foldS l scope xs[k] = y at *
    obtain ⟨fa, fc, rfl, hf1, hf2⟩ := hcf.cells
    generalize hG : (getO lh1 19).g + 1 = G
    generalize hH : setO (setO lh1 19 ⟨G, .cells [.i .i64 0, .i .i64 0, .s [], .nilsl] 0 true⟩) 19 ⟨G, .cells [.i .i64 y.op, .i .i64 y.num, .s y.name, fa] 0 true⟩ = lh2
    have e7 : getO lh2 7 = ⟨g, .cells [.i .i64 op, .i .i64 num, .s s, a] 0 true⟩ := by rw [← hH, getO_ne _ _ (by decide), getO_ne _ _ (by decide), o7]
    have e8 : getO lh2 8 = c8 := by rw [← hH, getO_ne _ _ (by decide), getO_ne _ _ (by decide), o8]
    have e16 : getO lh2 16 = ⟨g16, .cells [.i .i64 op, .i .i64 0, .s [], v1] 0 true⟩ := by rw [← hH, getO_ne _ _ (by decide), getO_ne _ _ (by decide), o16]
    have e19 : getO lh2 19 = ⟨G, .cells [.i .i64 y.op, .i .i64 y.num, .s y.name, fa] 0 true⟩ := by rw [← hH, getO_same]
    have hP1 := hO1.congr (lh' := lh2) (by rw [← hH, getO_ne _ _ (by decide), getO_ne _ _ (by decide)])
    have hP2 := hO2.congr (lh' := lh2) (by rw [← hH, getO_ne _ _ (by decide), getO_ne _ _ (by decide)])
    have ha1 := OutS_ex hP1 (lim_of (by omega)) (sh := sh) (T.i .i64 y.op) (T.i .i64 y.num) (T.s y.name) fa true
    generalize hN1 : nxH lh2 sh 92 4 56 v1 (.sl [T.i .i64 y.op, T.i .i64 y.num, T.s y.name, fa] 1 true) = lh3 at ha1
    generalize hV1 : nxV lh2 sh 92 4 56 v1 (.sl [T.i .i64 y.op, T.i .i64 y.num, T.s y.name, fa] 1 true) = v1' at ha1
    obtain ⟨ha1a, ha1b, ha1c⟩ := ha1
    have f16 : getO lh3 16 = ⟨g16, .cells [.i .i64 op, .i .i64 0, .s [], v1] 0 true⟩ := by rw [ha1c 16 (by decide), e16]
    have f19 : getO lh3 19 = ⟨G, .cells [.i .i64 y.op, .i .i64 y.num, .s y.name, fa] 0 true⟩ := by rw [ha1c 19 (by decide), e19]
    generalize hH4 : setO lh3 16 ⟨g16, .cells [.i .i64 op, .i .i64 0, .s [], v1'] 0 true⟩ = lh4
    have i7 : getO lh4 7 = ⟨g, .cells [.i .i64 op, .i .i64 num, .s s, a] 0 true⟩ := by rw [← hH4, getO_ne _ _ (by decide), ha1c 7 (by decide), e7]
    have i8 : getO lh4 8 = c8 := by rw [← hH4, getO_ne _ _ (by decide), ha1c 8 (by decide), e8]
    have i16 : getO lh4 16 = ⟨g16, .cells [.i .i64 op, .i .i64 0, .s [], v1'] 0 true⟩ := by rw [← hH4, getO_same]
    have i19 : getO lh4 19 = ⟨G, .cells [.i .i64 y.op, .i .i64 y.num, .s y.name, fa] 0 true⟩ := by rw [← hH4, getO_ne _ _ (by decide), f19]
    have hQ1 := ha1b.congr (lh' := lh4) (by rw [← hH4, getO_ne _ _ (by decide)])
    have hQ2 := hP2.congr (lh' := lh4) (by rw [← hH4, getO_ne _ _ (by decide), ha1c 103 (by decide)])
    have hce' := IsExs.append hce (IsExs.one hcf)
    generalize h17 : getF fr 17 = v17 at hO2 hP2 hQ2
    cases hly : isLit y with
    | true =>
      rw [hly, if_pos rfl] at hlit
      generalize litV y = q at hlit ⊢
      have ha2 := OutS_one hQ2 (lim_of (by omega)) (sh := sh) (T.i .i64 q) true
      simp (maxDischargeDepth := 6) only [qF, qGO0, qGO1, qGO2, qGO3, qGO4, qGO5, bslV, bslW, splice, fills, repl, Nat.reduceAdd, reduceCtorEq, Nat.reduceLT, Nat.reduceLeDiff, Nat.reduceEqDiff, c57_L1, h0, h1, h2, h7, h16, h17, h18, o7, ha.lenI, hk', hia, hw, hcall, dc57, hb1.froz1, hv.froz, hl.froz, hf1.froz1, hG, hH, e16, e19, hP1.notS, ha1a, ha1b.cells, ha1b.noTup, f16, hH4, i19, hlit, dc107, hQ2.notS, ha2.1]
      refine ⟨_, rfl, _, _, v1', _, rfl, ?_, ?_, ?_, ?_, ?_, ?_, ?_, ?_, ?_, ?_, hce', ?_⟩
      all_goals first | (simp (maxDischargeDepth := 6) only [qGO2, qGO4, reduceCtorEq, Nat.reduceEqDiff, h0, h1, h2, h7, h16]; done) | skip
      · rw [ha2.2.2 7 (by decide), i7]
      · rw [ha2.2.2 8 (by decide), i8]
      · rw [ha2.2.2 16 (by decide), i16]
      · exact hQ1.congr (ha2.2.2 92 (by decide))
      · simp (maxDischargeDepth := 6) only [qGO2, qGO4, Nat.reduceEqDiff]
        rw [List.length_append, ints_app]
        exact ha2.2.1
    | false =>
      rw [hly] at hlit
      simp (maxDischargeDepth := 6) only [qF, qGO0, qGO1, qGO2, qGO3, qGO4, qGO5, bslV, bslW, splice, fills, repl, Nat.reduceAdd, reduceCtorEq, Nat.reduceLT, Nat.reduceLeDiff, Nat.reduceEqDiff, c57_L1, h0, h1, h2, h7, h16, h17, h18, o7, ha.lenI, hk', hia, hw, hcall, dc57, hb1.froz1, hv.froz, hl.froz, hf1.froz1, hG, hH, e16, e19, hP1.notS, ha1a, ha1b.cells, ha1b.noTup, f16, hH4, i19, hlit, dc107]
      refine ⟨_, rfl, _, _, v1', _, rfl, ?_, ?_, ?_, ?_, ?_, ?_, i7, i8, i16, hQ1, hce', ?_⟩
      all_goals first | (simp (maxDischargeDepth := 6) only [qGO2, qGO4, reduceCtorEq, Nat.reduceEqDiff, h0, h1, h2, h7, h16]; done) | skip
      simp (maxDischargeDepth := 6) only [qGO2, qGO4, Nat.reduceEqDiff, h17]
      exact hQ2
  · rintro _ ⟨fr, lh1, v1, ce, rfl, h0, h1, h2, h7, h16, h18, o7, o8, o16, hO1, hce, hO2⟩
    rw [List.take_length] at hO2 hce
    simp (maxDischargeDepth := 6) only [qGO0, qGO1, qGO2, qGO3, qGO4, qGO5, Nat.reduceLT, Nat.reduceEqDiff, c57_L1, h7, h18, o7, ha.lenI, Int.lt_irrefl]
    refine ⟨_, _, (by simp : Out.ext 0 ≠ .nrm), rfl, rfl, o8, ?_, ⟨v1, o16, ce, hO1, hce⟩, rfl⟩
    simp (maxDischargeDepth := 6) only [qGO2, qGO4, Nat.reduceEqDiff]
    exact hO2
include hcl hlen hsm
theorem rfold_ev (scope : Int) (x : Ex) : rfoldP l lT vT scope x := by
  induction x using Ex.ind with
  | h x ih =>
    intro k cs hx hn hd hs hwf ht
    obtain ⟨a, cc, rfl, ha, hxs⟩ := hx.cells
    obtain ⟨h1, h2, har, hnum, hname, hwl⟩ := wf_node hwf
    have hnd := x.nodes_eq
    have hdd := x.depth_eq
    rw [p_fun fn57 (by simp [c57])]
    by_cases h6 : x.op = 6
    · have hat := rattr_ev scope x.name
      unfold attrE at hat
      rw [Ex.ty_eq, if_pos h6] at ht
      by_cases hz : attrK scope x.name = 0
      · rw [if_neg (by simp [hz])] at ht
        rw [if_pos hz, hz] at hat
        obtain ⟨i, hil, hidx, hvv, hti, _, _, hin, hent, hvx⟩ := foldS_const ht
        have hci := cidx_ev l x.name lT cl hl hcl hlen
        rw [idxV_some hidx] at hci
        obtain ⟨b, cb, r, hia, hb1, hb2, hb⟩ := const_at hl hcl i hil
        obtain ⟨ex, rfl, hs1, hs2, hcll⟩ := cl_take l lT cl hil hl hcl
        obtain ⟨hsn, hss⟩ := hsm l[i] (List.getElem_mem hil)
        have hkl : i ≤ l.length := by omega
        have hlt : (l.take i).length = i := by rw [List.length_take, Nat.min_eq_left hkl]
        have hty := rtype_ev (l.take i) (.sl (List.take (i * 5) cl) i (ex && decide (i = l.length))) (cl.take (i * 5)) (by rw [hlt]; exact hs1) hs2 (by rw [hlt]; omega) (smC_take l hsm i) 0 l[i].2 _ hb hsn hss
        rw [typeS_take l hkl, ← entN_eq l hil, hent] at hty
        have e1 := fun kk => int_at (ts := vlC l l.length) (by rw [vlC_len]; exact hv) (k := i) (by rw [vlC_len]; exact hil) kk
        have e2 : VXa l x.name = (vlC l l.length)[i]'(by rw [vlC_len]; exact hil) := by
          rw [hvx]; simp [List.getD_eq_getElem?_getD, List.getElem?_eq_getElem (show i < (vlC l l.length).length by rw [vlC_len]; exact hil)]
        have hfold : foldS l scope x = litX k (VXa l x.name) := by
          unfold foldS
          rw [Ex.fold_eq, if_pos h6, if_neg (by simp [hz])]; unfold cxv; rw [ht]
        obtain ⟨c1, hlit, hc1⟩ := rlit_ev k (VXa l x.name) (inK_bd hin) (fun h4 => by rw [h4] at hin; exact inK_bit hin)
        rw [hfold]
        rw [← e2] at e1
        generalize VXa l x.name = w at *
        generalize litX k w = y at *
        obtain ⟨ca, cb', rfl, hq1, hq2⟩ := hc1.cells
        simp only at hty
        simp (maxDischargeDepth := 6) only [qF, qGO0, qGO1, qGO2, qGO3, qGO4, qGO5, slVV, subV, splice, optVal, Nat.reduceAdd, reduceCtorEq, Nat.reduceLT, Nat.reduceLeDiff, Nat.reduceEqDiff, Int.reduceEq, qDR0, c57, h6, hat, dc85, hci, dc105, hl.froz, hia, hkl, hcll, Nat.sub_zero, hty, dc56, dd56, hb1.froz1, e1, hlit, dc106, hq1.froz1]
        exact ⟨_, rfl, hc1⟩
      · rw [if_neg hz] at hat
        have hfold : foldS l scope x = x := by
          unfold foldS
          rw [Ex.fold_eq, if_pos h6, if_pos hz]
        rw [hfold]
        rw [h6] at hx
        simp (maxDischargeDepth := 6) only [qF, qGO0, qGO1, qGO2, qGO3, qGO4, qGO5, splice, Nat.reduceAdd, reduceCtorEq, Nat.reduceLT, Nat.reduceEqDiff, c57, h6, hat, dc85, ha.froz1]
        exact ⟨_, rfl, hx⟩
    · by_cases hlen0 : x.args.length = 0
      · have hfold : foldS l scope x = x := by
          unfold foldS
          rw [Ex.fold_eq, if_neg h6, if_pos (by simp [List.length_eq_zero_iff.1 hlen0])]
        rw [hfold]
        have hal := ha.lenI
        rw [hlen0] at hal
        simp (maxDischargeDepth := 6) only [qF, qGO0, qGO1, qGO2, qGO3, qGO4, qGO5, splice, Nat.reduceAdd, reduceCtorEq, Nat.reduceLT, Nat.reduceEqDiff, c57, h6, hal, ha.froz1]
        exact ⟨_, rfl, hx⟩
      · obtain ⟨ts, hts, hr, hk⟩ := ty_node ht h6
        have h7 := ar_pos h1 har hlen0
        have hll := nodesL_len x.args
        have hlim : x.args.length ≤ Lim := lim_of (by omega)
        have hsl := ((Ex.sm_eq x).1 hs).2
        have hty := rtype_ev l lT cl hl hcl hlen hsm scope x _ hx (by omega) hs
        have htS : typeS l scope x = (k, 0) := by
          unfold typeS
          rw [if_neg (by simp [validE_of hwf hn hd])]; exact ht
        rw [htS] at hty
        have hne' : ¬ (x.args.length : Int) = 0 := by omega
        have hys : FKs scope ts (foldSL l scope x.args) := foldL_FKs (cxv_ok (vxa_ok l)) scope hwl hts
        have hfl := foldSL_len l scope x.args
        have hfold : foldS l scope x = if (foldSL l scope x.args).all isLit then litX k (apS x.op ((foldSL l scope x.args).map litV)) else redX x.op (foldSL l scope x.args) := by
          unfold foldS
          rw [Ex.fold_eq, if_neg h6, if_neg (by simp; intro h; rw [h] at hlen0; exact hlen0 rfl), ht]
          rfl
        rw [hfold]
        have hL0 := fun fr lh sh h0 h1 h2 h7 h8 h14 h16 h17 h18 o7 o8 o16 => rfold1 l lT vT cl hl hv scope x.args (fun y hy => ih y hy) a cc ha hxs (by omega) (by omega) hsl hwl ts hts x.op x.num x.name (.i .i64 k) 1 1 ⟨1, .cells [.i .i64 0, .i .i64 0, .s [], .nilsl] 0 true⟩ fr lh sh h0 h1 h2 h7 h8 h14 h16 h17 h18 o7 o8 o16
        have hL := fun fr lh sh h0 h1 h2 h7 h8 h14 h16 h17 h18 o7 o8 o16 => And.intro (hL0 fr lh sh h0 h1 h2 h7 h8 h14 h16 h17 h18 o7 o8 o16).1 (And.intro (hL0 fr lh sh h0 h1 h2 h7 h8 h14 h16 h17 h18 o7 o8 o16).2.1 (And.intro (box_four (hL0 fr lh sh h0 h1 h2 h7 h8 h14 h16 h17 h18 o7 o8 o16).2.2.2.1).1 (hL0 fr lh sh h0 h1 h2 h7 h8 h14 h16 h17 h18 o7 o8 o16).2.2.2.2))
        have hV := fun fr lh sh h0 h1 h2 h7 h8 h14 h16 h17 h18 o7 o8 o16 => (hL0 fr lh sh h0 h1 h2 h7 h8 h14 h16 h17 h18 o7 o8 o16).2.2.1
        have hA := fun fr lh sh h0 h1 h2 h7 h8 h14 h16 h17 h18 o7 o8 o16 => (box_four (hL0 fr lh sh h0 h1 h2 h7 h8 h14 h16 h17 h18 o7 o8 o16).2.2.2.1).2
        have hVlen := fun fr lh sh h0 h1 h2 h7 h8 h14 h16 h17 h18 o7 o8 o16 => (hV fr lh sh h0 h1 h2 h7 h8 h14 h16 h17 h18 o7 o8 o16).lenI
        have hAlen := fun fr lh sh h0 h1 h2 h7 h8 h14 h16 h17 h18 o7 o8 o16 => (hA fr lh sh h0 h1 h2 h7 h8 h14 h16 h17 h18 o7 o8 o16).1.lenI
        cases hall : (foldSL l scope x.args).all isLit with
        | true =>
          rw [if_pos rfl]
          have hlv := litVs_map hall
          have hin := (lits hys hall).1
          have hap := ap_ok hin h7 h2 (by rw [hys.len, hfl]; exact har) hr hk
          have hvl : (litVs (foldSL l scope x.args)).length = x.args.length := by rw [litVs_all.2 hall, hfl]
          rw [← hlv] at hap ⊢
          have happ := rapply_ev x.op 0 (litVs (foldSL l scope x.args)) (outT x.args.length (ints (litVs (foldSL l scope x.args)))) (by rw [hvl]; exact outT_isl (fun h0 => absurd h0 hlen0)) (by rw [hvl]; exact hlim) h7 h2 (by rw [hvl]; exact har) hap.1
          obtain ⟨c1, hlit, hc1⟩ := rlit_ev k (apS x.op (litVs (foldSL l scope x.args))) (inK_bd hap.2) (fun h4 => by have := hap.2; rw [h4] at this; exact inK_bit this)
          have hfz := fun keep sh' fr lh sh h0 h1 h2 h7 h8 h14 h16 h17 h18 o7 o8 o16 => OutS.fzV (keep := keep) (sh := sh') (hV fr lh sh h0 h1 h2 h7 h8 h14 h16 h17 h18 o7 o8 o16)
          rw [hvl] at hVlen hfz
          generalize apS x.op (litVs (foldSL l scope x.args)) = w at *
          generalize litX k w = y at *
          obtain ⟨ca, cb', rfl, hq1, hq2⟩ := hc1.cells
          simp (maxDischargeDepth := 6) only [qF, qGO0, qGO1, qGO2, qGO3, qGO4, qGO5, Nat.reduceShiftRight, Nat.reduceMod, buildV, splice, fills, Nat.reduceAdd, reduceCtorEq, Nat.reduceLT, Nat.reduceLeDiff, Nat.reduceEqDiff, c57, c57_L1_w, h6, ha.lenI, hne', hty, dc56, hl.froz, ha.froz1, hL, hVlen, hAlen, hfz, happ, dp108, hlit, dc106, hq1.froz1, qUP0]
          exact ⟨_, rfl, hc1⟩
        | false =>
          rw [if_neg (by simp)]
          have hvl : ¬ ((litVs (foldSL l scope x.args)).length : Int) = (x.args.length : Int) := by
            intro h
            have h' : (litVs (foldSL l scope x.args)).length = (foldSL l scope x.args).length := by rw [hfl]; omega
            rw [litVs_all.1 h'] at hall; cases hall
          have hfz := fun m keep sh' fr lh sh h0 h1 h2 h7 h8 h14 h16 h17 h18 o7 o8 o16 => OutS.fzW (m := m) (keep := keep) (sh := sh') (hA fr lh sh h0 h1 h2 h7 h8 h14 h16 h17 h18 o7 o8 o16).1
          simp (maxDischargeDepth := 6) only [qF, qGO0, qGO1, qGO2, qGO3, qGO4, qGO5, Nat.reduceShiftRight, Nat.reduceMod, buildV, splice, fills, Nat.reduceAdd, reduceCtorEq, Nat.reduceLT, Nat.reduceLeDiff, Nat.reduceEqDiff, c57, c57_L1_w, h6, ha.lenI, hne', hty, dc56, hl.froz, ha.froz1, hL, hVlen, hAlen, hvl, hfz, dp109]
          generalize hX : outC _ _ = X
          have hXF : IsExs (foldSL l scope x.args) X := by
            rw [← hX]
            refine (hA _ _ _ ?_ ?_ ?_ ?_ ?_ ?_ ?_ ?_ ?_ ?_ ?_ ?_).2 <;> simp (maxDischargeDepth := 6) only [qGO2, qGO4, reduceCtorEq, Nat.reduceEqDiff]
          have hgz := fun j hj fr lh sh h0 h1 h2 h7 h8 h14 h16 h17 h18 o7 o8 o16 => getO_fzH (j := j) (hA fr lh sh h0 h1 h2 h7 h8 h14 h16 h17 h18 o7 o8 o16).1 hj
          obtain ⟨c1, hcall, hc1⟩ := rred_ev hys.wf h7 h2 (by rw [hfl]; exact har) (outT x.args.length X) X (by rw [hfl]; exact outT_isl (fun h0 => absurd h0 hlen0)) hXF
          generalize redX x.op (foldSL l scope x.args) = y at *
          obtain ⟨ca, cb', rfl, hq1, hq2⟩ := hc1.cells
          simp (maxDischargeDepth := 6) only [qF, qGO0, qGO1, qGO2, qGO3, qGO4, qGO5, Nat.reduceShiftRight, Nat.reduceMod, splice, Nat.reduceAdd, reduceCtorEq, Nat.reduceEqDiff, c57_L1_w, hL, hcall, ups_fzU, hgz, hq1.froz1, qUP0]
          exact ⟨_, rfl, hc1⟩
end
end Go.Proofs.YtfenhjpkomldcaaGreat
namespace Go.Proofs.YtfenhjpkomldcaaGreat
open Go Go.Ev
def newK (r : Option (T × List Ent)) : Bool := match r with | some (.vp cs, _) => froz (.vp cs) | _ => false
theorem nc_ok : newK (callK pE 60 53 [.nilsl] []) = true := by kernel_rfl
theorem nc_ev : ∃ cs s, DCall pE 53 [.nilsl] [] = some (.vp cs, s) ∧ froz (.vp cs) = true := by
  have h := nc_ok
  unfold newK at h
  split at h
  · rename_i cs s e
    exact ⟨cs, s, dcall_of (by_callK e), h⟩
  · cases h
/-- The simplified form, or the error. -/
def simS (l : Cs) (scope : Int) (x : Ex) : Ex × Int := if (typeS l scope x).2 ≠ 0 then (leafX 0 0, (typeS l scope x).2) else if validE (foldS l scope x) ≠ 0 then (leafX 0 0, 10) else (foldS l scope x, 0)
theorem smNew (lT kT : T) : smS lT kT [] = [⟨1, .map [] [] false⟩, ⟨1, .cells [lT, .mp .S 0 1, kT] 0 true⟩] := rfl
theorem type_ok {l : Cs} {scope : Int} {x : Ex} (h : (typeS l scope x).2 = 0) : validE x = 0 ∧ x.ty (CLa l) scope = ((typeS l scope x).1, 0) := by
  unfold typeS at h ⊢
  by_cases hv : validE x ≠ 0
  · rw [if_pos hv] at h; exact absurd h hv
  · rw [if_neg hv] at h ⊢
    exact ⟨by simpa using hv, Prod.ext rfl h⟩
theorem simS_fold {l : Cs} {scope : Int} {x : Ex} (h : (typeS l scope x).2 = 0) (hs : x.sm) : FK scope (typeS l scope x).1 (foldS l scope x) ∧ (foldS l scope x).nodes ≤ 400 ∧ (foldS l scope x).sm ∧ (validE (foldS l scope x) = 0 ∨ validE (foldS l scope x) = 10) := by
  obtain ⟨hv, ht⟩ := type_ok h
  have hk := foldS_ok l scope x (valid_wf hv) ht
  have hn := foldS_nodes l scope x
  have hz := (valid_size hv).1
  refine ⟨hk, by omega, foldS_sm l scope x hs, ?_⟩
  unfold validE
  by_cases hb : big (foldS l scope x)
  · rw [if_pos hb]; exact .inr rfl
  · rw [if_neg hb, if_pos hk.1]; exact .inl rfl
section
variable (l : Cs) (lT : T) (cl : List T) (hl : IsSl lT l.length cl) (hcl : IsCl l cl) (hlen : l.length ≤ Lim) (hsm : smC l)
include hl hcl hlen hsm
theorem psim_ev (scope : Int) (x : Ex) (cs : List T) (hx : IsEx x cs) (hn : x.nodes < 100000) (hs : x.sm) : ∃ c1 s, DCall pE 16 [lT, .i .i64 scope, .agg cs] [] = some (.tup [.agg c1, .i .i64 (simS l scope x).2], s) ∧ IsEx (simS l scope x).1 c1 := by
  obtain ⟨s0, hty⟩ := ptype_ev l lT cl hl hcl hlen hsm scope x cs hx hn hs
  rw [p_fun fn16 (by simp [c16])]
  unfold simS
  obtain ⟨a, cc, rfl, ha, hxs⟩ := hx.cells
  by_cases h0 : (typeS l scope x).2 = 0
  · rw [if_neg (by simp [h0])]
    obtain ⟨hv, ht⟩ := type_ok h0
    obtain ⟨hfk, hfn, hfs, hval⟩ := simS_fold h0 hs
    obtain ⟨kc, s1, hnc, hkf⟩ := nc_ev
    rw [← CL_all] at ht
    obtain ⟨c1, m', hcall, hc1, _, _, _⟩ := simp_ev l lT (.vp kc) hkf l.length (Nat.le_refl _) (pcst_ev l lT (.vp kc) cl hl hcl hlen hsm hkf) scope x _ [] _ (fun s cs h => by cases h) hx (valid_size hv).1 (valid_wf hv) ht
    rw [smNew] at hcall
    have hpv := fun z fr lh sh => pvalid_do (z := z) (fr := fr) (lh := lh) (sh := sh) (foldS l scope x) c1 hc1 (by omega) hfs
    rw [h0] at hty
    generalize (typeS l scope x).1 = k at hty
    generalize hy : foldS l scope x = y at *
    obtain ⟨ca, cb, rfl, hq1, hq2⟩ := hc1.cells
    have hst := fun lh => stV_SK (lh := lh) (sh := [⟨1, .map [] [] false⟩, ⟨1, .cells [.nilsl, .nilmp, .nilptr] 0 true⟩]) (k := 1) (g := 1) (g' := 1) (off := 0) (m := 3) (wm := 0) (v := .agg [lT, .mp .S 0 1, .vp kc]) (by simp [kept_agg, hl.kept1, kept1_mp, kept1_vp]) rfl
    rcases hval with hval | hval
    · rw [if_neg (by simp [hval])]
      rw [hval] at hpv
      simp (maxDischargeDepth := 6) only [qF, qGO0, qGO1, qGO2, qGO3, qGO4, qGO5, buildV, splice, fills, Nat.reduceAdd, reduceCtorEq, Nat.reduceLT, Nat.reduceLeDiff, Nat.reduceEqDiff, Int.reduceEq, qSH0, qKP0, c16, hty, dc52, hl.froz, hl.cells, hl.noTup, ha.froz1, ha.kept1, hnc, dc53, hcall, dc54, hq1.froz1, hpv, hst]
      exact ⟨_, _, rfl, hc1⟩
    · rw [if_pos (by simp [hval])]
      rw [hval] at hpv
      simp (maxDischargeDepth := 6) only [qF, qGO0, qGO1, qGO2, qGO3, qGO4, qGO5, buildV, splice, fills, Nat.reduceAdd, reduceCtorEq, Nat.reduceLT, Nat.reduceLeDiff, Nat.reduceEqDiff, qSH0, qKP0, c16, hty, dc52, hl.froz, hl.cells, hl.noTup, ha.froz1, ha.kept1, hnc, dc53, hcall, dc54, hpv, hst]
      exact ⟨_, _, rfl, leaf_is _ _ _ nil_is⟩
  · rw [if_pos h0]
    generalize (typeS l scope x).1 = k at hty
    generalize (typeS l scope x).2 = e at *
    simp (maxDischargeDepth := 6) only [qF, qGO0, qGO1, qGO2, qGO3, qGO4, qGO5, buildV, splice, fills, Nat.reduceAdd, reduceCtorEq, Nat.reduceLT, Nat.reduceEqDiff, c16, hty, dc52, hl.froz, ha.froz1, h0]
    exact ⟨_, _, rfl, leaf_is _ _ _ nil_is⟩
theorem rsim_ev (scope : Int) (x : Ex) (cs : List T) (hx : IsEx x cs) (hn : x.nodes < 100000) (hs : x.sm) : ∃ c1, DCall pE 18 [lT, .i .i64 scope, .agg cs] [] = some (.tup [.agg c1, .i .i64 (simS l scope x).2], []) ∧ IsEx (simS l scope x).1 c1 := by
  have hty := rtype_ev l lT cl hl hcl hlen hsm scope x cs hx hn hs
  rw [p_fun fn18 (by simp [c18])]
  unfold simS
  obtain ⟨a, cc, rfl, ha, hxs⟩ := hx.cells
  by_cases h0 : (typeS l scope x).2 = 0
  · rw [if_neg (by simp [h0])]
    obtain ⟨hv, ht⟩ := type_ok h0
    obtain ⟨hfk, hfn, hfs, hval⟩ := simS_fold h0 hs
    have hcon := consts_ev l lT cl hl hcl hlen hsm
    have hO : IsSl (outT l.length (ints (vlC l l.length))) l.length (ints (vlC l l.length)) := outT_isl fun h0 => by rw [h0]; rfl
    obtain ⟨c1, hcall, hc1⟩ := rfold_ev l lT (outT l.length (ints (vlC l l.length))) cl hl hcl hlen hsm hO scope x _ _ hx (valid_size hv).1 (valid_size hv).2 hs (valid_wf hv) ht
    have hpv := rvalid_ev (foldS l scope x) c1 hc1 hfs
    rw [h0] at hty
    generalize (typeS l scope x).1 = k at hty
    generalize hy : foldS l scope x = y at *
    obtain ⟨ca, cb, rfl, hq1, hq2⟩ := hc1.cells
    rcases hval with hval | hval
    · rw [if_neg (by simp [hval])]
      rw [hval] at hpv
      simp (maxDischargeDepth := 6) only [qF, qGO0, qGO1, qGO2, qGO3, qGO4, qGO5, buildV, splice, fills, Nat.reduceAdd, reduceCtorEq, Nat.reduceLT, Nat.reduceEqDiff, qDR0, qDR1, getL, c18, hty, dc56, hl.froz, ha.froz1, hcon, dc58, dd58, hcall, dc57, dd57, hO.froz, hq1.froz1, hpv, dc59]
      exact ⟨_, rfl, hc1⟩
    · rw [if_pos (by simp [hval])]
      rw [hval] at hpv
      simp (maxDischargeDepth := 6) only [qF, qGO0, qGO1, qGO2, qGO3, qGO4, qGO5, buildV, splice, fills, Nat.reduceAdd, reduceCtorEq, Nat.reduceLT, Nat.reduceEqDiff, Int.reduceEq, qDR0, qDR1, getL, c18, hty, dc56, hl.froz, ha.froz1, hcon, dc58, dd58, hcall, dc57, dd57, hO.froz, hq1.froz1, hpv, dc59]
      exact ⟨_, rfl, leaf_is _ _ _ nil_is⟩
  · rw [if_pos h0]
    generalize (typeS l scope x).1 = k at hty
    generalize (typeS l scope x).2 = e at *
    simp (maxDischargeDepth := 6) only [qF, qGO0, qGO1, qGO2, qGO3, qGO4, qGO5, buildV, splice, fills, Nat.reduceAdd, reduceCtorEq, Nat.reduceLT, Nat.reduceEqDiff, c18, hty, dc56, hl.froz, ha.froz1, h0]
    exact ⟨_, rfl, leaf_is _ _ _ nil_is⟩
end
theorem awake_ev : ∃ s, DCall pE 20 [] [] = some (.b true, s) := dval_of (m := 100) (v := .b true) (by rw [← callK_eq]; kernel_rfl)
end Go.Proofs.YtfenhjpkomldcaaGreat
namespace Go.Proofs.YtfenhjpkomldcaaGreat
open Go Go.Ev
/-- A number of a list of numbers. -/
def atV (xs : List Int) (i : Nat) : Int := if xs.length = 0 then (i : Int) % 65536 else xs.getD (i % xs.length) 0 % 65536 + ((i / xs.length : Nat) : Int)
theorem atV_nn (xs : List Int) (i : Nat) : 0 ≤ atV xs i := by
  unfold atV; split
  · omega
  · have : (0 : Int) ≤ ((i / xs.length : Nat) : Int) := Int.natCast_nonneg _
    omega
theorem at_ev (l : T) (xs : List Int) (hl : IsSl l xs.length (ints xs)) (i : Nat) (hi : i < 1000000) : DCall pE 86 [l, .i .i64 (i : Int)] [] = some (.i .i64 (atV xs i), []) := by
  rw [p_fun fn86 (by simp [c86])]
  by_cases h : xs.length = 0
  · have h' : ((xs.length : Nat) : Int) = 0 := by omega
    have ha : atV xs i = (i : Int) % 65536 := by unfold atV; rw [if_pos h]
    simp (maxDischargeDepth := 6) only [qF, qGO0, qGO1, qGO2, qGO3, qGO4, reduceCtorEq, Nat.reduceLT, Nat.reduceEqDiff, c86, hl.lenI, h', ha]
  · have h' : ¬ ((xs.length : Nat) : Int) = 0 := by omega
    have hlt : i % xs.length < xs.length := Nat.mod_lt _ (by omega)
    have ha : atV xs i = xs[i % xs.length] % 65536 + ((i / xs.length : Nat) : Int) := by
      unfold atV; rw [if_neg h]; simp [List.getD_eq_getElem?_getD, hlt]
    have e1 : ((i : Int)).tmod (xs.length : Int) = ((i % xs.length : Nat) : Int) := by rw [tmod_nn (Int.natCast_nonneg i)]; exact (Int.natCast_emod i xs.length).symm
    have e2 : ((i : Int)).tdiv (xs.length : Int) = ((i / xs.length : Nat) : Int) := by rw [Int.tdiv_eq_ediv_of_nonneg (Int.natCast_nonneg i)]; exact (Int.natCast_ediv i xs.length).symm
    have hdl : i / xs.length ≤ i := Nat.div_le_self _ _
    have hdn : 0 ≤ ((i / xs.length : Nat) : Int) := Int.natCast_nonneg _
    have hdl' : ((i / xs.length : Nat) : Int) ≤ (i : Int) := Int.ofNat_le.2 hdl
    have hi' : (i : Int) < 1000000 := by omega
    generalize ((i / xs.length : Nat) : Int) = q at *
    have w1 : wr .i64 q = q := wr64 (by omega)
    have w2 : wr .i64 (xs[i % xs.length] % 65536 + q) = xs[i % xs.length] % 65536 + q := wr64 (by omega)
    have hia := int_at hl hlt
    simp (maxDischargeDepth := 6) only [qF, qGO0, qGO1, qGO2, qGO3, qGO4, qGO5, backD, calmOp, Nat.reduceAdd, reduceCtorEq, Nat.reduceLT, Nat.reduceEqDiff, c86, hl.lenI, h', e1, e2, hia, w1, w2, ha]
/-- The source of numbers. -/
def srS (lT : T) (a : Nat) : List Ent := [⟨1, .cells [lT, .i .i64 (a : Int)] 0 true⟩]
theorem sr0 (lT : T) (a : Nat) : getE (srS lT a) 0 = ⟨1, .cells [lT, .i .i64 (a : Int)] 0 true⟩ := nr rfl
theorem sr0s (lT : T) (a b : Nat) : setE (srS lT a) 0 ⟨1, .cells [lT, .i .i64 (b : Int)] 0 true⟩ = srS lT b := nr rfl
section
variable (xs : List Int) (lT : T) (hl : IsSl lT xs.length (ints xs))
include hl
theorem next_ev (a : Nat) (ha : a < 999998) (n : Int) (hn : 0 < n) : ∃ r : Nat, (r : Int) < n ∧ DCall pE 93 [.ptr .S 0 1 0, .i .i64 n] (srS lT a) = some (.i .i64 (r : Int), srS lT (a + 1)) := by
  have hat := at_ev lT xs hl (a + 1) (by omega)
  have h0 := atV_nn xs (a + 1)
  have hm := Int.emod_nonneg (atV xs (a + 1)) (show n ≠ 0 by omega)
  have hlt := Int.emod_lt_of_pos (atV xs (a + 1)) hn
  refine ⟨(atV xs (a + 1) % n).toNat, by rw [Int.toNat_of_nonneg hm]; exact hlt, ?_⟩
  have e1 : (atV xs (a + 1)).tmod n = ((atV xs (a + 1) % n).toNat : Int) := by rw [tmod_nn h0, Int.toNat_of_nonneg hm]
  have hw : wr .i64 ((a : Int) + 1) = ((a + 1 : Nat) : Int) := wr_succL (k := a) (by unfold Lim; omega)
  have hn0 : ¬ n = 0 := by omega
  rw [p_fun fn93 (by simp [c93])]
  simp (maxDischargeDepth := 6) only [qF, qGO0, qGO1, qGO2, qGO3, qGO4, qGO5, splice, Nat.reduceAdd, reduceCtorEq, Nat.reduceLT, Nat.reduceEqDiff, qDR0, getL, qSH0, c93, sr0, sr0s, hw, hat, dc86, dd86, hl.froz, hn0, e1]
end
/-- Strings of a bounded length. -/
def strsOk (cs : List T) : Option (List (List Nat)) := match cs with
  | [] => some []
  | .s n :: cs => if n.length ≤ 100 then (strsOk cs).map (n :: ·) else none
  | _ => none
theorem strsOk_map : ∀ {cs : List T} {ns : List (List Nat)}, strsOk cs = some ns → cs = ns.map T.s ∧ ∀ n ∈ ns, n.length ≤ 100
  | [], ns, h => by simp [strsOk] at h; subst h; exact ⟨rfl, by simp⟩
  | c :: cs, ns, h => by
    cases c with
    | s n =>
      rw [strsOk] at h
      split at h
      · rename_i hn
        cases hq : strsOk cs with
        | none => rw [hq] at h; cases h
        | some ms =>
          rw [hq] at h
          simp only [Option.map_some, Option.some.injEq] at h
          subst h
          obtain ⟨h1, h2⟩ := strsOk_map hq
          exact ⟨by rw [h1]; rfl, by intro m hm; rcases List.mem_cons.1 hm with rfl | hm; exact hn; exact h2 m hm⟩
      · cases h
    | _ => simp [strsOk] at h
def attrsOk (r : Option (T × List Ent)) : Bool := match r with | some (.sl cs n _, _) => (strsOk cs).isSome && decide (cs.length = n) && decide (n ≤ 100) | _ => false
theorem attrs1 : attrsOk (callK pE 60 84 [.i .i64 1] []) = true := by kernel_rfl
theorem attrs2 : attrsOk (callK pE 60 84 [.i .i64 2] []) = true := by kernel_rfl
theorem attrs3 : attrsOk (callK pE 60 84 [.i .i64 3] []) = true := by kernel_rfl
theorem attrs_ev (scope : Int) (hs : scope = 1 ∨ scope = 2 ∨ scope = 3) : ∃ (ns : List (List Nat)) (a : T) (s : List Ent), DCall pE 84 [.i .i64 scope] [] = some (a, s) ∧ IsSl a ns.length (ns.map T.s) ∧ ns.length ≤ 100 ∧ ∀ n ∈ ns, n.length ≤ 100 := by
  have key : attrsOk (callK pE 60 84 [.i .i64 scope] []) = true := by
    rcases hs with rfl | rfl | rfl
    · exact attrs1
    · exact attrs2
    · exact attrs3
  unfold attrsOk at key
  split at key
  · rename_i cs n ex s e
    simp only [Bool.and_eq_true, decide_eq_true_eq, Option.isSome_iff_exists] at key
    obtain ⟨⟨⟨ns, h1⟩, h2⟩, h3⟩ := key
    obtain ⟨h4, h5⟩ := strsOk_map h1
    have hlen : n = ns.length := by rw [← h2, h4, List.length_map]
    subst hlen
    refine ⟨ns, .sl cs ns.length ex, s, dcall_of (by_callK e), Or.inr ⟨ex, by rw [h4]⟩, h3, h5⟩
  · cases key
/-- The generation and the mark of an own object. -/
def entG (lh : Tri Ent) (k : Nat) : Nat := (getO lh k).g
def wmC (lh : Tri Ent) (k : Nat) : Nat := match (getO lh k).ob with | .cells _ w _ => w | _ => 0
theorem outS_names {lh : Tri Ent} {v : T} {k sz n : Nat} {cs : List T} (h : OutS lh v k sz n cs) (hn : n ≠ 0) : v = .isl .L k (entG lh k) 0 n sz ∧ getO lh k = ⟨entG lh k, .cells cs (wmC lh k) false⟩ := by
  rcases h with ⟨rfl, _, _⟩ | ⟨g, wm, rfl, h2, h3, h4⟩
  · exact absurd rfl hn
  · unfold entG wmC; rw [h2]; exact ⟨rfl, rfl⟩
theorem str_at {a : T} {ns : List (List Nat)} (ha : IsSl a ns.length (ns.map T.s)) {k : Nat} (hk : k < ns.length) (kk : IntKind) : iaV a (.i kk (k : Int)) 1 = some (.vp (T.s ns[k] :: (ns.map T.s).drop (k + 1))) := by
  rw [ha.ia (sz := 1) (by rw [List.length_map]; omega) hk, Nat.mul_one, List.drop_eq_getElem_cons (by rw [List.length_map]; exact hk), List.getElem_map]
/-- The names of a type. -/
def nmsK (scope kind : Int) (ns : List (List Nat)) : List (List Nat) := ns.filter fun s => decide (attrK scope s = kind)
theorem OutS_str {lh : Tri Ent} {sh : List Ent} {v : T} {k n : Nat} {cs : List T} (h : OutS lh v k 1 n cs) (hn : n ≤ Lim) (x : T) (ex : Bool) :
    appW lh sh k 1 16 v (.sl [x] 1 ex) = some (nxV lh sh k 1 16 v (.sl [x] 1 ex), nxH lh sh k 1 16 v (.sl [x] 1 ex)) ∧ OutS (nxH lh sh k 1 16 v (.sl [x] 1 ex)) (nxV lh sh k 1 16 v (.sl [x] 1 ex)) k 1 (n + 1) (cs ++ [x]) ∧ ∀ j, j ≠ k → getO (nxH lh sh k 1 16 v (.sl [x] 1 ex)) j = getO lh j :=
  OutS.appW h (m := 0) (by rw [slC_sl]; rfl) rfl (by unfold roomy; unfold Lim at hn; omega)
theorem leaf1 (scope kind : Int) (ns : List (List Nat)) (A : T) (hA : IsSl A ns.length (ns.map T.s)) (hn : ns.length ≤ 100) (c6 : Ent) (fr : Fr) (lh : Tri Ent) (sh : List Ent)
    (h1 : getF fr 1 = .i .i64 scope) (h2 : getF fr 2 = .i .i64 kind) (h7 : getF fr 7 = .nilsl) (h8 : getF fr 8 = A) (h9 : getF fr 9 = .i .i64 0) (o6 : getO lh 6 = c6) :
    DC pE 92 (.loop c94_L1) ⟨fr, lh, sh⟩ = some (.ext 0, ⟨frL pE 92 c94_L1 fr lh sh, lhL pE 92 c94_L1 fr lh sh, shL pE 92 c94_L1 fr lh sh⟩) ∧
    (OutS (lhL pE 92 c94_L1 fr lh sh) (getF (frL pE 92 c94_L1 fr lh sh) 7) 41 1 (nmsK scope kind ns).length ((nmsK scope kind ns).map T.s) ∧ getO (lhL pE 92 c94_L1 fr lh sh) 6 = c6 ∧ shL pE 92 c94_L1 fr lh sh = sh) := by
  refine loop_rule (P := fun fr' lh' sh' => OutS lh' (getF fr' 7) 41 1 (nmsK scope kind ns).length ((nmsK scope kind ns).map T.s) ∧ getO lh' 6 = c6 ∧ sh' = sh)
    (loop_inv (fun k st => ∃ (fr : Fr) (lh1 : Tri Ent), st = ⟨fr, lh1, sh⟩ ∧ getF fr 1 = .i .i64 scope ∧ getF fr 2 = .i .i64 kind ∧ getF fr 8 = A ∧ getF fr 9 = .i .i64 (k : Int) ∧ getO lh1 6 = c6 ∧ OutS lh1 (getF fr 7) 41 1 (nmsK scope kind (ns.take k)).length ((nmsK scope kind (ns.take k)).map T.s)) _ ns.length ?_ ?_ 0 _ (Nat.zero_le _) ⟨fr, lh, rfl, h1, h2, h8, h9, o6, by rw [h7]; exact OutS.nil⟩)
  · rintro k _ hkx ⟨fr, lh1, rfl, h1, h2, h8, h9, o6, hO⟩
    left
    have hk' : (k : Int) < ns.length := by omega
    have hw := wr_succL (k := k) (lim_of (by omega))
    have hia := str_at hA hkx
    have hat := rattr_ev scope ns[k]
    have hnx : nmsK scope kind (ns.take (k + 1)) = nmsK scope kind (ns.take k) ++ (if attrK scope ns[k] = kind then [ns[k]] else []) := by
      unfold nmsK
      have e : List.filter (fun s => decide (attrK scope s = kind)) [ns[k]] = if attrK scope ns[k] = kind then [ns[k]] else [] := by
        by_cases h : attrK scope ns[k] = kind
        · rw [if_pos h, List.filter_cons, decide_eq_true h]; rfl
        · rw [if_neg h, List.filter_cons, decide_eq_false h]; rfl
      rw [List.take_succ_eq_append_getElem hkx, List.filter_append, e]
    have hlen : (nmsK scope kind (ns.take k)).length ≤ 100 := by
      have := List.length_filter_le (fun s => decide (attrK scope s = kind)) (ns.take k)
      rw [List.length_take] at this
      unfold nmsK; omega
    rw [hnx]
    generalize h7 : getF fr 7 = v7 at hO
    by_cases hq : attrK scope ns[k] = kind
    · rw [if_pos hq]
      have hap := OutS_str hO (lim_of (by omega)) (sh := sh) (T.s ns[k]) true
      rw [hq] at hat
      simp (maxDischargeDepth := 6) only [qF, qGO0, qGO1, qGO2, qGO3, qGO4, qGO5, bslV, bslW, splice, fills, repl, Nat.reduceLT, Nat.reduceEqDiff, c94_L1, h1, h2, h7, h8, h9, hA.lenI, hk', hia, hw, hat, dc85, hO.notS, hap.1]
      refine ⟨_, rfl, _, _, rfl, ?_, ?_, ?_, ?_, ?_, ?_⟩
      all_goals first | (simp (maxDischargeDepth := 6) only [qGO2, qGO4, Nat.reduceEqDiff, h1, h2, h8]; done) | skip
      · rw [hap.2.2 6 (by decide), o6]
      · simp (maxDischargeDepth := 6) only [qGO2, qGO4, Nat.reduceEqDiff]
        rw [List.length_append, List.map_append]
        exact hap.2.1
    · rw [if_neg hq, List.append_nil]
      simp (maxDischargeDepth := 6) only [qF, qGO0, qGO1, qGO2, qGO3, qGO4, qGO5, bslV, bslW, splice, fills, repl, Nat.reduceLT, Nat.reduceEqDiff, c94_L1, h1, h2, h7, h8, h9, hA.lenI, hk', hia, hw, hat, dc85, hq]
      refine ⟨_, rfl, _, _, rfl, ?_, ?_, ?_, ?_, o6, ?_⟩
      all_goals first | (simp (maxDischargeDepth := 6) only [qGO2, qGO4, Nat.reduceEqDiff, h1, h2, h8]; done) | skip
      simp (maxDischargeDepth := 6) only [qGO2, qGO4, Nat.reduceEqDiff, h7]
      exact hO
  · rintro _ ⟨fr, lh1, rfl, h1, h2, h8, h9, o6, hO⟩
    rw [List.take_length] at hO
    simp (maxDischargeDepth := 6) only [qGO0, qGO1, qGO2, qGO4, qGO5, Nat.reduceLT, Nat.reduceEqDiff, c94_L1, h8, h9, hA.lenI, Int.lt_irrefl]
    refine ⟨_, _, (by simp : Out.ext 0 ≠ .nrm), rfl, rfl, ?_, o6, rfl⟩
    simp (maxDischargeDepth := 6) only [qGO2, qGO4, Nat.reduceEqDiff]
    exact hO
end Go.Proofs.YtfenhjpkomldcaaGreat
