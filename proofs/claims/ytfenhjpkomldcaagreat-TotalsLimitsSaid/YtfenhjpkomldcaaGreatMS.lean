/- Steps with shared rows. Conditions: the theorems' own. -/
import Derived.Test.YtfenhjpkomldcaaGreatEnv

set_option linter.unusedSimpArgs false
set_option linter.unusedVariables false
namespace Go.Ev
open Go
section
variable {E : Env} {call : Orc} {n : Nat} {fr : Fr} {lh : Tri Ent} {sh : List Ent} {os : List AOper} {d : Nat}
theorem p_appS {nm : Bool} {sz bytes : Nat} {s x : Opd} (hd : d < n) (hs : rd fr s = .nilsl) : evOps E call n (⟨some d, .app sz bytes s x true nm, none⟩ :: os) ⟨fr, lh, sh⟩ =
    (slC lh sh sz (rd fr x)).bind fun p => if p.1 = 0 then evOps E call n os ⟨setF fr d .nilsl, lh, sh⟩ else if p.1 * bytes ≤ roomy then evOps E call n os ⟨setF fr d (.isl .S sh.length 1 0 p.1 sz), lh, setE sh sh.length ⟨1, .cells p.2 0 nm⟩⟩ else none := by
  rw [e_one (by rfl) (show okD n (some d) from hd)]
  unfold one slC
  simp only [opQ, appAt, bind_run, get_fr, hs]
  cases hx : (sliceCells sz (rd fr x)).run (St.mk .nil lh sh).get sh.length with
  | none => rfl
  | some p =>
    simp only [Option.bind_some]
    by_cases hp : p.1 = 0
    · simp only [if_pos hp]; rfl
    · simp only [if_neg hp]
      split <;> rfl
end
section
variable {E : Env} {call : Orc} {n : Nat} {fr : Fr} {lh : Tri Ent} {sh : List Ent} {ds : List (List Nat × AOper)} {fps : List FP} {u : List Nat} {d : Option Nat}
def isSp : T → Bool
  | .ptr .S .. => true
  | _ => false
theorem isSp_ptr {k g off : Nat} : isSp (.ptr .S k g off) = true := nr rfl
theorem d_stS {x v : Opd} {m : Nat} (hx : isSp (rd fr x) = true) (hz : froz (rd fr v) = true) : evDraw E call n ((u, ⟨none, .st x v m, none⟩) :: ds) fps ⟨fr, lh, sh⟩ =
    if meets u fps ⟨false, ldLog (rd fr x), ldLog (rd fr x)⟩ = true then ke E call n ds (fps ++ [⟨false, ldLog (rd fr x), ldLog (rd fr x)⟩]) (evOps E call n [⟨none, .st x v m, none⟩] ⟨fr, lh, sh⟩) else none := by
  refine d_of fun hne => ?_
  cases hx' : rd fr x with
  | ptr sp k g off =>
    cases sp with
    | L => rw [hx'] at hx; simp [isSp] at hx
    | S =>
      by_cases hb : (decide ((cellsOf (rd fr v)).length ≠ m) || !noTup (rd fr v)) = true
      · obtain ⟨w, ups, hr, hfp⟩ := fp_q (q := .fail) (by rfl) (by rw [rho_eq]; simp only [opQ, stAt, hx']; rw [if_pos hb]) hne
        simp [Q.run] at hr
      · obtain ⟨w, ups, hr, hfp⟩ := fp_q (q := .rd .S k (fun e => if e.g = g then match e.ob with
          | .cells cs wm bx => if wm ≤ off && off + m ≤ cs.length then
              (if bx && Sp.S == .L then .ret (.val undefT [(Sp.S, k, ⟨g, .cells (splice cs off (cellsOf (rd fr v))) wm bx⟩)])
              else (fz (bx && Sp.S == .S) fzFuel (rd fr v)).bind fun p => if hits p.2 .S k || !noTup p.1 || (cellsOf p.1).length ≠ m then .fail else .ret (.val undefT (p.2 ++ [(Sp.S, k, ⟨g, .cells (splice cs off (cellsOf p.1)) wm bx⟩)])))
            else .fail
          | _ => .fail
        else .fail)) (by rfl) (by rw [rho_eq]; simp only [opQ, stAt, hx']; rw [if_neg hb]; rfl) hne
        simp only [Q.run, Q.log, Q.asks] at hr hfp
        have hge : (St.mk fr lh sh).get .S k = getE sh k := rfl
        rw [hge] at hr hfp
        generalize he : getE sh k = e at hr hfp
        obtain ⟨g', ob⟩ := e
        by_cases hg : g' = g
        · cases ob with
          | none => simp [hg, Q.run] at hr
          | map ks vs z => simp [hg, Q.run] at hr
          | cells cs wm bx =>
            simp only [hg, if_true] at hr hfp
            split at hr
            · rename_i hc
              rw [if_pos hc] at hfp
              have hbx : (bx && Sp.S == Sp.L) = false := by cases bx <;> rfl
              rw [hbx] at hr hfp
              simp only [Bool.false_eq_true, if_false] at hr hfp
              unfold fzFuel at hr hfp
              rw [fz_froz hz] at hr hfp
              simp only [Q.bind] at hr hfp
              split at hr
              · simp [Q.run] at hr
              · rename_i hd
                rw [if_neg hd] at hfp
                simp [Q.run] at hr
                obtain ⟨rfl, rfl⟩ := hr
                refine hfp ?_
                simp only [Q.asks, Bool.false_or, inB, List.nil_append, List.all_cons, List.all_nil, Bool.and_true]
                rw [hge, he]
                rfl
            · simp [Q.run] at hr
        · simp only [hg, if_false, Q.run] at hr
          cases hr
  | _ => rw [hx'] at hx; simp [isSp] at hx
end
section
variable {m : Nat} {lh : Tri Ent} {sh : List Ent}
theorem fzW_keepS {k g off len sz : Nat} : fzW m lh sh true (.isl .S k g off len sz) = some (.isl .S k g off len sz, []) := rfl
def islS (k : Nat) (e : Ent) (g off len sz : Nat) : Option (T × List Up) :=
  match e with
  | ⟨g', .cells cs _ false⟩ => if g' = g ∧ off + len * sz ≤ cs.length then some (.sl ((cs.drop off).take (len * sz)) len false, [(.S, k, ⟨g, .cells cs cs.length false⟩)]) else none
  | _ => none
theorem fzW_islS {k g off len sz g' wm : Nat} {cs : List T} (h : getE sh k = ⟨g', .cells cs wm false⟩) : fzW m lh sh false (.isl .S k g off len sz) = if g' = g ∧ off + len * sz ≤ cs.length then some (.sl ((cs.drop off).take (len * sz)) len false, [(.S, k, ⟨g, .cells cs cs.length false⟩)]) else none := by
  have h' : (St.mk .nil lh sh).get .S k = ⟨g', .cells cs wm false⟩ := h
  unfold fzW
  show Q.run _ _ (Q.rd .S k _) = _
  simp only [Q.run]
  rw [h']
  by_cases hg : g' = g
  · by_cases hl : off + len * sz ≤ cs.length <;> simp [hg, hl, Q.run]
  · simp [hg, Q.run]
end
end Go.Ev
