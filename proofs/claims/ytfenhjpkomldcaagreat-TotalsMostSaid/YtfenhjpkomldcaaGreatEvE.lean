/- A tree evaluator over the model, proved against it (part E): where it answers, the call returns that answer. Conditions: none beyond its theorems' own. -/
import Derived.Test.YtfenhjpkomldcaaGreatEvD
set_option linter.unusedSimpArgs false
set_option linter.unusedVariables false
/- Steps, for arguments that are not closed. -/
namespace Go.Ev
open Go

section
variable {E : Env} {call : Orc} {fl n : Nat}
theorem evOps_cons {o : AOper} {os : List AOper} {st st' : St} (h : evOper E call n o st = some st') : evOps E call n (o :: os) st = evOps E call n os st' := by
  simp only [evOps, h]
theorem evOps_nil {st : St} : evOps E call n [] st = some st := rfl
theorem evOps_app {as bs : List AOper} : ∀ {st st' : St}, evOps E call n as st = some st' → evOps E call n (as ++ bs) st = evOps E call n bs st' := by
  induction as with
  | nil => intro st st' h; simp only [evOps] at h; cases h; rfl
  | cons a as ih =>
    intro st st' h
    simp only [evOps] at h
    simp only [List.cons_append, evOps]
    cases ha : evOper E call n a st with
    | none => rw [ha] at h; cases h
    | some s1 => rw [ha] at h; exact ih h
theorem evC_region {ops : List AOper} {st st' : St} (h : evOps E call n ops st = some st') : evC E call fl n (.region ops) st = some (.nrm, st') := by
  simp only [evC, h, Option.map_some]
theorem evC_seq {a b : ACode} {st st' : St} (h : evC E call fl n a st = some (.nrm, st')) : evC E call fl n (.seq a b) st = evC E call fl n b st' := by
  simp only [evC, h]
/-- The guard lets it pass. -/
def open_ (o : AOper) (st : St) : Prop := match o.gd with | none => True | some (j, want) => getF st.fr j = .b want
theorem step_open {o : AOper} {st : St} (h : open_ o st) : evOper E call n o st = evOper E call n { o with gd := none } st := by
  obtain ⟨d, op, gd⟩ := o
  cases gd with
  | none => rfl
  | some g =>
    obtain ⟨j, want⟩ := g
    have h' : getF st.fr j = .b want := h
    unfold evOper
    simp only [h', if_true]
theorem step_call {o : AOper} {st st' : St} {f : Nat} {as : List Opd} {args : List T} {r : T} {fr' : Fr} (hop : o.op = .callf f as) (hg : open_ o st) (ha : as.map st.rho = args) (hc : doCall E call (o.d.getD 0) st f args = some (r, st')) (hp : putD st.fr n o.d r = some fr') :
    evOper E call n o st = some { st' with fr := fr' } := by
  rw [step_open hg]
  unfold evOper
  simp only [hop, callOf, ha, hc, hp, Option.map_some]
theorem step_bin {o : AOper} {st : St} {op : BinOp} {x y : Opd} {r : T} {fr' : Fr} (hop : o.op = .bin op x y) (hg : open_ o st) (hv : Ev.bin op (st.rho x) (st.rho y) = some r) (hp : putD st.fr n o.d r = some fr') :
    evOper E call n o st = some { st with fr := fr' } := by
  rw [step_open hg]
  unfold evOper
  simp only [hop, callOf, opQ, hv, hp, val, Q.of, Q.run, Q.bind, Option.map_some, St.ups]
end
theorem callF_of {E : Env} {m f : Nat} {af : AFunc} {args : List T} {sh : List Ent} {o : Out} {st : St} {vs : List T} {r : Option (T × List Ent)} (hf : E.fn f = some af) (hn : ¬ af.n < args.length) (he : evC E (callF E m) m af.n af.code { fr := frOf args, lh := .nil, sh } = some (o, st)) (ho : ∀ id, o ≠ .ext id) (hv : resAll st af.res = some vs) (hr : answerF af.own af.eff vs st = r) :
    callF E (m + 1) f args sh = r := by
  simp only [callF, hf, if_neg hn, he]
  cases o with
  | ext id => exact absurd rfl (ho id)
  | nrm => simp only [hv, hr]
  | ret => simp only [hv, hr]
end Go.Ev

