/- TotalsPays returns true at every two numbers, by the evaluator. Conditions: none. -/
import Derived.Test.YtfenhjpkomldcaaGreatPEnv
import Derived.Test.YtfenhjpkomldcaaGreatEvE
import Derived.Test.YtfenhjpkomldcaaGreatPVA
import Derived.Test.YtfenhjpkomldcaaGreatPVB
import Derived.Test.YtfenhjpkomldcaaGreatPVC
set_option maxRecDepth 1000000
namespace Go.Proofs.YtfenhjpkomldcaaGreat
open Go Go.Ev
theorem pay_ev (m : Nat) (x0 x1 x2 x3 x4 x5 x6 x7 x8 x9 x10 x11 x12 : T) (g a : Int) :
    callF pE (m + 1) 39 [.agg [x0, x1, x2, x3, x4, x5, x6, x7, x8, x9, x10, x11, x12, .i .i64 g], .i .i64 a] [] = some (.i .i64 (if g > a then g else a), []) := by
  rfl

def Kg (g : Int) : T := match K0 with | .agg [x0, x1, x2, x3, x4, x5, x6, x7, x8, x9, x10, x11, x12, _] => .agg [x0, x1, x2, x3, x4, x5, x6, x7, x8, x9, x10, x11, x12, .i .i64 g] | x => x

def st0 (a b : Int) : St := { fr := frOf [.i .i64 a, .i .i64 b], lh := .nil, sh := [] }
noncomputable def run1 (ops : List AOper) (st : St) : St := (evOps pE (fun _ _ _ => none) 24 ops st).getD st
def oA : List AOper := [⟨some 4, .mv (.c (.b false)), none⟩]
def oB : AOper := ⟨some 6, .callf 38 [.c (.i .i64 0)], none⟩
def oC1 : List AOper := [⟨(some 5), .alloc [(.i .i64 0), (.i .i64 0), (.i .i64 0), (.i .i64 0), (.i .i64 0), (.i .i64 0), (.i .i64 0), .nilsl, .nilsl, .nilsl, .nilsl, .nilsl, .nilsl, (.i .i64 0)] false, none⟩, ⟨none, .st (.t 5) (.t 6) 14, none⟩]
def oC2 : List AOper := [⟨(some 7), .mv (.t 1), none⟩, ⟨(some 8), .fa (.t 5) 13, none⟩, ⟨none, .st (.t 8) (.t 7) 1, none⟩]
def oC3 : List AOper := [⟨(some 9), .ld (.t 5) 14 true, none⟩, ⟨(some 10), .mv (.t 0), none⟩]
def oD : AOper := ⟨some 11, .callf 39 [.t 9, .t 10], none⟩
def oE : List AOper := [⟨(some 12), .mv (.t 0), none⟩, ⟨(some 13), .mv (.t 1), none⟩, ⟨(some 14), .mm true [(.t 12), (.t 13)], none⟩]
def oF : AOper := ⟨(some 15), .bin .eql (.t 11) (.t 14), none⟩
def oG : List AOper := [⟨(some 16), .mv (.t 15), none⟩]
def oH : AOper := ⟨(some 17), .callf 38 [(.c (.i .i64 0))], (some (16, true))⟩
def oI : AOper := ⟨(some 18), .callf 40 [(.t 17)], (some (16, true))⟩
def oJ : List AOper := [⟨(some 19), .bin .eql (.t 18) (.c (.i .i64 0)), (some (16, true))⟩, ⟨(some 20), .pick (.t 16) (.t 19) (.c (.b false)), none⟩, ⟨(some 21), .mv (.t 20), none⟩]
def oK : AOper := ⟨(some 22), .callf 32 [], (some (21, true))⟩
def oL : List AOper := [⟨(some 23), .pick (.t 21) (.t 22) (.c (.b false)), none⟩, ⟨(some 4), .mv (.t 23), none⟩]

theorem c9_code : c9.code = .seq (.region oA) (.seq (.region (oB :: oC1)) (.seq (.region oC2) (.seq (.region (oC3 ++ oD :: (oE ++ oF :: (oG ++ oH :: oI :: (oJ ++ oK :: oL))))) .ret))) := rfl

section
variable (a b : Int)
def X : Int := if b > a then b else a
noncomputable def sA : St := run1 oA (st0 a b)
noncomputable def sB : St := { sA a b with fr := setF (sA a b).fr 6 K0 }
noncomputable def sC1 : St := run1 oC1 (sB a b)
noncomputable def sC2 : St := run1 oC2 (sC1 a b)
noncomputable def sC3 : St := run1 oC3 (sC2 a b)
noncomputable def sD : St := { sC3 a b with fr := setF (sC3 a b).fr 11 (.i .i64 (X a b)) }
noncomputable def sE : St := run1 oE (sD a b)
noncomputable def sF1 : St := { sE a b with fr := setF (sE a b).fr 15 (.b true) }
noncomputable def sG : St := run1 oG (sF1 a b)
noncomputable def sH : St := { sG a b with fr := setF (sG a b).fr 17 K0 }
noncomputable def sI : St := { sH a b with fr := setF (sH a b).fr 18 (.i .i64 0) }
noncomputable def sJ : St := run1 oJ (sI a b)
noncomputable def sK : St := { sJ a b with fr := setF (sJ a b).fr 22 (.b true) }
noncomputable def sL : St := run1 oL (sK a b)
end

theorem law_abs (call : Orc) (fl : Nat) (a b : Int) (h38 : call 38 [.i .i64 0] [] = some (K0, [])) (h39 : call 39 [Kg b, .i .i64 a] [] = some (.i .i64 (X a b), []))
    (h40 : call 40 [K0] [] = some (.i .i64 0, [])) (h32 : call 32 [] [] = some (.b true, [])) :
    evC pE call fl 24 c9.code (st0 a b) = some (.ret, sL a b) ∧ resAll (sL a b) c9.res = some [.b true] := by
  have f38 : pE.fn 38 = some c38 := rfl
  have f39 : pE.fn 39 = some c39 := rfl
  have f40 : pE.fn 40 = some c40 := rfl
  have f32 : pE.fn 32 = some c32 := rfl
  have e38 : c38.eff = false := rfl
  have e39 : c39.eff = false := rfl
  have e40 : c40.eff = false := rfl
  have e32 : c32.eff = false := rfl
  have z0 : ∀ st : St, (mapQ (fz false fzFuel) [K0]).run st.get st.sh.length = some ([K0], []) := fun st => by kernel_rfl
  have zg : ∀ st : St, (mapQ (fz false fzFuel) [Kg b, .i .i64 a]).run st.get st.sh.length = some ([Kg b, .i .i64 a], []) := fun st => by kernel_rfl
  have zi : ∀ st : St, (mapQ (fz false fzFuel) [.i .i64 0]).run st.get st.sh.length = some ([.i .i64 0], []) := fun st => by kernel_rfl
  have zn : ∀ st : St, (mapQ (fz false fzFuel) []).run st.get st.sh.length = some ([], []) := fun st => by kernel_rfl
  have d38 : ∀ st, doCall pE call st 38 [.i .i64 0] = some (K0, st) := fun st => by
    simp only [doCall, f38, e38, zi, h38]; rfl
  have d39 : ∀ st, doCall pE call st 39 [Kg b, .i .i64 a] = some (.i .i64 (X a b), st) := fun st => by
    simp only [doCall, f39, e39, zg, h39]; rfl
  have d40 : ∀ st, doCall pE call st 40 [K0] = some (.i .i64 0, st) := fun st => by
    simp only [doCall, f40, e40, z0, h40]; rfl
  have d32 : ∀ st, doCall pE call st 32 [] = some (.b true, st) := fun st => by
    simp only [doCall, f32, e32, zn, h32]; rfl
  have hA : evOps pE call 24 oA (st0 a b) = some (sA a b) := by kernel_rfl
  have hB : evOper pE call 24 oB (sA a b) = some (sB a b) := step_call rfl trivial rfl (d38 _) (by kernel_rfl)
  have hC1 : evOps pE call 24 oC1 (sB a b) = some (sC1 a b) := by kernel_rfl
  have hC2 : evOps pE call 24 oC2 (sC1 a b) = some (sC2 a b) := by kernel_rfl
  have hC3 : evOps pE call 24 oC3 (sC2 a b) = some (sC3 a b) := by kernel_rfl
  have hD : evOper pE call 24 oD (sC3 a b) = some (sD a b) := step_call rfl trivial (by kernel_rfl) (d39 _) (by kernel_rfl)
  have hE : evOps pE call 24 oE (sD a b) = some (sE a b) := by kernel_rfl
  have hF : evOper pE call 24 oF (sE a b) = some (sF1 a b) := by
    refine step_bin (r := .b true) rfl trivial ?_ (by kernel_rfl)
    have r1 : (sE a b).rho (.t 11) = .i .i64 (X a b) := by kernel_rfl
    have r2 : (sE a b).rho (.t 14) = .i .i64 (X a b) := by kernel_rfl
    rw [r1, r2]
    simp [Ev.bin, binI]
  have hG : evOps pE call 24 oG (sF1 a b) = some (sG a b) := by kernel_rfl
  have hH : evOper pE call 24 oH (sG a b) = some (sH a b) := step_call rfl (by show getF (sG a b).fr 16 = .b true; kernel_rfl) rfl (d38 _) (by kernel_rfl)
  have hI : evOper pE call 24 oI (sH a b) = some (sI a b) := step_call rfl (by show getF (sH a b).fr 16 = .b true; kernel_rfl) (by kernel_rfl) (d40 _) (by kernel_rfl)
  have hJ : evOps pE call 24 oJ (sI a b) = some (sJ a b) := by kernel_rfl
  have hK : evOper pE call 24 oK (sJ a b) = some (sK a b) := step_call rfl (by show getF (sJ a b).fr 21 = .b true; kernel_rfl) rfl (d32 _) (by kernel_rfl)
  have hL : evOps pE call 24 oL (sK a b) = some (sL a b) := by kernel_rfl
  refine ⟨?_, by kernel_rfl⟩
  rw [c9_code, evC_seq (evC_region hA), evC_seq (evC_region ((evOps_cons hB).trans hC1)), evC_seq (evC_region hC2)]
  rw [evC_seq (evC_region ((evOps_app hC3).trans ((evOps_cons hD).trans ((evOps_app hE).trans ((evOps_cons hF).trans ((evOps_app hG).trans ((evOps_cons hH).trans ((evOps_cons hI).trans ((evOps_app hJ).trans ((evOps_cons hK).trans hL))))))))))]
  rfl

theorem pays_ev (a b : Int) : callF pE 1001 9 [.i .i64 a, .i .i64 b] [] = some (.b true, []) := by
  obtain ⟨h1, h2⟩ := law_abs (callF pE 1000) 1000 a b ev38 (pay_ev 999 _ _ _ _ _ _ _ _ _ _ _ _ _ b a) ev40 ev32
  exact callF_of (af := c9) rfl (by simp [c9]) h1 (fun id => by simp) h2 (by kernel_rfl)
end Go.Proofs.YtfenhjpkomldcaaGreat
