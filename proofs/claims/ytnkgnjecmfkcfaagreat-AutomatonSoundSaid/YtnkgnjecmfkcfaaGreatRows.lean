/-
  NARROWER THAN 'FOR EVERY INPUT', by the rows' own cells (each row's printed sentence says how): AutomatonStates: loops.
  DERIVED. THE GIVEN ROWS OF THIS SEAT. 4 by the template 'for every input the law returns true; each argument reads behind the call as it read before'; 0 by the template 'total and deterministic' (their statements: YtnkgnjecmfkcfaaGreatTotals.lean).
  GIVEN WITH THE SEED: the statements are not yours to turn. If you find one false, say at which input.
  Laid BY PROGRAM, IN A SANDBOX (cutbox-rows.mjs): the forced cells as the released guide's own fill.sh prints them over the translation 15a6129b8e067a1a… (all of the seat's roots in one cut). By AI agents, Wed Nov 11 2026. No macro, syntax, notation, axiom, sorry.
-/
import Derived.Test.YtnkgnjecmfkcfaaGreatChecked
import GoSem.Claim
import GoSem.ClaimJoined
import GoSem.ClaimMapViews
import Derived.JoinedTies
import Derived.KernelRfl
namespace Go.Proofs.YtnkgnjecmfkcfaaGreat
/- THE CELL 'sum', in the pinned program and in every row, IS THE sha256 OF THE DUMP (.gsa) THAT YtnkgnjecmfkcfaaGreatProg.lean LOADS. Nothing in Lean hashes anything: it is a label: what it is worth is what the hold of that sum in a sandbox is worth. -/
noncomputable def Tryz.pinned : Pinned := { name := "ytnkgnjecmfkcfaagreat", sum := "15a6129b8e067a1ac73b6400716c30702314958cae86dccc89a0d36a181ca406", checked := Tryz.checked }
namespace Rows
def none {H : Type} : Left H := { results := [], args := [] }

/-- 'pairinglaw19.AutomatonAgrees': WHATEVER THE INPUT: true; the input reads as it did. -/
def automatonAgreesSpec : ChangeSpec := { name := "automatonAgrees", fn := fun _ => fun
  | [d1, d2] => { results := [.lit (.bool true)], args := [d1, d2] }
  | _ => none }
def automatonAgreesRow : OpenClaim := { program := "ytnkgnjecmfkcfaagreat", sum := "15a6129b8e067a1ac73b6400716c30702314958cae86dccc89a0d36a181ca406", func := "pairing/pairinglaw19.AutomatonAgrees", spec := "automatonAgrees", inPlace := ["internal/bytealg.IndexByteString", "internal/bytealg.IndexString", "slices.overlaps[string]"], recurses := true, named := ["internal/bytealg.MaxLen"], plainKeys := false, apart := false }
def AutomatonAgreesSaid : Prop := automatonAgreesRow.holds Tryz.pinned (OpenSpec.ofChange automatonAgreesSpec)

/-- ITS FALSE NEIGHBOUR: 'it returns false'. Refute it at one input. -/
def automatonAgreesWrong : ChangeSpec := { name := "automatonAgrees", fn := fun _ => fun
  | [d1, d2] => { results := [.lit (.bool false)], args := [d1, d2] }
  | _ => none }
def AutomatonAgreesWrongFalsely : Prop := automatonAgreesRow.holds Tryz.pinned (OpenSpec.ofChange automatonAgreesWrong)

/-- 'pairinglaw19.AutomatonOrder': WHATEVER THE INPUT: true; the input reads as it did. -/
def automatonOrderSpec : ChangeSpec := { name := "automatonOrder", fn := fun _ => fun
  | [d1, d2] => { results := [.lit (.bool true)], args := [d1, d2] }
  | _ => none }
def automatonOrderRow : OpenClaim := { program := "ytnkgnjecmfkcfaagreat", sum := "15a6129b8e067a1ac73b6400716c30702314958cae86dccc89a0d36a181ca406", func := "pairing/pairinglaw19.AutomatonOrder", spec := "automatonOrder", inPlace := ["internal/bytealg.IndexByteString", "internal/bytealg.IndexString", "slices.overlaps[string]"], unfollowed := true, recurses := true, named := ["internal/bytealg.MaxLen"], plainKeys := false, apart := false }
def AutomatonOrderSaid : Prop := automatonOrderRow.holds Tryz.pinned (OpenSpec.ofChange automatonOrderSpec)

/-- ITS FALSE NEIGHBOUR: 'it returns false'. Refute it at one input. -/
def automatonOrderWrong : ChangeSpec := { name := "automatonOrder", fn := fun _ => fun
  | [d1, d2] => { results := [.lit (.bool false)], args := [d1, d2] }
  | _ => none }
def AutomatonOrderWrongFalsely : Prop := automatonOrderRow.holds Tryz.pinned (OpenSpec.ofChange automatonOrderWrong)

/-- 'pairinglaw19.AutomatonStates': WHATEVER THE INPUT: true; the input reads as it did. -/
def automatonStatesSpec : ChangeSpec := { name := "automatonStates", fn := fun _ => fun
  | [d1, d2, d3, d4] => { results := [.lit (.bool true)], args := [d1, d2, d3, d4] }
  | _ => none }
def automatonStatesRow : OpenClaim := { program := "ytnkgnjecmfkcfaagreat", sum := "15a6129b8e067a1ac73b6400716c30702314958cae86dccc89a0d36a181ca406", func := "pairing/pairinglaw19.AutomatonStates", spec := "automatonStates", inPlace := ["internal/bytealg.IndexByteString", "internal/bytealg.IndexString", "slices.overlaps[string]"], unfollowed := true, recurses := true, named := ["internal/bytealg.MaxLen"], loops := true, plainKeys := false, apart := false }
def AutomatonStatesSaid : Prop := automatonStatesRow.holds Tryz.pinned (OpenSpec.ofChange automatonStatesSpec)

/-- ITS FALSE NEIGHBOUR: 'it returns false'. Refute it at one input. -/
def automatonStatesWrong : ChangeSpec := { name := "automatonStates", fn := fun _ => fun
  | [d1, d2, d3, d4] => { results := [.lit (.bool false)], args := [d1, d2, d3, d4] }
  | _ => none }
def AutomatonStatesWrongFalsely : Prop := automatonStatesRow.holds Tryz.pinned (OpenSpec.ofChange automatonStatesWrong)

/-- 'pairinglaw19.AutomatonSound': WHATEVER THE INPUT: true; the input reads as it did. -/
def automatonSoundSpec : ChangeSpec := { name := "automatonSound", fn := fun _ => fun
  | [d1, d2] => { results := [.lit (.bool true)], args := [d1, d2] }
  | _ => none }
def automatonSoundRow : OpenClaim := { program := "ytnkgnjecmfkcfaagreat", sum := "15a6129b8e067a1ac73b6400716c30702314958cae86dccc89a0d36a181ca406", func := "pairing/pairinglaw19.AutomatonSound", spec := "automatonSound", inPlace := ["internal/bytealg.IndexByteString", "internal/bytealg.IndexString", "slices.overlaps[string]"], unfollowed := true, recurses := true, named := ["internal/bytealg.MaxLen"], plainKeys := false, apart := false }
def AutomatonSoundSaid : Prop := automatonSoundRow.holds Tryz.pinned (OpenSpec.ofChange automatonSoundSpec)

/-- ITS FALSE NEIGHBOUR: 'it returns false'. Refute it at one input. -/
def automatonSoundWrong : ChangeSpec := { name := "automatonSound", fn := fun _ => fun
  | [d1, d2] => { results := [.lit (.bool false)], args := [d1, d2] }
  | _ => none }
def AutomatonSoundWrongFalsely : Prop := automatonSoundRow.holds Tryz.pinned (OpenSpec.ofChange automatonSoundWrong)

/- THE SECOND FORM. 'bulk': how many values and letters a reading holds, each counted each time it is reached (what is shared counts as often as it is met; a slice's spare places count too). A statement '..UptoSaid' is the law's where the arguments, and the package variables that the reading takes, are together of bulk at most 1048576: NARROWER than '..Said'. Prove '..Said' where nothing that the law and all that it calls make is longer than what came in: it says more and counts as full. Else prove '..UptoSaid'. A law counts once. -/
mutual
def uptoBulk {H : Type} : DataW H → Nat
  | .lit (.string bytes) => bytes.length + 1
  | .lit _ => 1
  | .nil => 1
  | .ptr d => uptoBulk d + 1
  | .slice elems spare => uptoBulkAll elems + uptoBulkAll spare + 1
  | .agg parts => uptoBulkAll parts + 1
  | .iface _ d => uptoBulk d + 1
  | .map entries => uptoBulkEntries entries + 1
  | .held _ => 1
def uptoBulkAll {H : Type} : List (DataW H) → Nat
  | [] => 0
  | d :: r => uptoBulk d + uptoBulkAll r
def uptoBulkEntries {H : Type} : List (Lit × DataW H) → Nat
  | [] => 0
  | x :: r => uptoBulkEntry x + uptoBulkEntries r
def uptoBulkEntry {H : Type} : Lit × DataW H → Nat
  | (.string bytes, d) => bytes.length + uptoBulk d + 1
  | (_, d) => uptoBulk d + 1
 end
def uptoSmall : (H : Type) → List (DataW H) → Bool := fun _ ds => decide (uptoBulkAll ds ≤ 1048576)
def OpenSpec.upto (s : _root_.Go.ChangeSpec) : _root_.Go.OpenSpec := { _root_.Go.OpenSpec.ofChange s with cond := some uptoSmall }

/-- 'pairinglaw19.AutomatonAgrees', WHERE WHAT IT READS IS OF BULK AT MOST 1048576: true; the input reads as it did. -/
def automatonAgreesUptoRow : OpenClaim := { program := "ytnkgnjecmfkcfaagreat", sum := "15a6129b8e067a1ac73b6400716c30702314958cae86dccc89a0d36a181ca406", func := "pairing/pairinglaw19.AutomatonAgrees", spec := "automatonAgrees", inPlace := ["internal/bytealg.IndexByteString", "internal/bytealg.IndexString", "slices.overlaps[string]"], recurses := true, named := ["internal/bytealg.MaxLen"], plainKeys := false, apart := false, narrowed := true }
def AutomatonAgreesUptoSaid : Prop := automatonAgreesUptoRow.holds Tryz.pinned (OpenSpec.upto automatonAgreesSpec)

/-- 'pairinglaw19.AutomatonOrder', WHERE WHAT IT READS IS OF BULK AT MOST 1048576: true; the input reads as it did. -/
def automatonOrderUptoRow : OpenClaim := { program := "ytnkgnjecmfkcfaagreat", sum := "15a6129b8e067a1ac73b6400716c30702314958cae86dccc89a0d36a181ca406", func := "pairing/pairinglaw19.AutomatonOrder", spec := "automatonOrder", inPlace := ["internal/bytealg.IndexByteString", "internal/bytealg.IndexString", "slices.overlaps[string]"], unfollowed := true, recurses := true, named := ["internal/bytealg.MaxLen"], plainKeys := false, apart := false, narrowed := true }
def AutomatonOrderUptoSaid : Prop := automatonOrderUptoRow.holds Tryz.pinned (OpenSpec.upto automatonOrderSpec)

/-- 'pairinglaw19.AutomatonStates', WHERE WHAT IT READS IS OF BULK AT MOST 1048576: true; the input reads as it did. -/
def automatonStatesUptoRow : OpenClaim := { program := "ytnkgnjecmfkcfaagreat", sum := "15a6129b8e067a1ac73b6400716c30702314958cae86dccc89a0d36a181ca406", func := "pairing/pairinglaw19.AutomatonStates", spec := "automatonStates", inPlace := ["internal/bytealg.IndexByteString", "internal/bytealg.IndexString", "slices.overlaps[string]"], unfollowed := true, recurses := true, named := ["internal/bytealg.MaxLen"], loops := true, plainKeys := false, apart := false, narrowed := true }
def AutomatonStatesUptoSaid : Prop := automatonStatesUptoRow.holds Tryz.pinned (OpenSpec.upto automatonStatesSpec)

/-- 'pairinglaw19.AutomatonSound', WHERE WHAT IT READS IS OF BULK AT MOST 1048576: true; the input reads as it did. -/
def automatonSoundUptoRow : OpenClaim := { program := "ytnkgnjecmfkcfaagreat", sum := "15a6129b8e067a1ac73b6400716c30702314958cae86dccc89a0d36a181ca406", func := "pairing/pairinglaw19.AutomatonSound", spec := "automatonSound", inPlace := ["internal/bytealg.IndexByteString", "internal/bytealg.IndexString", "slices.overlaps[string]"], unfollowed := true, recurses := true, named := ["internal/bytealg.MaxLen"], plainKeys := false, apart := false, narrowed := true }
def AutomatonSoundUptoSaid : Prop := automatonSoundUptoRow.holds Tryz.pinned (OpenSpec.upto automatonSoundSpec)

end Rows
end Go.Proofs.YtnkgnjecmfkcfaaGreat
