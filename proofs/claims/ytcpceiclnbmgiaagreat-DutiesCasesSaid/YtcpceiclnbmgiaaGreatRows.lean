/-
  No cell of these rows narrows 'for every input' (looked for: loops, veiled, ifaces, maps, wideKeys, modest, calm, conditions, laid).
  DERIVED. THE GIVEN ROWS OF THIS SEAT. 4 by the template 'for every input the law returns true; each argument reads behind the call as it read before'; 0 by the template 'total and deterministic' (their statements: YtcpceiclnbmgiaaGreatTotals.lean).
  GIVEN WITH THE SEED: the statements are not yours to turn. If you find one false, say at which input.
  Laid BY PROGRAM, IN A SANDBOX (cutbox-rows.mjs): the forced cells as the released guide's own fill.sh prints them over the translation 07a05aabc2ea6cce… (all of the seat's roots in one cut). By AI agents, Wed Nov 11 2026. No macro, syntax, notation, axiom, sorry.
-/
import Derived.Test.YtcpceiclnbmgiaaGreatChecked
import GoSem.Claim
import GoSem.ClaimJoined
import GoSem.ClaimMapViews
import Derived.JoinedTies
import Derived.KernelRfl
namespace Go.Proofs.YtcpceiclnbmgiaaGreat
/- THE CELL 'sum', in the pinned program and in every row, IS THE sha256 OF THE DUMP (.gsa) THAT YtcpceiclnbmgiaaGreatProg.lean LOADS. Nothing in Lean hashes anything: it is a label: what it is worth is what the hold of that sum in a sandbox is worth. -/
noncomputable def Tryz.pinned : Pinned := { name := "ytcpceiclnbmgiaagreat", sum := "07a05aabc2ea6cce90d43c866ae4018a5b0acb3af5990c2e6213081207c20343", checked := Tryz.checked }
namespace Rows
def none {H : Type} : Left H := { results := [], args := [] }

/-- 'pairinglaw20.DutiesGrow': WHATEVER THE INPUT: true; the input reads as it did. -/
def dutiesGrowSpec : ChangeSpec := { name := "dutiesGrow", fn := fun _ => fun
  | [d1, d2, d3] => { results := [.lit (.bool true)], args := [d1, d2, d3] }
  | _ => none }
def dutiesGrowRow : OpenClaim := { program := "ytcpceiclnbmgiaagreat", sum := "07a05aabc2ea6cce90d43c866ae4018a5b0acb3af5990c2e6213081207c20343", func := "pairing/pairinglaw20.DutiesGrow", spec := "dutiesGrow", inPlace := ["internal/bytealg.IndexByteString", "internal/bytealg.IndexString"], unfollowed := true, recurses := true, named := ["internal/bytealg.MaxLen"], plainKeys := false, apart := false }
def DutiesGrowSaid : Prop := dutiesGrowRow.holds Tryz.pinned (OpenSpec.ofChange dutiesGrowSpec)

/-- ITS FALSE NEIGHBOUR: 'it returns false'. Refute it at one input. -/
def dutiesGrowWrong : ChangeSpec := { name := "dutiesGrow", fn := fun _ => fun
  | [d1, d2, d3] => { results := [.lit (.bool false)], args := [d1, d2, d3] }
  | _ => none }
def DutiesGrowWrongFalsely : Prop := dutiesGrowRow.holds Tryz.pinned (OpenSpec.ofChange dutiesGrowWrong)

/-- 'pairinglaw20.DutiesCases': WHATEVER THE INPUT: true; the input reads as it did. -/
def dutiesCasesSpec : ChangeSpec := { name := "dutiesCases", fn := fun _ => fun
  | [d1, d2] => { results := [.lit (.bool true)], args := [d1, d2] }
  | _ => none }
def dutiesCasesRow : OpenClaim := { program := "ytcpceiclnbmgiaagreat", sum := "07a05aabc2ea6cce90d43c866ae4018a5b0acb3af5990c2e6213081207c20343", func := "pairing/pairinglaw20.DutiesCases", spec := "dutiesCases", inPlace := ["internal/bytealg.IndexByteString", "internal/bytealg.IndexString"], unfollowed := true, recurses := true, named := ["internal/bytealg.MaxLen"], plainKeys := false, apart := false }
def DutiesCasesSaid : Prop := dutiesCasesRow.holds Tryz.pinned (OpenSpec.ofChange dutiesCasesSpec)

/-- ITS FALSE NEIGHBOUR: 'it returns false'. Refute it at one input. -/
def dutiesCasesWrong : ChangeSpec := { name := "dutiesCases", fn := fun _ => fun
  | [d1, d2] => { results := [.lit (.bool false)], args := [d1, d2] }
  | _ => none }
def DutiesCasesWrongFalsely : Prop := dutiesCasesRow.holds Tryz.pinned (OpenSpec.ofChange dutiesCasesWrong)

/-- 'pairinglaw20.DutiesComplete': WHATEVER THE INPUT: true; the input reads as it did. -/
def dutiesCompleteSpec : ChangeSpec := { name := "dutiesComplete", fn := fun _ => fun
  | [d1, d2, d3] => { results := [.lit (.bool true)], args := [d1, d2, d3] }
  | _ => none }
def dutiesCompleteRow : OpenClaim := { program := "ytcpceiclnbmgiaagreat", sum := "07a05aabc2ea6cce90d43c866ae4018a5b0acb3af5990c2e6213081207c20343", func := "pairing/pairinglaw20.DutiesComplete", spec := "dutiesComplete", inPlace := ["internal/bytealg.IndexByteString", "internal/bytealg.IndexString"], unfollowed := true, recurses := true, named := ["internal/bytealg.MaxLen"], plainKeys := false, apart := false }
def DutiesCompleteSaid : Prop := dutiesCompleteRow.holds Tryz.pinned (OpenSpec.ofChange dutiesCompleteSpec)

/-- ITS FALSE NEIGHBOUR: 'it returns false'. Refute it at one input. -/
def dutiesCompleteWrong : ChangeSpec := { name := "dutiesComplete", fn := fun _ => fun
  | [d1, d2, d3] => { results := [.lit (.bool false)], args := [d1, d2, d3] }
  | _ => none }
def DutiesCompleteWrongFalsely : Prop := dutiesCompleteRow.holds Tryz.pinned (OpenSpec.ofChange dutiesCompleteWrong)

/-- 'pairinglaw20.DutiesLegal': WHATEVER THE INPUT: true; the input reads as it did. -/
def dutiesLegalSpec : ChangeSpec := { name := "dutiesLegal", fn := fun _ => fun
  | [d1, d2] => { results := [.lit (.bool true)], args := [d1, d2] }
  | _ => none }
def dutiesLegalRow : OpenClaim := { program := "ytcpceiclnbmgiaagreat", sum := "07a05aabc2ea6cce90d43c866ae4018a5b0acb3af5990c2e6213081207c20343", func := "pairing/pairinglaw20.DutiesLegal", spec := "dutiesLegal", inPlace := ["internal/bytealg.IndexByteString", "internal/bytealg.IndexString"], unfollowed := true, recurses := true, named := ["internal/bytealg.MaxLen"], plainKeys := false, apart := false }
def DutiesLegalSaid : Prop := dutiesLegalRow.holds Tryz.pinned (OpenSpec.ofChange dutiesLegalSpec)

/-- ITS FALSE NEIGHBOUR: 'it returns false'. Refute it at one input. -/
def dutiesLegalWrong : ChangeSpec := { name := "dutiesLegal", fn := fun _ => fun
  | [d1, d2] => { results := [.lit (.bool false)], args := [d1, d2] }
  | _ => none }
def DutiesLegalWrongFalsely : Prop := dutiesLegalRow.holds Tryz.pinned (OpenSpec.ofChange dutiesLegalWrong)

/- THE SECOND FORM. 'bulk': how many values and letters a reading holds, each counted each time it is reached (what is shared counts as often as it is met; a slice's spare places count too). A statement '..UptoSaid' is the law's where the arguments, and the package variables that the reading takes, are together of bulk at most 1048576: NARROWER than '..Said'. Prove '..Said' where nothing that the law and all that it calls make is longer than what came in: it says more and counts as full. Else prove '..UptoSaid'. A law counts once. -/
mutual
def uptoBulk {H : Type} : DataW H → Nat
  | .lit (.string bytes) => bytes.length + 1
  | .lit _ => 1
  | .nil => 1
  | .ptr d => uptoBulk d + 1
  | .slice elems spare => uptoBulkAll elems + uptoBulkAll spare + 1
  | .agg parts => uptoBulkAll parts + 1
  | .iface _ d => uptoBulk d + 1
  | .map entries => uptoBulkEntries entries + 1
  | .held _ => 1
def uptoBulkAll {H : Type} : List (DataW H) → Nat
  | [] => 0
  | d :: r => uptoBulk d + uptoBulkAll r
def uptoBulkEntries {H : Type} : List (Lit × DataW H) → Nat
  | [] => 0
  | x :: r => uptoBulkEntry x + uptoBulkEntries r
def uptoBulkEntry {H : Type} : Lit × DataW H → Nat
  | (.string bytes, d) => bytes.length + uptoBulk d + 1
  | (_, d) => uptoBulk d + 1
 end
def uptoSmall : (H : Type) → List (DataW H) → Bool := fun _ ds => decide (uptoBulkAll ds ≤ 1048576)
def OpenSpec.upto (s : _root_.Go.ChangeSpec) : _root_.Go.OpenSpec := { _root_.Go.OpenSpec.ofChange s with cond := some uptoSmall }

/-- 'pairinglaw20.DutiesGrow', WHERE WHAT IT READS IS OF BULK AT MOST 1048576: true; the input reads as it did. -/
def dutiesGrowUptoRow : OpenClaim := { program := "ytcpceiclnbmgiaagreat", sum := "07a05aabc2ea6cce90d43c866ae4018a5b0acb3af5990c2e6213081207c20343", func := "pairing/pairinglaw20.DutiesGrow", spec := "dutiesGrow", inPlace := ["internal/bytealg.IndexByteString", "internal/bytealg.IndexString"], unfollowed := true, recurses := true, named := ["internal/bytealg.MaxLen"], plainKeys := false, apart := false, narrowed := true }
def DutiesGrowUptoSaid : Prop := dutiesGrowUptoRow.holds Tryz.pinned (OpenSpec.upto dutiesGrowSpec)

/-- 'pairinglaw20.DutiesCases', WHERE WHAT IT READS IS OF BULK AT MOST 1048576: true; the input reads as it did. -/
def dutiesCasesUptoRow : OpenClaim := { program := "ytcpceiclnbmgiaagreat", sum := "07a05aabc2ea6cce90d43c866ae4018a5b0acb3af5990c2e6213081207c20343", func := "pairing/pairinglaw20.DutiesCases", spec := "dutiesCases", inPlace := ["internal/bytealg.IndexByteString", "internal/bytealg.IndexString"], unfollowed := true, recurses := true, named := ["internal/bytealg.MaxLen"], plainKeys := false, apart := false, narrowed := true }
def DutiesCasesUptoSaid : Prop := dutiesCasesUptoRow.holds Tryz.pinned (OpenSpec.upto dutiesCasesSpec)

/-- 'pairinglaw20.DutiesComplete', WHERE WHAT IT READS IS OF BULK AT MOST 1048576: true; the input reads as it did. -/
def dutiesCompleteUptoRow : OpenClaim := { program := "ytcpceiclnbmgiaagreat", sum := "07a05aabc2ea6cce90d43c866ae4018a5b0acb3af5990c2e6213081207c20343", func := "pairing/pairinglaw20.DutiesComplete", spec := "dutiesComplete", inPlace := ["internal/bytealg.IndexByteString", "internal/bytealg.IndexString"], unfollowed := true, recurses := true, named := ["internal/bytealg.MaxLen"], plainKeys := false, apart := false, narrowed := true }
def DutiesCompleteUptoSaid : Prop := dutiesCompleteUptoRow.holds Tryz.pinned (OpenSpec.upto dutiesCompleteSpec)

/-- 'pairinglaw20.DutiesLegal', WHERE WHAT IT READS IS OF BULK AT MOST 1048576: true; the input reads as it did. -/
def dutiesLegalUptoRow : OpenClaim := { program := "ytcpceiclnbmgiaagreat", sum := "07a05aabc2ea6cce90d43c866ae4018a5b0acb3af5990c2e6213081207c20343", func := "pairing/pairinglaw20.DutiesLegal", spec := "dutiesLegal", inPlace := ["internal/bytealg.IndexByteString", "internal/bytealg.IndexString"], unfollowed := true, recurses := true, named := ["internal/bytealg.MaxLen"], plainKeys := false, apart := false, narrowed := true }
def DutiesLegalUptoSaid : Prop := dutiesLegalUptoRow.holds Tryz.pinned (OpenSpec.upto dutiesLegalSpec)

end Rows
end Go.Proofs.YtcpceiclnbmgiaaGreat
