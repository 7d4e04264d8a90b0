/-
  NARROWER THAN 'FOR EVERY INPUT', by the rows' own cells (each row's printed sentence says how): FoldContracts: loops · FoldExact: loops.
  DERIVED. THE GIVEN ROWS OF THIS SEAT. 12 by the template 'for every input the law returns true; each argument reads behind the call as it read before'; 0 by the template 'total and deterministic' (their statements: YtfenhjpkomldcaaGreatTotals.lean).
  GIVEN WITH THE SEED: the statements are not yours to turn. If you find one false, say at which input.
  Laid BY PROGRAM, IN A SANDBOX (cutbox-rows.mjs): the forced cells as the released guide's own fill.sh prints them over the translation 019addd354c59d52… (all of the seat's roots in one cut). By AI agents, Wed Nov 11 2026. No macro, syntax, notation, axiom, sorry.
-/
import Derived.Test.YtfenhjpkomldcaaGreatChecked
import GoSem.Claim
import GoSem.ClaimJoined
import GoSem.ClaimMapViews
import Derived.JoinedTies
import Derived.KernelRfl
namespace Go.Proofs.YtfenhjpkomldcaaGreat
/- THE CELL 'sum', in the pinned program and in every row, IS THE sha256 OF THE DUMP (.gsa) THAT YtfenhjpkomldcaaGreatProg.lean LOADS. Nothing in Lean hashes anything: it is a label: what it is worth is what the hold of that sum in a sandbox is worth. -/
noncomputable def Tryz.pinned : Pinned := { name := "ytfenhjpkomldcaagreat", sum := "019addd354c59d523d759a229d321dde8ebd0a935633eb055211f13f94938f28", checked := Tryz.checked }
namespace Rows
def none {H : Type} : Left H := { results := [], args := [] }

/-- 'pairinglaw17.FoldBuilt': WHATEVER THE INPUT: true; the input reads as it did. -/
def foldBuiltSpec : ChangeSpec := { name := "foldBuilt", fn := fun _ => fun
  | [d1, d2, d3] => { results := [.lit (.bool true)], args := [d1, d2, d3] }
  | _ => none }
def foldBuiltRow : OpenClaim := { program := "ytfenhjpkomldcaagreat", sum := "019addd354c59d523d759a229d321dde8ebd0a935633eb055211f13f94938f28", func := "pairing/pairinglaw17.FoldBuilt", spec := "foldBuilt", inPlace := ["internal/bytealg.IndexByteString", "internal/bytealg.IndexString"], unfollowed := true, recurses := true, named := ["internal/bytealg.MaxLen"], plainKeys := false, apart := false }
def FoldBuiltSaid : Prop := foldBuiltRow.holds Tryz.pinned (OpenSpec.ofChange foldBuiltSpec)

/-- ITS FALSE NEIGHBOUR: 'it returns false'. Refute it at one input. -/
def foldBuiltWrong : ChangeSpec := { name := "foldBuilt", fn := fun _ => fun
  | [d1, d2, d3] => { results := [.lit (.bool false)], args := [d1, d2, d3] }
  | _ => none }
def FoldBuiltWrongFalsely : Prop := foldBuiltRow.holds Tryz.pinned (OpenSpec.ofChange foldBuiltWrong)

/-- 'pairinglaw17.FoldRules': WHATEVER THE INPUT: true; the input reads as it did. -/
def foldRulesSpec : ChangeSpec := { name := "foldRules", fn := fun _ => fun
  | [d1, d2] => { results := [.lit (.bool true)], args := [d1, d2] }
  | _ => none }
def foldRulesRow : OpenClaim := { program := "ytfenhjpkomldcaagreat", sum := "019addd354c59d523d759a229d321dde8ebd0a935633eb055211f13f94938f28", func := "pairing/pairinglaw17.FoldRules", spec := "foldRules", inPlace := ["internal/bytealg.IndexByteString", "internal/bytealg.IndexString"], unfollowed := true, recurses := true, named := ["internal/bytealg.MaxLen"], plainKeys := false, apart := false }
def FoldRulesSaid : Prop := foldRulesRow.holds Tryz.pinned (OpenSpec.ofChange foldRulesSpec)

/-- ITS FALSE NEIGHBOUR: 'it returns false'. Refute it at one input. -/
def foldRulesWrong : ChangeSpec := { name := "foldRules", fn := fun _ => fun
  | [d1, d2] => { results := [.lit (.bool false)], args := [d1, d2] }
  | _ => none }
def FoldRulesWrongFalsely : Prop := foldRulesRow.holds Tryz.pinned (OpenSpec.ofChange foldRulesWrong)

/-- 'pairinglaw17.FoldContracts': WHATEVER THE INPUT: true; the input reads as it did. -/
def foldContractsSpec : ChangeSpec := { name := "foldContracts", fn := fun _ => fun
  | [d] => { results := [.lit (.bool true)], args := [d] }
  | _ => none }
def foldContractsRow : OpenClaim := { program := "ytfenhjpkomldcaagreat", sum := "019addd354c59d523d759a229d321dde8ebd0a935633eb055211f13f94938f28", func := "pairing/pairinglaw17.FoldContracts", spec := "foldContracts", inPlace := ["internal/bytealg.IndexByteString", "internal/bytealg.IndexString"], unfollowed := true, recurses := true, named := ["internal/bytealg.MaxLen"], loops := true, plainKeys := false, apart := false }
def FoldContractsSaid : Prop := foldContractsRow.holds Tryz.pinned (OpenSpec.ofChange foldContractsSpec)

/-- ITS FALSE NEIGHBOUR: 'it returns false'. Refute it at one input. -/
def foldContractsWrong : ChangeSpec := { name := "foldContracts", fn := fun _ => fun
  | [d] => { results := [.lit (.bool false)], args := [d] }
  | _ => none }
def FoldContractsWrongFalsely : Prop := foldContractsRow.holds Tryz.pinned (OpenSpec.ofChange foldContractsWrong)

/-- 'pairinglaw38.TotalsValidate': WHATEVER THE INPUT: true; the input reads as it did. -/
def totalsValidateSpec : ChangeSpec := { name := "totalsValidate", fn := fun _ => fun
  | [d1, d2, d3] => { results := [.lit (.bool true)], args := [d1, d2, d3] }
  | _ => none }
def totalsValidateRow : OpenClaim := { program := "ytfenhjpkomldcaagreat", sum := "019addd354c59d523d759a229d321dde8ebd0a935633eb055211f13f94938f28", func := "pairing/pairinglaw38.TotalsValidate", spec := "totalsValidate", inPlace := ["internal/bytealg.IndexByteString", "internal/bytealg.IndexString"], unfollowed := true, recurses := true, named := ["internal/bytealg.MaxLen"], plainKeys := false, apart := false }
def TotalsValidateSaid : Prop := totalsValidateRow.holds Tryz.pinned (OpenSpec.ofChange totalsValidateSpec)

/-- ITS FALSE NEIGHBOUR: 'it returns false'. Refute it at one input. -/
def totalsValidateWrong : ChangeSpec := { name := "totalsValidate", fn := fun _ => fun
  | [d1, d2, d3] => { results := [.lit (.bool false)], args := [d1, d2, d3] }
  | _ => none }
def TotalsValidateWrongFalsely : Prop := totalsValidateRow.holds Tryz.pinned (OpenSpec.ofChange totalsValidateWrong)

/-- 'pairinglaw38.TotalsLimits': WHATEVER THE INPUT: true; the input reads as it did. -/
def totalsLimitsSpec : ChangeSpec := { name := "totalsLimits", fn := fun _ => fun
  | [d1, d2, d3, d4] => { results := [.lit (.bool true)], args := [d1, d2, d3, d4] }
  | _ => none }
def totalsLimitsRow : OpenClaim := { program := "ytfenhjpkomldcaagreat", sum := "019addd354c59d523d759a229d321dde8ebd0a935633eb055211f13f94938f28", func := "pairing/pairinglaw38.TotalsLimits", spec := "totalsLimits", inPlace := ["internal/bytealg.IndexByteString", "internal/bytealg.IndexString"], unfollowed := true, recurses := true, named := ["internal/bytealg.MaxLen"], plainKeys := false, apart := false }
def TotalsLimitsSaid : Prop := totalsLimitsRow.holds Tryz.pinned (OpenSpec.ofChange totalsLimitsSpec)

/-- ITS FALSE NEIGHBOUR: 'it returns false'. Refute it at one input. -/
def totalsLimitsWrong : ChangeSpec := { name := "totalsLimits", fn := fun _ => fun
  | [d1, d2, d3, d4] => { results := [.lit (.bool false)], args := [d1, d2, d3, d4] }
  | _ => none }
def TotalsLimitsWrongFalsely : Prop := totalsLimitsRow.holds Tryz.pinned (OpenSpec.ofChange totalsLimitsWrong)

/-- 'pairinglaw38.TotalsMost': WHATEVER THE INPUT: true; the input reads as it did. -/
def totalsMostSpec : ChangeSpec := { name := "totalsMost", fn := fun _ => fun
  | [d1, d2, d3] => { results := [.lit (.bool true)], args := [d1, d2, d3] }
  | _ => none }
def totalsMostRow : OpenClaim := { program := "ytfenhjpkomldcaagreat", sum := "019addd354c59d523d759a229d321dde8ebd0a935633eb055211f13f94938f28", func := "pairing/pairinglaw38.TotalsMost", spec := "totalsMost", inPlace := ["internal/bytealg.IndexByteString", "internal/bytealg.IndexString"], unfollowed := true, recurses := true, named := ["internal/bytealg.MaxLen"], plainKeys := false, apart := false }
def TotalsMostSaid : Prop := totalsMostRow.holds Tryz.pinned (OpenSpec.ofChange totalsMostSpec)

/-- ITS FALSE NEIGHBOUR: 'it returns false'. Refute it at one input. -/
def totalsMostWrong : ChangeSpec := { name := "totalsMost", fn := fun _ => fun
  | [d1, d2, d3] => { results := [.lit (.bool false)], args := [d1, d2, d3] }
  | _ => none }
def TotalsMostWrongFalsely : Prop := totalsMostRow.holds Tryz.pinned (OpenSpec.ofChange totalsMostWrong)

/-- 'pairinglaw38.TotalsPays': WHATEVER THE INPUT: true; the input reads as it did. -/
def totalsPaysSpec : ChangeSpec := { name := "totalsPays", fn := fun _ => fun
  | [d1, d2] => { results := [.lit (.bool true)], args := [d1, d2] }
  | _ => none }
def totalsPaysRow : OpenClaim := { program := "ytfenhjpkomldcaagreat", sum := "019addd354c59d523d759a229d321dde8ebd0a935633eb055211f13f94938f28", func := "pairing/pairinglaw38.TotalsPays", spec := "totalsPays", inPlace := ["internal/bytealg.IndexByteString", "internal/bytealg.IndexString"], unfollowed := true, recurses := true, named := ["internal/bytealg.MaxLen"], plainKeys := false, apart := false }
def TotalsPaysSaid : Prop := totalsPaysRow.holds Tryz.pinned (OpenSpec.ofChange totalsPaysSpec)

/-- ITS FALSE NEIGHBOUR: 'it returns false'. Refute it at one input. -/
def totalsPaysWrong : ChangeSpec := { name := "totalsPays", fn := fun _ => fun
  | [d1, d2] => { results := [.lit (.bool false)], args := [d1, d2] }
  | _ => none }
def TotalsPaysWrongFalsely : Prop := totalsPaysRow.holds Tryz.pinned (OpenSpec.ofChange totalsPaysWrong)

/-- 'pairinglaw38.TotalsDaysOff': WHATEVER THE INPUT: true; the input reads as it did. -/
def totalsDaysOffSpec : ChangeSpec := { name := "totalsDaysOff", fn := fun _ => fun
  | [d1, d2, d3, d4] => { results := [.lit (.bool true)], args := [d1, d2, d3, d4] }
  | _ => none }
def totalsDaysOffRow : OpenClaim := { program := "ytfenhjpkomldcaagreat", sum := "019addd354c59d523d759a229d321dde8ebd0a935633eb055211f13f94938f28", func := "pairing/pairinglaw38.TotalsDaysOff", spec := "totalsDaysOff", inPlace := ["internal/bytealg.IndexByteString", "internal/bytealg.IndexString"], unfollowed := true, recurses := true, named := ["internal/bytealg.MaxLen"], plainKeys := false, apart := false }
def TotalsDaysOffSaid : Prop := totalsDaysOffRow.holds Tryz.pinned (OpenSpec.ofChange totalsDaysOffSpec)

/-- ITS FALSE NEIGHBOUR: 'it returns false'. Refute it at one input. -/
def totalsDaysOffWrong : ChangeSpec := { name := "totalsDaysOff", fn := fun _ => fun
  | [d1, d2, d3, d4] => { results := [.lit (.bool false)], args := [d1, d2, d3, d4] }
  | _ => none }
def TotalsDaysOffWrongFalsely : Prop := totalsDaysOffRow.holds Tryz.pinned (OpenSpec.ofChange totalsDaysOffWrong)

/-- 'pairinglaw38.TotalsGrow': WHATEVER THE INPUT: true; the input reads as it did. -/
def totalsGrowSpec : ChangeSpec := { name := "totalsGrow", fn := fun _ => fun
  | [d1, d2, d3] => { results := [.lit (.bool true)], args := [d1, d2, d3] }
  | _ => none }
def totalsGrowRow : OpenClaim := { program := "ytfenhjpkomldcaagreat", sum := "019addd354c59d523d759a229d321dde8ebd0a935633eb055211f13f94938f28", func := "pairing/pairinglaw38.TotalsGrow", spec := "totalsGrow", inPlace := ["internal/bytealg.IndexByteString", "internal/bytealg.IndexString"], unfollowed := true, recurses := true, named := ["internal/bytealg.MaxLen"], plainKeys := false, apart := false }
def TotalsGrowSaid : Prop := totalsGrowRow.holds Tryz.pinned (OpenSpec.ofChange totalsGrowSpec)

/-- ITS FALSE NEIGHBOUR: 'it returns false'. Refute it at one input. -/
def totalsGrowWrong : ChangeSpec := { name := "totalsGrow", fn := fun _ => fun
  | [d1, d2, d3] => { results := [.lit (.bool false)], args := [d1, d2, d3] }
  | _ => none }
def TotalsGrowWrongFalsely : Prop := totalsGrowRow.holds Tryz.pinned (OpenSpec.ofChange totalsGrowWrong)

/-- 'pairinglaw38.TotalsMoves': WHATEVER THE INPUT: true; the input reads as it did. -/
def totalsMovesSpec : ChangeSpec := { name := "totalsMoves", fn := fun _ => fun
  | [d1, d2, d3] => { results := [.lit (.bool true)], args := [d1, d2, d3] }
  | _ => none }
def totalsMovesRow : OpenClaim := { program := "ytfenhjpkomldcaagreat", sum := "019addd354c59d523d759a229d321dde8ebd0a935633eb055211f13f94938f28", func := "pairing/pairinglaw38.TotalsMoves", spec := "totalsMoves", inPlace := ["internal/bytealg.IndexByteString", "internal/bytealg.IndexString"], unfollowed := true, recurses := true, named := ["internal/bytealg.MaxLen"], plainKeys := false, apart := false }
def TotalsMovesSaid : Prop := totalsMovesRow.holds Tryz.pinned (OpenSpec.ofChange totalsMovesSpec)

/-- ITS FALSE NEIGHBOUR: 'it returns false'. Refute it at one input. -/
def totalsMovesWrong : ChangeSpec := { name := "totalsMoves", fn := fun _ => fun
  | [d1, d2, d3] => { results := [.lit (.bool false)], args := [d1, d2, d3] }
  | _ => none }
def TotalsMovesWrongFalsely : Prop := totalsMovesRow.holds Tryz.pinned (OpenSpec.ofChange totalsMovesWrong)

/-- 'pairinglaw17.FoldExact': WHATEVER THE INPUT: true; the input reads as it did. -/
def foldExactSpec : ChangeSpec := { name := "foldExact", fn := fun _ => fun
  | [d1, d2, d3] => { results := [.lit (.bool true)], args := [d1, d2, d3] }
  | _ => none }
def foldExactRow : OpenClaim := { program := "ytfenhjpkomldcaagreat", sum := "019addd354c59d523d759a229d321dde8ebd0a935633eb055211f13f94938f28", func := "pairing/pairinglaw17.FoldExact", spec := "foldExact", inPlace := ["internal/bytealg.IndexByteString", "internal/bytealg.IndexString"], unfollowed := true, recurses := true, named := ["internal/bytealg.MaxLen"], loops := true, plainKeys := false, apart := false }
def FoldExactSaid : Prop := foldExactRow.holds Tryz.pinned (OpenSpec.ofChange foldExactSpec)

/-- ITS FALSE NEIGHBOUR: 'it returns false'. Refute it at one input. -/
def foldExactWrong : ChangeSpec := { name := "foldExact", fn := fun _ => fun
  | [d1, d2, d3] => { results := [.lit (.bool false)], args := [d1, d2, d3] }
  | _ => none }
def FoldExactWrongFalsely : Prop := foldExactRow.holds Tryz.pinned (OpenSpec.ofChange foldExactWrong)

/-- 'pairinglaw17.FoldMeaning': WHATEVER THE INPUT: true; the input reads as it did. -/
def foldMeaningSpec : ChangeSpec := { name := "foldMeaning", fn := fun _ => fun
  | [d1, d2, d3, d4] => { results := [.lit (.bool true)], args := [d1, d2, d3, d4] }
  | _ => none }
def foldMeaningRow : OpenClaim := { program := "ytfenhjpkomldcaagreat", sum := "019addd354c59d523d759a229d321dde8ebd0a935633eb055211f13f94938f28", func := "pairing/pairinglaw17.FoldMeaning", spec := "foldMeaning", inPlace := ["internal/bytealg.IndexByteString", "internal/bytealg.IndexString"], unfollowed := true, recurses := true, named := ["internal/bytealg.MaxLen"], plainKeys := false, apart := false }
def FoldMeaningSaid : Prop := foldMeaningRow.holds Tryz.pinned (OpenSpec.ofChange foldMeaningSpec)

/-- ITS FALSE NEIGHBOUR: 'it returns false'. Refute it at one input. -/
def foldMeaningWrong : ChangeSpec := { name := "foldMeaning", fn := fun _ => fun
  | [d1, d2, d3, d4] => { results := [.lit (.bool false)], args := [d1, d2, d3, d4] }
  | _ => none }
def FoldMeaningWrongFalsely : Prop := foldMeaningRow.holds Tryz.pinned (OpenSpec.ofChange foldMeaningWrong)

/- THE SECOND FORM. 'bulk': how many values and letters a reading holds, each counted each time it is reached (what is shared counts as often as it is met; a slice's spare places count too). A statement '..UptoSaid' is the law's where the arguments, and the package variables that the reading takes, are together of bulk at most 1048576: NARROWER than '..Said'. Prove '..Said' where nothing that the law and all that it calls make is longer than what came in: it says more and counts as full. Else prove '..UptoSaid'. A law counts once. -/
mutual
def uptoBulk {H : Type} : DataW H → Nat
  | .lit (.string bytes) => bytes.length + 1
  | .lit _ => 1
  | .nil => 1
  | .ptr d => uptoBulk d + 1
  | .slice elems spare => uptoBulkAll elems + uptoBulkAll spare + 1
  | .agg parts => uptoBulkAll parts + 1
  | .iface _ d => uptoBulk d + 1
  | .map entries => uptoBulkEntries entries + 1
  | .held _ => 1
def uptoBulkAll {H : Type} : List (DataW H) → Nat
  | [] => 0
  | d :: r => uptoBulk d + uptoBulkAll r
def uptoBulkEntries {H : Type} : List (Lit × DataW H) → Nat
  | [] => 0
  | x :: r => uptoBulkEntry x + uptoBulkEntries r
def uptoBulkEntry {H : Type} : Lit × DataW H → Nat
  | (.string bytes, d) => bytes.length + uptoBulk d + 1
  | (_, d) => uptoBulk d + 1
 end
def uptoSmall : (H : Type) → List (DataW H) → Bool := fun _ ds => decide (uptoBulkAll ds ≤ 1048576)
def OpenSpec.upto (s : _root_.Go.ChangeSpec) : _root_.Go.OpenSpec := { _root_.Go.OpenSpec.ofChange s with cond := some uptoSmall }

/-- 'pairinglaw17.FoldBuilt', WHERE WHAT IT READS IS OF BULK AT MOST 1048576: true; the input reads as it did. -/
def foldBuiltUptoRow : OpenClaim := { program := "ytfenhjpkomldcaagreat", sum := "019addd354c59d523d759a229d321dde8ebd0a935633eb055211f13f94938f28", func := "pairing/pairinglaw17.FoldBuilt", spec := "foldBuilt", inPlace := ["internal/bytealg.IndexByteString", "internal/bytealg.IndexString"], unfollowed := true, recurses := true, named := ["internal/bytealg.MaxLen"], plainKeys := false, apart := false, narrowed := true }
def FoldBuiltUptoSaid : Prop := foldBuiltUptoRow.holds Tryz.pinned (OpenSpec.upto foldBuiltSpec)

/-- 'pairinglaw17.FoldRules', WHERE WHAT IT READS IS OF BULK AT MOST 1048576: true; the input reads as it did. -/
def foldRulesUptoRow : OpenClaim := { program := "ytfenhjpkomldcaagreat", sum := "019addd354c59d523d759a229d321dde8ebd0a935633eb055211f13f94938f28", func := "pairing/pairinglaw17.FoldRules", spec := "foldRules", inPlace := ["internal/bytealg.IndexByteString", "internal/bytealg.IndexString"], unfollowed := true, recurses := true, named := ["internal/bytealg.MaxLen"], plainKeys := false, apart := false, narrowed := true }
def FoldRulesUptoSaid : Prop := foldRulesUptoRow.holds Tryz.pinned (OpenSpec.upto foldRulesSpec)

/-- 'pairinglaw17.FoldContracts', WHERE WHAT IT READS IS OF BULK AT MOST 1048576: true; the input reads as it did. -/
def foldContractsUptoRow : OpenClaim := { program := "ytfenhjpkomldcaagreat", sum := "019addd354c59d523d759a229d321dde8ebd0a935633eb055211f13f94938f28", func := "pairing/pairinglaw17.FoldContracts", spec := "foldContracts", inPlace := ["internal/bytealg.IndexByteString", "internal/bytealg.IndexString"], unfollowed := true, recurses := true, named := ["internal/bytealg.MaxLen"], loops := true, plainKeys := false, apart := false, narrowed := true }
def FoldContractsUptoSaid : Prop := foldContractsUptoRow.holds Tryz.pinned (OpenSpec.upto foldContractsSpec)

/-- 'pairinglaw38.TotalsValidate', WHERE WHAT IT READS IS OF BULK AT MOST 1048576: true; the input reads as it did. -/
def totalsValidateUptoRow : OpenClaim := { program := "ytfenhjpkomldcaagreat", sum := "019addd354c59d523d759a229d321dde8ebd0a935633eb055211f13f94938f28", func := "pairing/pairinglaw38.TotalsValidate", spec := "totalsValidate", inPlace := ["internal/bytealg.IndexByteString", "internal/bytealg.IndexString"], unfollowed := true, recurses := true, named := ["internal/bytealg.MaxLen"], plainKeys := false, apart := false, narrowed := true }
def TotalsValidateUptoSaid : Prop := totalsValidateUptoRow.holds Tryz.pinned (OpenSpec.upto totalsValidateSpec)

/-- 'pairinglaw38.TotalsLimits', WHERE WHAT IT READS IS OF BULK AT MOST 1048576: true; the input reads as it did. -/
def totalsLimitsUptoRow : OpenClaim := { program := "ytfenhjpkomldcaagreat", sum := "019addd354c59d523d759a229d321dde8ebd0a935633eb055211f13f94938f28", func := "pairing/pairinglaw38.TotalsLimits", spec := "totalsLimits", inPlace := ["internal/bytealg.IndexByteString", "internal/bytealg.IndexString"], unfollowed := true, recurses := true, named := ["internal/bytealg.MaxLen"], plainKeys := false, apart := false, narrowed := true }
def TotalsLimitsUptoSaid : Prop := totalsLimitsUptoRow.holds Tryz.pinned (OpenSpec.upto totalsLimitsSpec)

/-- 'pairinglaw38.TotalsMost', WHERE WHAT IT READS IS OF BULK AT MOST 1048576: true; the input reads as it did. -/
def totalsMostUptoRow : OpenClaim := { program := "ytfenhjpkomldcaagreat", sum := "019addd354c59d523d759a229d321dde8ebd0a935633eb055211f13f94938f28", func := "pairing/pairinglaw38.TotalsMost", spec := "totalsMost", inPlace := ["internal/bytealg.IndexByteString", "internal/bytealg.IndexString"], unfollowed := true, recurses := true, named := ["internal/bytealg.MaxLen"], plainKeys := false, apart := false, narrowed := true }
def TotalsMostUptoSaid : Prop := totalsMostUptoRow.holds Tryz.pinned (OpenSpec.upto totalsMostSpec)

/-- 'pairinglaw38.TotalsPays', WHERE WHAT IT READS IS OF BULK AT MOST 1048576: true; the input reads as it did. -/
def totalsPaysUptoRow : OpenClaim := { program := "ytfenhjpkomldcaagreat", sum := "019addd354c59d523d759a229d321dde8ebd0a935633eb055211f13f94938f28", func := "pairing/pairinglaw38.TotalsPays", spec := "totalsPays", inPlace := ["internal/bytealg.IndexByteString", "internal/bytealg.IndexString"], unfollowed := true, recurses := true, named := ["internal/bytealg.MaxLen"], plainKeys := false, apart := false, narrowed := true }
def TotalsPaysUptoSaid : Prop := totalsPaysUptoRow.holds Tryz.pinned (OpenSpec.upto totalsPaysSpec)

/-- 'pairinglaw38.TotalsDaysOff', WHERE WHAT IT READS IS OF BULK AT MOST 1048576: true; the input reads as it did. -/
def totalsDaysOffUptoRow : OpenClaim := { program := "ytfenhjpkomldcaagreat", sum := "019addd354c59d523d759a229d321dde8ebd0a935633eb055211f13f94938f28", func := "pairing/pairinglaw38.TotalsDaysOff", spec := "totalsDaysOff", inPlace := ["internal/bytealg.IndexByteString", "internal/bytealg.IndexString"], unfollowed := true, recurses := true, named := ["internal/bytealg.MaxLen"], plainKeys := false, apart := false, narrowed := true }
def TotalsDaysOffUptoSaid : Prop := totalsDaysOffUptoRow.holds Tryz.pinned (OpenSpec.upto totalsDaysOffSpec)

/-- 'pairinglaw38.TotalsGrow', WHERE WHAT IT READS IS OF BULK AT MOST 1048576: true; the input reads as it did. -/
def totalsGrowUptoRow : OpenClaim := { program := "ytfenhjpkomldcaagreat", sum := "019addd354c59d523d759a229d321dde8ebd0a935633eb055211f13f94938f28", func := "pairing/pairinglaw38.TotalsGrow", spec := "totalsGrow", inPlace := ["internal/bytealg.IndexByteString", "internal/bytealg.IndexString"], unfollowed := true, recurses := true, named := ["internal/bytealg.MaxLen"], plainKeys := false, apart := false, narrowed := true }
def TotalsGrowUptoSaid : Prop := totalsGrowUptoRow.holds Tryz.pinned (OpenSpec.upto totalsGrowSpec)

/-- 'pairinglaw38.TotalsMoves', WHERE WHAT IT READS IS OF BULK AT MOST 1048576: true; the input reads as it did. -/
def totalsMovesUptoRow : OpenClaim := { program := "ytfenhjpkomldcaagreat", sum := "019addd354c59d523d759a229d321dde8ebd0a935633eb055211f13f94938f28", func := "pairing/pairinglaw38.TotalsMoves", spec := "totalsMoves", inPlace := ["internal/bytealg.IndexByteString", "internal/bytealg.IndexString"], unfollowed := true, recurses := true, named := ["internal/bytealg.MaxLen"], plainKeys := false, apart := false, narrowed := true }
def TotalsMovesUptoSaid : Prop := totalsMovesUptoRow.holds Tryz.pinned (OpenSpec.upto totalsMovesSpec)

/-- 'pairinglaw17.FoldExact', WHERE WHAT IT READS IS OF BULK AT MOST 1048576: true; the input reads as it did. -/
def foldExactUptoRow : OpenClaim := { program := "ytfenhjpkomldcaagreat", sum := "019addd354c59d523d759a229d321dde8ebd0a935633eb055211f13f94938f28", func := "pairing/pairinglaw17.FoldExact", spec := "foldExact", inPlace := ["internal/bytealg.IndexByteString", "internal/bytealg.IndexString"], unfollowed := true, recurses := true, named := ["internal/bytealg.MaxLen"], loops := true, plainKeys := false, apart := false, narrowed := true }
def FoldExactUptoSaid : Prop := foldExactUptoRow.holds Tryz.pinned (OpenSpec.upto foldExactSpec)

/-- 'pairinglaw17.FoldMeaning', WHERE WHAT IT READS IS OF BULK AT MOST 1048576: true; the input reads as it did. -/
def foldMeaningUptoRow : OpenClaim := { program := "ytfenhjpkomldcaagreat", sum := "019addd354c59d523d759a229d321dde8ebd0a935633eb055211f13f94938f28", func := "pairing/pairinglaw17.FoldMeaning", spec := "foldMeaning", inPlace := ["internal/bytealg.IndexByteString", "internal/bytealg.IndexString"], unfollowed := true, recurses := true, named := ["internal/bytealg.MaxLen"], plainKeys := false, apart := false, narrowed := true }
def FoldMeaningUptoSaid : Prop := foldMeaningUptoRow.holds Tryz.pinned (OpenSpec.upto foldMeaningSpec)

end Rows
end Go.Proofs.YtfenhjpkomldcaaGreat
