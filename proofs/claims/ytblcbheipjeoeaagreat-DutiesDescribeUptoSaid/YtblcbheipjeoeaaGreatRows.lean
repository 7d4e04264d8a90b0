/-
  NARROWER THAN 'FOR EVERY INPUT', by the rows' own cells (each row's printed sentence says how): AutomatonSteps: loops · DutiesExact: loops · DutiesDescribe: loops · AutomatonStates: loops.
  DERIVED. THE GIVEN ROWS OF THIS SEAT. 4 by the template 'for every input the law returns true; each argument reads behind the call as it read before'; 0 by the template 'total and deterministic' (their statements: YtblcbheipjeoeaaGreatTotals.lean).
  GIVEN WITH THE SEED: the statements are not yours to turn. If you find one false, say at which input.
  Laid BY PROGRAM, IN A SANDBOX (cutbox-rows.mjs): the forced cells as the released guide's own fill.sh prints them over the translation 804f46ca2f1c7483… (all of the seat's roots in one cut). By AI agents, Wed Nov 11 2026. No macro, syntax, notation, axiom, sorry.
-/
import Derived.Test.YtblcbheipjeoeaaGreatChecked
import GoSem.Claim
import GoSem.ClaimJoined
import GoSem.ClaimMapViews
import Derived.JoinedTies
import Derived.KernelRfl
namespace Go.Proofs.YtblcbheipjeoeaaGreat
/- THE CELL 'sum', in the pinned program and in every row, IS THE sha256 OF THE DUMP (.gsa) THAT YtblcbheipjeoeaaGreatProg.lean LOADS. Nothing in Lean hashes anything: it is a label: what it is worth is what the hold of that sum in a sandbox is worth. -/
noncomputable def Tryz.pinned : Pinned := { name := "ytblcbheipjeoeaagreat", sum := "804f46ca2f1c74833f23c302d5ee7714a5846018ce7717bb92591efa79def736", checked := Tryz.checked }
namespace Rows
def none {H : Type} : Left H := { results := [], args := [] }

/-- 'pairinglaw19.AutomatonSteps': WHATEVER THE INPUT: true; the input reads as it did. -/
def automatonStepsSpec : ChangeSpec := { name := "automatonSteps", fn := fun _ => fun
  | [d1, d2, d3, d4, d5] => { results := [.lit (.bool true)], args := [d1, d2, d3, d4, d5] }
  | _ => none }
def automatonStepsRow : OpenClaim := { program := "ytblcbheipjeoeaagreat", sum := "804f46ca2f1c74833f23c302d5ee7714a5846018ce7717bb92591efa79def736", func := "pairing/pairinglaw19.AutomatonSteps", spec := "automatonSteps", inPlace := ["internal/bytealg.IndexByteString", "internal/bytealg.IndexString", "slices.overlaps[string]"], recurses := true, named := ["internal/bytealg.MaxLen"], loops := true, plainKeys := false, apart := false }
def AutomatonStepsSaid : Prop := automatonStepsRow.holds Tryz.pinned (OpenSpec.ofChange automatonStepsSpec)

/-- ITS FALSE NEIGHBOUR: 'it returns false'. Refute it at one input. -/
def automatonStepsWrong : ChangeSpec := { name := "automatonSteps", fn := fun _ => fun
  | [d1, d2, d3, d4, d5] => { results := [.lit (.bool false)], args := [d1, d2, d3, d4, d5] }
  | _ => none }
def AutomatonStepsWrongFalsely : Prop := automatonStepsRow.holds Tryz.pinned (OpenSpec.ofChange automatonStepsWrong)

/-- 'pairinglaw20.DutiesExact': WHATEVER THE INPUT: true; the input reads as it did. -/
def dutiesExactSpec : ChangeSpec := { name := "dutiesExact", fn := fun _ => fun
  | [d1, d2, d3, d4] => { results := [.lit (.bool true)], args := [d1, d2, d3, d4] }
  | _ => none }
def dutiesExactRow : OpenClaim := { program := "ytblcbheipjeoeaagreat", sum := "804f46ca2f1c74833f23c302d5ee7714a5846018ce7717bb92591efa79def736", func := "pairing/pairinglaw20.DutiesExact", spec := "dutiesExact", inPlace := ["internal/bytealg.IndexByteString", "internal/bytealg.IndexString"], unfollowed := true, recurses := true, named := ["internal/bytealg.MaxLen"], loops := true, plainKeys := false, apart := false }
def DutiesExactSaid : Prop := dutiesExactRow.holds Tryz.pinned (OpenSpec.ofChange dutiesExactSpec)

/-- ITS FALSE NEIGHBOUR: 'it returns false'. Refute it at one input. -/
def dutiesExactWrong : ChangeSpec := { name := "dutiesExact", fn := fun _ => fun
  | [d1, d2, d3, d4] => { results := [.lit (.bool false)], args := [d1, d2, d3, d4] }
  | _ => none }
def DutiesExactWrongFalsely : Prop := dutiesExactRow.holds Tryz.pinned (OpenSpec.ofChange dutiesExactWrong)

/-- 'pairinglaw20.DutiesDescribe': WHATEVER THE INPUT: true; the input reads as it did. -/
def dutiesDescribeSpec : ChangeSpec := { name := "dutiesDescribe", fn := fun _ => fun
  | [d1, d2, d3, d4] => { results := [.lit (.bool true)], args := [d1, d2, d3, d4] }
  | _ => none }
def dutiesDescribeRow : OpenClaim := { program := "ytblcbheipjeoeaagreat", sum := "804f46ca2f1c74833f23c302d5ee7714a5846018ce7717bb92591efa79def736", func := "pairing/pairinglaw20.DutiesDescribe", spec := "dutiesDescribe", inPlace := ["internal/bytealg.IndexByteString", "internal/bytealg.IndexString"], unfollowed := true, recurses := true, named := ["internal/bytealg.MaxLen"], loops := true, plainKeys := false, apart := false }
def DutiesDescribeSaid : Prop := dutiesDescribeRow.holds Tryz.pinned (OpenSpec.ofChange dutiesDescribeSpec)

/-- ITS FALSE NEIGHBOUR: 'it returns false'. Refute it at one input. -/
def dutiesDescribeWrong : ChangeSpec := { name := "dutiesDescribe", fn := fun _ => fun
  | [d1, d2, d3, d4] => { results := [.lit (.bool false)], args := [d1, d2, d3, d4] }
  | _ => none }
def DutiesDescribeWrongFalsely : Prop := dutiesDescribeRow.holds Tryz.pinned (OpenSpec.ofChange dutiesDescribeWrong)

/-- 'pairinglaw19.AutomatonStates': WHATEVER THE INPUT: true; the input reads as it did. -/
def automatonStatesSpec : ChangeSpec := { name := "automatonStates", fn := fun _ => fun
  | [d1, d2, d3, d4] => { results := [.lit (.bool true)], args := [d1, d2, d3, d4] }
  | _ => none }
def automatonStatesRow : OpenClaim := { program := "ytblcbheipjeoeaagreat", sum := "804f46ca2f1c74833f23c302d5ee7714a5846018ce7717bb92591efa79def736", func := "pairing/pairinglaw19.AutomatonStates", spec := "automatonStates", inPlace := ["internal/bytealg.IndexByteString", "internal/bytealg.IndexString", "slices.overlaps[string]"], unfollowed := true, recurses := true, named := ["internal/bytealg.MaxLen"], loops := true, plainKeys := false, apart := false }
def AutomatonStatesSaid : Prop := automatonStatesRow.holds Tryz.pinned (OpenSpec.ofChange automatonStatesSpec)

/-- ITS FALSE NEIGHBOUR: 'it returns false'. Refute it at one input. -/
def automatonStatesWrong : ChangeSpec := { name := "automatonStates", fn := fun _ => fun
  | [d1, d2, d3, d4] => { results := [.lit (.bool false)], args := [d1, d2, d3, d4] }
  | _ => none }
def AutomatonStatesWrongFalsely : Prop := automatonStatesRow.holds Tryz.pinned (OpenSpec.ofChange automatonStatesWrong)

/- THE SECOND FORM. 'bulk': how many values and letters a reading holds, each counted each time it is reached (what is shared counts as often as it is met; a slice's spare places count too). A statement '..UptoSaid' is the law's where the arguments, and the package variables that the reading takes, are together of bulk at most 1048576: NARROWER than '..Said'. Prove '..Said' where nothing that the law and all that it calls make is longer than what came in: it says more and counts as full. Else prove '..UptoSaid'. A law counts once. -/
mutual
def uptoBulk {H : Type} : DataW H → Nat
  | .lit (.string bytes) => bytes.length + 1
  | .lit _ => 1
  | .nil => 1
  | .ptr d => uptoBulk d + 1
  | .slice elems spare => uptoBulkAll elems + uptoBulkAll spare + 1
  | .agg parts => uptoBulkAll parts + 1
  | .iface _ d => uptoBulk d + 1
  | .map entries => uptoBulkEntries entries + 1
  | .held _ => 1
def uptoBulkAll {H : Type} : List (DataW H) → Nat
  | [] => 0
  | d :: r => uptoBulk d + uptoBulkAll r
def uptoBulkEntries {H : Type} : List (Lit × DataW H) → Nat
  | [] => 0
  | x :: r => uptoBulkEntry x + uptoBulkEntries r
def uptoBulkEntry {H : Type} : Lit × DataW H → Nat
  | (.string bytes, d) => bytes.length + uptoBulk d + 1
  | (_, d) => uptoBulk d + 1
 end
def uptoSmall : (H : Type) → List (DataW H) → Bool := fun _ ds => decide (uptoBulkAll ds ≤ 1048576)
def OpenSpec.upto (s : _root_.Go.ChangeSpec) : _root_.Go.OpenSpec := { _root_.Go.OpenSpec.ofChange s with cond := some uptoSmall }

/-- 'pairinglaw19.AutomatonSteps', WHERE WHAT IT READS IS OF BULK AT MOST 1048576: true; the input reads as it did. -/
def automatonStepsUptoRow : OpenClaim := { program := "ytblcbheipjeoeaagreat", sum := "804f46ca2f1c74833f23c302d5ee7714a5846018ce7717bb92591efa79def736", func := "pairing/pairinglaw19.AutomatonSteps", spec := "automatonSteps", inPlace := ["internal/bytealg.IndexByteString", "internal/bytealg.IndexString", "slices.overlaps[string]"], recurses := true, named := ["internal/bytealg.MaxLen"], loops := true, plainKeys := false, apart := false, narrowed := true }
def AutomatonStepsUptoSaid : Prop := automatonStepsUptoRow.holds Tryz.pinned (OpenSpec.upto automatonStepsSpec)

/-- 'pairinglaw20.DutiesExact', WHERE WHAT IT READS IS OF BULK AT MOST 1048576: true; the input reads as it did. -/
def dutiesExactUptoRow : OpenClaim := { program := "ytblcbheipjeoeaagreat", sum := "804f46ca2f1c74833f23c302d5ee7714a5846018ce7717bb92591efa79def736", func := "pairing/pairinglaw20.DutiesExact", spec := "dutiesExact", inPlace := ["internal/bytealg.IndexByteString", "internal/bytealg.IndexString"], unfollowed := true, recurses := true, named := ["internal/bytealg.MaxLen"], loops := true, plainKeys := false, apart := false, narrowed := true }
def DutiesExactUptoSaid : Prop := dutiesExactUptoRow.holds Tryz.pinned (OpenSpec.upto dutiesExactSpec)

/-- 'pairinglaw20.DutiesDescribe', WHERE WHAT IT READS IS OF BULK AT MOST 1048576: true; the input reads as it did. -/
def dutiesDescribeUptoRow : OpenClaim := { program := "ytblcbheipjeoeaagreat", sum := "804f46ca2f1c74833f23c302d5ee7714a5846018ce7717bb92591efa79def736", func := "pairing/pairinglaw20.DutiesDescribe", spec := "dutiesDescribe", inPlace := ["internal/bytealg.IndexByteString", "internal/bytealg.IndexString"], unfollowed := true, recurses := true, named := ["internal/bytealg.MaxLen"], loops := true, plainKeys := false, apart := false, narrowed := true }
def DutiesDescribeUptoSaid : Prop := dutiesDescribeUptoRow.holds Tryz.pinned (OpenSpec.upto dutiesDescribeSpec)

/-- 'pairinglaw19.AutomatonStates', WHERE WHAT IT READS IS OF BULK AT MOST 1048576: true; the input reads as it did. -/
def automatonStatesUptoRow : OpenClaim := { program := "ytblcbheipjeoeaagreat", sum := "804f46ca2f1c74833f23c302d5ee7714a5846018ce7717bb92591efa79def736", func := "pairing/pairinglaw19.AutomatonStates", spec := "automatonStates", inPlace := ["internal/bytealg.IndexByteString", "internal/bytealg.IndexString", "slices.overlaps[string]"], unfollowed := true, recurses := true, named := ["internal/bytealg.MaxLen"], loops := true, plainKeys := false, apart := false, narrowed := true }
def AutomatonStatesUptoSaid : Prop := automatonStatesUptoRow.holds Tryz.pinned (OpenSpec.upto automatonStatesSpec)

end Rows
end Go.Proofs.YtblcbheipjeoeaaGreat
