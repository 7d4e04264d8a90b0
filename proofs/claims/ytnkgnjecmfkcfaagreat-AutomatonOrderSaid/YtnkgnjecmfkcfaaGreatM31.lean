/- Walks of functions of the program and of the reference, and their plain laws, part 31. Conditions: the theorems' own. -/
import Derived.Test.YtnkgnjecmfkcfaaGreatGS
import Derived.Test.YtnkgnjecmfkcfaaGreatM28
import Derived.KernelRfl
set_option maxRecDepth 1000000
set_option linter.unusedVariables false
set_option maxHeartbeats 16000000
namespace Go.Proofs.YtnkgnjecmfkcfaaGreat
open Go Go.Ev
theorem aDS: ∀n∈xU,∃r s,ae pE 87 [.i .i64 1,.s n] []=some (r,s)∧(match r with| .tup [.i .i64 k,.i .i64 0]=>decide (k≠3)|_=>false)=true:=Rp _ _ _ _ (by kernel_rfl)
theorem aDT: ∀p∈trB.flatMap (fun a=>trB.map fun b=>(a,b)),∃r s,ae pE 89 [.i .i64 p.1,.i .i64 p.2] []=some (r,s)∧pK r=true:=Rp _ _ _ _ (by kernel_rfl)
theorem aDU: ∀p∈uR.flatMap (fun x=>xU.map fun n=>(x,n)),∃r s,ae pE 156 [.agg [.s p.2,.b false],.agg (mR p.1)] []=some (r,s)∧pK r=true:=Rp _ _ _ _ (by kernel_rfl)
theorem qr0(k:Int): ∀p∈(jK.take 8).flatMap (fun u=>xU.map fun n=>(u,n)),∃r s,ae pE 90 [.i .i64 p.1.sc,.agg (mR p.1.x),.s p.2,.b false,.i .i64 k,.b false] []=some (r,s)∧pK r=true:=Rp _ _ _ _ (by kernel_rfl)
theorem qr1(k:Int): ∀p∈((jK.drop 8).take 7).flatMap (fun u=>xU.map fun n=>(u,n)),∃r s,ae pE 90 [.i .i64 p.1.sc,.agg (mR p.1.x),.s p.2,.b false,.i .i64 k,.b false] []=some (r,s)∧pK r=true:=Rp _ _ _ _ (by kernel_rfl)
end Go.Proofs.YtnkgnjecmfkcfaaGreat
