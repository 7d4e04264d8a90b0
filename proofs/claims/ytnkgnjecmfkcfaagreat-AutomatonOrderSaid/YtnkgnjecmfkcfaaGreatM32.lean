/- Walks of functions of the program and of the reference, and their plain laws, part 32. Conditions: the theorems' own. -/
import Derived.Test.YtnkgnjecmfkcfaaGreatGS
import Derived.Test.YtnkgnjecmfkcfaaGreatM28
import Derived.KernelRfl
set_option maxRecDepth 1000000
set_option linter.unusedVariables false
set_option maxHeartbeats 16000000
namespace Go.Proofs.YtnkgnjecmfkcfaaGreat
open Go Go.Ev
theorem qr3(k:Int): ∀p∈(jK.drop 16).flatMap (fun u=>xU.map fun n=>(u,n)),∃r s,ae pE 90 [.i .i64 p.1.sc,.agg (mR p.1.x),.s p.2,.b false,.i .i64 k,.b false] []=some (r,s)∧pK r=true:=Rp _ _ _ _ (by kernel_rfl)
theorem qc0(k:Int): ∀p∈(iS.take 6).flatMap (fun u=>xU.map fun n=>(u,n)),∃r s,ae pE 90 [.i .i64 p.1.sc,.agg (mR p.1.x),.s p.2,.b false,.i .i64 k,.b true] []=some (r,s)∧pK r=true:=Rp _ _ _ _ (by kernel_rfl)
theorem qc2(k:Int): ∀p∈((iS.drop 7).take 2).flatMap (fun u=>xU.map fun n=>(u,n)),∃r s,ae pE 90 [.i .i64 p.1.sc,.agg (mR p.1.x),.s p.2,.b false,.i .i64 k,.b true] []=some (r,s)∧pK r=true:=Rp _ _ _ _ (by kernel_rfl)
theorem aDV(k:Int): ∀p∈(iS.drop 9).flatMap (fun u=>xU.map fun n=>(u,n)),∃r s,ae pE 90 [.i .i64 p.1.sc,.agg (mR (kb 0 p.1.x)),.s p.2,.b false,.i .i64 k,.b true] []=some (r,s)∧pK r=true:=Rp _ _ _ _ (by kernel_rfl)
theorem aDW(k:Int): ∀p∈(iS.drop 9).flatMap (fun u=>xU.map fun n=>(u,n)),∃r s,ae pE 90 [.i .i64 p.1.sc,.agg (mR (kb 1 p.1.x)),.s p.2,.b false,.i .i64 k,.b true] []=some (r,s)∧pK r=true:=Rp _ _ _ _ (by kernel_rfl)
theorem aDX(k:Int): ∀p∈(iS.drop 9).flatMap (fun u=>xU.map fun n=>(u,n)),∃r s,ae pE 90 [.i .i64 p.1.sc,.agg (mR (kb 2 p.1.x)),.s p.2,.b false,.i .i64 k,.b true] []=some (r,s)∧pK r=true:=Rp _ _ _ _ (by kernel_rfl)
theorem qr2(k:Int)(hk:k∈trB): ∀p∈((jK.drop 15).take 1).flatMap (fun u=>xU.map fun n=>(u,n)),∃r s,ae pE 90 [.i .i64 p.1.sc,.agg (mR p.1.x),.s p.2,.b false,.i .i64 k,.b false] []=some (r,s)∧pK r=true:=by
 have h: ∀q∈((jK.drop 15).take 1).flatMap (fun u=>xU.flatMap fun n=>trB.map fun k=>((u,n),k)),∃r s,ae pE 90 [.i .i64 q.1.1.sc,.agg (mR q.1.1.x),.s q.1.2,.b false,.i .i64 q.2,.b false] []=some (r,s)∧pK r=true:=Rp _ _ _ _ (by kernel_rfl)
 intro p D
 refine h (p,k) ?_
 simp only[List.mem_flatMap,List.mem_map]at D ⊢
 obtain⟨u,F,n,H,rfl⟩:=D
 exact⟨u,F,n,H,k,hk,rfl⟩
theorem qc1(k:Int)(hk:k∈trB): ∀p∈((iS.drop 6).take 1).flatMap (fun u=>xU.map fun n=>(u,n)),∃r s,ae pE 90 [.i .i64 p.1.sc,.agg (mR p.1.x),.s p.2,.b false,.i .i64 k,.b true] []=some (r,s)∧pK r=true:=by
 have h: ∀q∈((iS.drop 6).take 1).flatMap (fun u=>xU.flatMap fun n=>trB.map fun k=>((u,n),k)),∃r s,ae pE 90 [.i .i64 q.1.1.sc,.agg (mR q.1.1.x),.s q.1.2,.b false,.i .i64 q.2,.b true] []=some (r,s)∧pK r=true:=Rp _ _ _ _ (by kernel_rfl)
 intro p D
 refine h (p,k) ?_
 simp only[List.mem_flatMap,List.mem_map]at D ⊢
 obtain⟨u,F,n,H,rfl⟩:=D
 exact⟨u,F,n,H,k,hk,rfl⟩
end Go.Proofs.YtnkgnjecmfkcfaaGreat
