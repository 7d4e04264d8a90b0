/- Walks, plain laws (32). Conditions: the theorems' own. -/
import Derived.Test.YtnkgnjecmfkcfaaGreatM28
set_option maxRecDepth 1000000
set_option linter.all false
set_option maxHeartbeats 16000000
namespace Go.Proofs.YtnkgnjecmfkcfaaGreat
open Go Go.Ev
def qr3(k:Int): ∀p∈(iX.drop 16).flatMap (fun u=>lF.map fun n=>(u,n)),∃r s,ae pE 90 [qi p.1.sc,.agg (mE p.1.x),.s p.2,.b false,qi k,.b false] []=some (r,s)∧rH r=true:=Ve _ _ _ _
def qc0(k:Int): ∀p∈(ic.take 6).flatMap (fun u=>lF.map fun n=>(u,n)),∃r s,ae pE 90 [qi p.1.sc,.agg (mE p.1.x),.s p.2,.b false,qi k,.b true] []=some (r,s)∧rH r=true:=Ve _ _ _ _
def qc2(k:Int): ∀p∈((ic.drop 7).take 2).flatMap (fun u=>lF.map fun n=>(u,n)),∃r s,ae pE 90 [qi p.1.sc,.agg (mE p.1.x),.s p.2,.b false,qi k,.b true] []=some (r,s)∧rH r=true:=Ve _ _ _ _
def aJs(k:Int): ∀p∈(ic.drop 9).flatMap (fun u=>lF.map fun n=>(u,n)),∃r s,ae pE 90 [qi p.1.sc,.agg (mE (jJ 0 p.1.x)),.s p.2,.b false,qi k,.b true] []=some (r,s)∧rH r=true:=Ve _ _ _ _
def aJt(k:Int): ∀p∈(ic.drop 9).flatMap (fun u=>lF.map fun n=>(u,n)),∃r s,ae pE 90 [qi p.1.sc,.agg (mE (jJ 1 p.1.x)),.s p.2,.b false,qi k,.b true] []=some (r,s)∧rH r=true:=Ve _ _ _ _
def aJu(k:Int): ∀p∈(ic.drop 9).flatMap (fun u=>lF.map fun n=>(u,n)),∃r s,ae pE 90 [qi p.1.sc,.agg (mE (jJ 2 p.1.x)),.s p.2,.b false,qi k,.b true] []=some (r,s)∧rH r=true:=Ve _ _ _ _
def qr2(k:Int)(hk:k∈trB): ∀p∈((iX.drop 15).take 1).flatMap (fun u=>lF.map fun n=>(u,n)),∃r s,ae pE 90 [qi p.1.sc,.agg (mE p.1.x),.s p.2,.b false,qi k,.b false] []=some (r,s)∧rH r=true:=by
 have h: ∀q∈((iX.drop 15).take 1).flatMap (fun u=>lF.flatMap fun n=>trB.map fun k=>((u,n),k)),∃r s,ae pE 90 [qi q.1.1.sc,.agg (mE q.1.1.x),.s q.1.2,.b false,qi q.2,.b false] []=some (r,s)∧rH r=true:=Ve _ _ _ _
 intro p D
 refine h (p,k) ?_
 simp only[List.mem_flatMap,List.mem_map]at D ⊢
 obtain⟨u,F,n,H,rfl⟩:=D
 exact⟨u,F,n,H,k,hk,rfl⟩
def qc1(k:Int)(hk:k∈trB): ∀p∈((ic.drop 6).take 1).flatMap (fun u=>lF.map fun n=>(u,n)),∃r s,ae pE 90 [qi p.1.sc,.agg (mE p.1.x),.s p.2,.b false,qi k,.b true] []=some (r,s)∧rH r=true:=by
 have h: ∀q∈((ic.drop 6).take 1).flatMap (fun u=>lF.flatMap fun n=>trB.map fun k=>((u,n),k)),∃r s,ae pE 90 [qi q.1.1.sc,.agg (mE q.1.1.x),.s q.1.2,.b false,qi q.2,.b true] []=some (r,s)∧rH r=true:=Ve _ _ _ _
 intro p D
 refine h (p,k) ?_
 simp only[List.mem_flatMap,List.mem_map]at D ⊢
 obtain⟨u,F,n,H,rfl⟩:=D
 exact⟨u,F,n,H,k,hk,rfl⟩
end Go.Proofs.YtnkgnjecmfkcfaaGreat
