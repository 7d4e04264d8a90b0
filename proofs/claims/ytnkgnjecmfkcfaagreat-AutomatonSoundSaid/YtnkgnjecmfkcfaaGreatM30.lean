/- Walks, plain laws (30). Conditions: the theorems' own. -/
import Derived.Test.YtnkgnjecmfkcfaaGreatM28
set_option maxRecDepth 1000000
set_option linter.all false
set_option maxHeartbeats 16000000
namespace Go.Proofs.YtnkgnjecmfkcfaaGreat
open Go Go.Ev
def exV:List Ex:=prC.map (fun p=>jJ 0 p.2)++((oB.drop 27).take 1).flatMap fun p=> [jJ 0 p.2,jJ 1 p.2,jJ 2 p.2]
def vlK: ∀x∈exV,∃s,ae pE 215 [.agg (mE x)] []=some (qi 0,s):=dK _ _ _ _
def aJq: ∀n∈lF,∃r s,ae pE 87 [.i .i64 1,.s n] []=some (r,s)∧(match r with| .tup [.i .i64 k,.i .i64 0]=>decide (k≠3)|_=>false)=true:=Ve _ _ _ _
def aJr: ∀p∈wJ.flatMap (fun x=>lF.map fun n=>(x,n)),∃r s,ae pE 156 [.agg [.s p.2,.b false],.agg (mE p.1)] []=some (r,s)∧rH r=true:=Ve _ _ _ _
def qr0(k:Int): ∀p∈(iX.take 8).flatMap (fun u=>lF.map fun n=>(u,n)),∃r s,ae pE 90 [qi p.1.sc,.agg (mE p.1.x),.s p.2,.b false,qi k,.b false] []=some (r,s)∧rH r=true:=Ve _ _ _ _
def qr1(k:Int): ∀p∈((iX.drop 8).take 7).flatMap (fun u=>lF.map fun n=>(u,n)),∃r s,ae pE 90 [qi p.1.sc,.agg (mE p.1.x),.s p.2,.b false,qi k,.b false] []=some (r,s)∧rH r=true:=Ve _ _ _ _
end Go.Proofs.YtnkgnjecmfkcfaaGreat
