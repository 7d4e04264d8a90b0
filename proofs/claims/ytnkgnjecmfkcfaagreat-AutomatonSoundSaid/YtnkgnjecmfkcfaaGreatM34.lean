/- Walks, plain laws (34). Conditions: the theorems' own. -/
import Derived.Test.YtnkgnjecmfkcfaaGreatM33
set_option maxRecDepth 1000000
set_option linter.all false
set_option maxHeartbeats 16000000
namespace Go.Proofs.YtnkgnjecmfkcfaaGreat
open Go Go.Ev
def aJI{α:Type}(L:List α)(f:Nat)(g:α→List T)(p:α→T→Bool)(h:(L.all fun x=>match ow pE 1000 f (g x) []with|some (r,_)=>p x r|none=>false)=true): ∀x∈L,∃r s,ae pE f (g x) []=some (r,s)∧p x r=true:=fun x hx=>by
 have h1:=List.all_eq_true.1 h x hx
 cases hc:ow pE 1000 f (g x) []with
 |none=>rw[hc]at h1;cases h1
 |some q=>
  obtain⟨r,s⟩:=q
  rw[hc]at h1
  obtain⟨D,e⟩:=G8 (m:=1000) (v:=r) (show(ow pE 1000 f (g x) []).map (·.1)=some r by rw[hc];rfl)
  exact⟨r,D,e,h1⟩
def zpR:List (Ru×List Nat×Int):=(Rl.zip Ri).flatMap fun p=>(lF.zip p.2).map fun x=>(p.1,x)
def zpC:List (Co×List Nat×Int):=(FZ.zip Rj).flatMap fun p=>(lF.zip p.2).map fun x=>(p.1,x)
def qxR(k:Int): ∀w∈zpR,∃s,ae pE 90 [qi w.1.sc,.agg (mE w.1.x),.s w.2.1,.b false,qi k,.b false] []=some (qi w.2.2,s):=dK _ _ _ _
def qxC(k:Int): ∀w∈zpC,∃s,ae pE 90 [qi w.1.sc,.agg (mE w.1.x),.s w.2.1,.b false,qi k,.b true] []=some (qi w.2.2,s):=dK _ _ _ _
def cbX: ∀p∈trB.flatMap (fun a=>trB.map fun b=>(a,b)),∃r s,ae pE 89 [.i .i64 p.1,.i .i64 p.2] []=some (r,s)∧(match r with| .i .i64 t=>decide ((0≤t∧t≤3)∧(p.1=0∨p.1=t∨t=3)∧(p.2=0∨p.2=t∨t=3))|_=>false)=true:=aJI _ _ _ _ (by kernel_rfl)
end Go.Proofs.YtnkgnjecmfkcfaaGreat
