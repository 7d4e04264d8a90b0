/- The place of a byte in a string, by the shelf's contract, as the evaluator meets it. Conditions: none. -/
import Derived.Test.YtblcbheipjeoeaaGreatEvD
import Derived.Test.YtblcbheipjeoeaaGreatIdx
import Derived.Test.YtblcbheipjeoeaaGreatChecked
import Derived.KernelRfl
import Derived.ProofKit
set_option linter.unusedSimpArgs false
set_option linter.unusedVariables false
namespace Go.Proofs
open Go Go.Ev Go.RowKit
def IH:List Nat→Nat→Int
 | [],_=> -1
 |b::l,c=>if b=c then 0 else if IH l c= -1 then-1 else IH l c+1
def Tc:List T→Option T
 | [.s l,.s [c]]=>some (.i .i64 (IH l c))
 |_=>none
def vS:List T→Option (List (List Nat))
 | []=>some []
 | .s l::cs=>(vS cs).map (l:: ·)
 |_::_=>none
theorem Tryz.idxOk:NN Tryz.prog 326 Tc:=by
 refine⟨⟨_,Tryz.func326,by kernel_rfl,by kernel_rfl⟩, ?_⟩
 intro args r hg w M gw hM hp
 unfold Tc at hg
 split at hg
 ·rename_i l c
  cases hg
  simp only[PList,PRel]at hp
  obtain⟨u,us,e1,⟨bs,rfl,hb⟩,v,vs,rfl,⟨bc,rfl,hc⟩,rfl⟩:=hp
  obtain rfl:gw= #[.string bs,.string bc]:=by cases gw;simp_all
  obtain⟨c',rfl,j6⟩: ∃c':UInt8,bc=⟨#[c']⟩∧c'.toNat=c:=by
   obtain⟨⟨lc⟩⟩:=bc
   simp only[ga]at hc
   match lc,hc with
   | [x],hc=>exact⟨x,rfl,by simpa using hc⟩
  refine(Tryz.stringslite_Index_one bs c' w).mono ?_
  rintro e w' ⟨rfl,rfl⟩
  refine⟨_,rfl,⟨rfl,rfl,rfl,Nat.le_refl _,fun _ _=>rfl⟩, ?_⟩
  simp only[PRel]
  have key: ∀(x:List UInt8),Lib.indexByte x c'=IH (x.map UInt8.toNat) c:=by
   intro x
   induction x with
   |nil=>rfl
   |cons b x ih=>
    simp only[Lib.indexByte,List.map_cons,IH,ih]
    have:(b==c')=decide (b.toNat=c):=by
     rw[←j6]
     by_cases h:b=c'
     ·subst h;simp
     ·have:b.toNat≠c'.toNat:=fun e=>h (UInt8.toNat_inj.1 e)
      simp[h,this]
    rw[this]
    by_cases h:b.toNat=c <;> simp[h]
  rw[key,←hb]
  rfl
 ·cases hg
end Go.Proofs
