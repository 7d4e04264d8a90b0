/- The place of a byte in a string, by the shelf's contract, as the evaluator meets it. Conditions: none. -/
import Derived.Test.YtnkgnjecmfkcfaaGreatEvD
import Derived.Test.YtnkgnjecmfkcfaaGreatIdx
import Derived.KernelRfl
import Derived.ProofKit
set_option linter.all false
namespace Go.Proofs
open Go Go.Ev Go.RowKit
def idxN:List Nat→Nat→Int
 | [],_=> -1
 |b::l,c=>if b=c then 0 else if idxN l c= -1 then-1 else idxN l c+1
def idxE:List T→Option T
 | [.s l,.s [c]]=>some (.i .i64 (idxN l c))
 |_=>none
def Tryz.idxOk:ExtOk Tryz.prog 316 idxE:=by
 refine⟨⟨_,Tryz.func316,by kernel_rfl,by kernel_rfl⟩, ?_⟩
 intro args r hg w M cargs hM hp
 unfold idxE at hg
 split at hg
 ·rename_i l c
  cases hg
  simp only[PList,PRel]at hp
  obtain⟨u,us,e1,⟨bs,rfl,hb⟩,v,vs,rfl,⟨bc,rfl,hc⟩,rfl⟩:=hp
  obtain rfl:cargs= #[.string bs,.string bc]:=by cases cargs;simp_all
  obtain⟨c',rfl,hcc⟩: ∃c':UInt8,bc=⟨#[c']⟩∧c'.toNat=c:=by
   obtain⟨⟨lc⟩⟩:=bc
   simp only[bytesN]at hc
   match lc,hc with
   | [x],hc=>exact⟨x,rfl,by simpa using hc⟩
  refine(Tryz.stringslite_Index_one bs c' w).mono ?_
  rintro e w' ⟨rfl,rfl⟩
  refine⟨_,rfl,⟨rfl,rfl,rfl,Nat.le_refl _,fun _ _=>rfl⟩, ?_⟩
  simp only[PRel]
  have key: ∀(x:List UInt8),Lib.indexByte x c'=idxN (x.map UInt8.toNat) c:=by
   intro x
   induction x with
   |nil=>rfl
   |cons b x ih=>
    simp only[Lib.indexByte,List.map_cons,idxN,ih]
    have:(b==c')=decide (b.toNat=c):=by
     rw[←hcc]
     by_cases h:b=c'
     ·subst h;simp
     ·have:b.toNat≠c'.toNat:=fun e=>h (UInt8.toNat_inj.1 e)
      simp[h,this]
    rw[this]
    by_cases h:b.toNat=c <;> simp[h]
  rw[key,←hb]
  rfl
 ·cases hg
end Go.Proofs
