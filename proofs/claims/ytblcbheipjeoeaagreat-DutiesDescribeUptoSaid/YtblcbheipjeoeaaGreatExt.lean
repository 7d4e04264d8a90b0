/- The place of a byte in a string, by the shelf's contract, as the evaluator meets it. Conditions: none. -/
import Derived.Test.YtblcbheipjeoeaaGreatEvD
import Derived.Test.YtblcbheipjeoeaaGreatIdx
import Derived.Test.YtblcbheipjeoeaaGreatChecked
import Derived.KernelRfl
import Derived.ProofKit
set_option linter.unusedSimpArgs false
set_option linter.unusedVariables false
namespace Go.Proofs
open Go Go.Ev Go.RowKit
def Nc:List Nat→Nat→Int
 | [],_=> -1
 |b::l,c=>if b=c then 0 else if Nc l c= -1 then-1 else Nc l c+1
def aak:List T→Option T
 | [.s l,.s [c]]=>some (.i .i64 (Nc l c))
 |_=>none
def oB{α:Type}[DecidableEq α](p:α):List α→List α
 | []=> []
 |y::r=>if y=p then oB y r else y::oB y r
def k9{α:Type}[DecidableEq α]:List α→List α
 | []=> []
 |x::r=>x::oB x r
theorem Tryz.idxOk:agh Tryz.prog 326 aak:=by
 refine⟨⟨_,Tryz.func326,by kernel_rfl,by kernel_rfl⟩, ?_⟩
 intro args r C w M H U I
 unfold aak at C
 split at C
 ·rename_i l c
  cases C
  simp only[PList,PRel]at I
  obtain⟨u,us,V,⟨J,rfl,K⟩,v,W,rfl,⟨E,rfl,D⟩,rfl⟩:=I
  obtain rfl:H= #[.string J,.string E]:=by cases H;simp_all
  obtain⟨i,rfl,N⟩: ∃i:UInt8,E=⟨#[i]⟩∧i.toNat=c:=by
   obtain⟨⟨O⟩⟩:=E
   simp only[jT]at D
   match O,D with
   | [x],D=>exact⟨x,rfl,by simpa using D⟩
  refine(Tryz.stringslite_Index_one J i w).mono ?_
  rintro e w' ⟨rfl,rfl⟩
  refine⟨_,rfl,⟨rfl,rfl,rfl,Nat.le_refl _,fun _ _=>rfl⟩, ?_⟩
  simp only[PRel]
  have F: ∀(x:List UInt8),Lib.indexByte x i=Nc (x.map UInt8.toNat) c:=by
   intro x
   induction x with
   |nil=>rfl
   |cons b x ih=>
    simp only[Lib.indexByte,List.map_cons,Nc,ih]
    have:(b==i)=decide (b.toNat=c):=by
     rw[←N]
     by_cases h:b=i
     ·subst h;simp
     ·have:b.toNat≠i.toNat:=fun e=>h (UInt8.toNat_inj.1 e)
      simp[h,this]
    rw[this]
    by_cases h:b.toNat=c <;> simp[h]
  rw[F,←K]
  rfl
 ·cases C
end Go.Proofs
