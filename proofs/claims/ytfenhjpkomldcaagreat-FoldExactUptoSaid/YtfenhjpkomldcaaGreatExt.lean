/- The place of a byte in a string, by the shelf's contract, as the evaluator meets it. Conditions: none. -/
import Derived.Test.YtfenhjpkomldcaaGreatEvD
import Derived.Test.YtfenhjpkomldcaaGreatIdx
import Derived.Test.YtfenhjpkomldcaaGreatChecked
import Derived.KernelRfl
import Derived.ProofKit
set_option linter.unusedSimpArgs false
set_option linter.unusedVariables false
namespace Go.Proofs
open Go Go.Ev Go.RowKit
def Ak:List Nat→Nat→Int
 | [],_=> -1
 |b::l,c=>if b=c then 0 else if Ak l c= -1 then-1 else Ak l c+1
def IQ:List T→Option T
 | [.s l,.s [c]]=>some (.i .i64 (Ak l c))
 |_=>none
def j3:List T→Option (List (List Nat))
 | []=>some []
 | .s l::cs=>(j3 cs).map (l:: ·)
 |_::_=>none
def gk(l:List (List Nat)):List (List Nat):=l.mergeSort fun x y=> !cg y x
def fk{α:Type}[DecidableEq α](p:α):List α→List α
 | []=> []
 |y::r=>if y=p then fk y r else y::fk y r
def cL{α:Type}[DecidableEq α]:List α→List α
 | []=> []
 |x::r=>x::fk x r
def mC(cs:List T):Option (List T×Option Nat):=match j3 cs with
 |some l=>if l.length≤1125899906842624 then some ((gk l).map T.s,none)else none
 |none=>none
def mD(cs:List T):Option (List T×Option Nat):=match j3 cs with
 |some l=>if l.length≤1125899906842624 then some ((cL l++List.replicate (l.length-(cL l).length) []).map T.s,some (cL l).length)else none
 |none=>none
theorem Tryz.idxOk:NB Tryz.prog 267 IQ:=by
 refine⟨⟨_,Tryz.func267,by kernel_rfl,by kernel_rfl⟩, ?_⟩
 intro args r hg w M bw hM hp
 unfold IQ at hg
 split at hg
 ·rename_i l c
  cases hg
  simp only[PList,PRel]at hp
  obtain⟨u,us,e1,⟨bs,rfl,hb⟩,v,vs,rfl,⟨bc,rfl,hc⟩,rfl⟩:=hp
  obtain rfl:bw= #[.string bs,.string bc]:=by cases bw;simp_all
  obtain⟨c',rfl,kg⟩: ∃c':UInt8,bc=⟨#[c']⟩∧c'.toNat=c:=by
   obtain⟨⟨lc⟩⟩:=bc
   simp only[cp]at hc
   match lc,hc with
   | [x],hc=>exact⟨x,rfl,by simpa using hc⟩
  refine(Tryz.stringslite_Index_one bs c' w).mono ?_
  rintro e w' ⟨rfl,rfl⟩
  refine⟨_,rfl,⟨rfl,rfl,rfl,Nat.le_refl _,fun _ _=>rfl⟩, ?_⟩
  simp only[PRel]
  have key: ∀(x:List UInt8),Lib.indexByte x c'=Ak (x.map UInt8.toNat) c:=by
   intro x
   induction x with
   |nil=>rfl
   |cons b x ih=>
    simp only[Lib.indexByte,List.map_cons,Ak,ih]
    have:(b==c')=decide (b.toNat=c):=by
     rw[←kg]
     by_cases h:b=c'
     ·subst h;simp
     ·have:b.toNat≠c'.toNat:=fun e=>h (UInt8.toNat_inj.1 e)
      simp[h,this]
    rw[this]
    by_cases h:b.toNat=c <;> simp[h]
  rw[key,←hb]
  rfl
 ·cases hg
end Go.Proofs
