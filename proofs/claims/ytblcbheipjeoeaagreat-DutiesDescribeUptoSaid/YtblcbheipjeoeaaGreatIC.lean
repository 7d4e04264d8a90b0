/- Sorting numbers in place, and leaving out equal neighbours, by the shelf's contracts, as the evaluator meets them. Conditions: none. -/
import Derived.Test.YtblcbheipjeoeaaGreatEvG
import Derived.Test.YtblcbheipjeoeaaGreatExt
import Derived.Test.YtblcbheipjeoeaaGreatShelfI
import Derived.KernelRfl
import Derived.ProofKit
set_option linter.unusedSimpArgs false
set_option linter.unusedVariables false
namespace Go.Proofs
open Go Go.Ev Go.RowKit Go.Sort
def tT:List T→Option (List Int)
 | []=>some []
 | .i .i64 n::cs=>(tT cs).map (n:: ·)
 |_::_=>none
def qc(l:List Int):List Int:=l.mergeSort fun x y=>decide (x≤y)
def td(cs:List T):Option (List T×Option Nat):=match tT cs with
 |some l=>if l.length≤1125899906842624 then some ((qc l).map (T.i .i64),none)else none
 |none=>none
def te(cs:List T):Option (List T×Option Nat):=match tT cs with
 |some l=>if l.length≤1125899906842624 then some ((k9 l++List.replicate (l.length-(k9 l).length) 0).map (T.i .i64),some (k9 l).length)else none
 |none=>none
theorem Il{w:World}{M:im}: ∀{cs:List T} {C:List Value} {l:List Int},tT cs=some l→PList w M cs C→C=l.map (Value.int .i64)∧l.length=cs.length
 | [],C,l,h,r=>by simp[tT]at h;simp only[PList]at r;subst h;subst r;exact⟨rfl,rfl⟩
 | .i .i64 x::cs,C,l,h,r=>by
   simp only[tT,Option.map_eq_some_iff]at h
   obtain⟨I,D,rfl⟩:=h
   simp only[PList,PRel]at r
   obtain⟨u,us,rfl,rfl,E⟩:=r
   obtain⟨F,H⟩:=Il D E
   exact⟨by rw[List.map_cons,F],by simp[H]⟩
 | .i .i8 _::_,_,_,h,_| .i .i16 _::_,_,_,h,_| .i .i32 _::_,_,_,h,_| .i .u8 _::_,_,_,h,_| .i .u16 _::_,_,_,h,_| .i .u32 _::_,_,_,h,_| .i .u64 _::_,_,_,h,_| .b _::_,_,_,h,_| .s _::_,_,_,h,_| .nilsl::_,_,_,h,_| .sl _ _ _::_,_,_,h,_| .isl _ _ _ _ _ _::_,_,_,h,_| .nilptr::_,_,_,h,_| .vp _::_,_,_,h,_| .ptr _ _ _ _::_,_,_,h,_| .nilmp::_,_,_,h,_| .vm _ _::_,_,_,h,_| .mp _ _ _::_,_,_,h,_| .nilfn::_,_,_,h,_| .fn _ _ _::_,_,_,h,_| .agg _::_,_,_,h,_| .tup _::_,_,_,h,_| .any::_,_,_,h,_=>by simp[tT]at h
theorem yM{w:World}{M:im}: ∀(l:List Int),PList w M (l.map (T.i .i64)) (l.map (Value.int .i64))
 | []=>by simp only[List.map_nil,PList]
 |x::l=>by
  simp only[List.map_cons,PList,PRel]
  exact⟨_,_,rfl,rfl,yM l⟩
theorem yN{α:Type}[DecidableEq α]: ∀(l:List α) (p y:α),oB p (l++ [y])=oB p l++(if l.getLast?.getD p=y then []else [y])
 | [],p,y=>by
   by_cases h:y=p
   ·subst h;simp[oB]
   ·have: ¬p=y:=fun e=>h e.symm
    simp[oB,h,this]
 |z::l,p,y=>by
  have ih:=yN l z y
  have e:(z::l).getLast?.getD p=l.getLast?.getD z:=by rw[List.getLast?_cons];rfl
  by_cases i:l.getLast?.getD z=y
  ·rw[if_pos i,List.append_nil]at ih
   rw[if_pos (e.trans i),List.append_nil,List.cons_append]
   simp only[oB,ih]
  ·rw[if_neg i]at ih
   rw[if_neg (fun h=>i (e.symm.trans h)),List.cons_append]
   simp only[oB,ih]
   split <;> rfl
theorem Nf{α:Type}[DecidableEq α]: ∀(l:List α) (y:α),k9 (l++ [y])=k9 l++(if l.getLast?=some y then []else [y])
 | [],y=>rfl
 |x::r,y=>by
  have e:((x::r).getLast?=some y)=(r.getLast?.getD x=y):=by rw[List.getLast?_cons];simp
  by_cases i:r.getLast?.getD x=y
  ·rw[if_pos (e▸i),List.cons_append]
   simp only[k9,yN,if_pos i,List.append_nil]
  ·rw[if_neg (e▸i),List.cons_append]
   simp only[k9,yN,if_neg i];rfl
theorem Py{α:Type}[DecidableEq α][Inhabited α](l:List α): ∀m,m≤l.length→Lib.compactUpTo l.toArray m=k9 (l.take m)
 |0,_=>by simp[Lib.compactUpTo,k9]
 |m+1,h=>by
  have r:m<l.length:=by omega
  rw[Lib.compactUpTo_succ,Py l m (by omega),List.take_add_one,List.getElem?_eq_getElem r,Option.toList_some,Nf]
  congr 1
  have C:l.toArray[m]! =l[m]:=by rw[getElem!_pos _ _ (by simpa using r)];simp
  rw[C]
  cases m with
  |zero=>simp[Lib.keeps]
  |succ k=>
   have D:l.toArray[k]! =l[k]:=by rw[getElem!_pos _ _ (by simp;omega)];simp
   have E:(l.take (k+1)).getLast?=some l[k]:=by
    rw[List.getLast?_eq_getElem?,List.length_take,Nat.min_eq_left (by omega),List.getElem?_take_of_lt (by omega)]
    simp only[Nat.add_sub_cancel]
    rw[List.getElem?_eq_getElem (by omega)]
   rw[E]
   simp only[Lib.keeps,Nat.add_sub_cancel,C,D,Option.some.injEq]
   by_cases i:l[k]=l[k+1]
   ·rw[if_pos i,if_neg (by simp[i])]
   ·rw[if_neg i,if_pos (by simp;exact fun e=>i e.symm)]
theorem Eg{α:Type}[DecidableEq α][Inhabited α](l:List α):Lib.compact l=k9 l:=by
 unfold Lib.compact
 rw[Py l _ (Nat.le_refl _),List.take_length]
theorem GO{α:Type}[DecidableEq α]: ∀(p:α) (l:List α),(oB p l).length≤l.length
 |_,[]=>Nat.le_refl _
 |p,y::r=>by
  simp only[oB]
  have:=GO y r
  split
  ·simp;omega
  ·simp;omega
theorem Sd{α:Type}[DecidableEq α]: ∀(l:List α),(k9 l).length≤l.length
 | []=>Nat.le_refl _
 |x::r=>by simp only[k9,List.length_cons];have:=GO x r;omega
theorem holds_of{w:World}{i off:Nat}{c:Array Value}{el:TypeId}{ss:List Int}(r:w.heap[i]? =some (.cells c el (0,0)))(E:(c.toList.drop off).take ss.length=ss.map (Value.int .i64)):Holds (Value.int .i64) w i off ss.toArray:=by
 intro j C
 have Se:j<ss.length:=by simpa using C
 have e:c[off+j]? =some ((Value.int .i64) ss.toArray[j]!):=by
  have D:((c.toList.drop off).take ss.length)[j]? =some ((Value.int .i64) ss[j]):=by rw[E,List.getElem?_map,List.getElem?_eq_getElem Se];rfl
  rw[List.getElem?_take_of_lt Se,List.getElem?_drop,Array.getElem?_toList]at D
  rw[D,getElem!_pos ss.toArray j C];simp
 constructor
 ·unfold World.cell?;rw[r];simpa using e
 ·unfold World.frozen?;rw[r];simp
theorem Sf{c:Array Value}{off:Nat}(r:List Int):putCells (Value.int .i64) off r.toArray c=(splice c.toList off (r.map (Value.int .i64))).toArray:=by
 apply Array.ext'
 apply List.ext_getElem?
 intro j
 unfold putCells
 rw[Array.toList_mapIdx,List.getElem?_mapIdx,List.toList_toArray,lp,List.length_map]
 by_cases C:j<c.toList.length
 ·rw[List.getElem?_eq_getElem C]
  simp only[Option.map_some,List.size_toArray]
  by_cases i:off≤j∧j<off+r.length
  ·rw[if_pos i,if_pos ⟨i.1,i.2,C⟩,List.getElem?_map,List.getElem?_eq_getElem (by omega)]
   rw[getElem!_pos r.toArray (j-off) (by simp;omega)];simp
  ·rw[if_neg i,if_neg (fun e=>i ⟨e.1,e.2.1⟩)]
 ·rw[List.getElem?_eq_none (by omega),if_neg (fun e=>C e.2.2)];rfl
theorem GP{w:World}{i off n:Nat}{c:Array Value}{el:TypeId}{os:Array Obj}(r:List Int)(D:w.heap[i]? =some (.cells c el (0,0))):
  Below w.heap.size (setBlock w i (.cells (splice c.toList off (r.map (Value.int .i64))).toArray el)) (grow (putRow (Value.int .i64) (Sort.ahead w n) i off r.toArray) os):=by
 refine⟨rfl,rfl,rfl,by rw[kB];simp[grow,putRow,mapBlock,Sort.ahead],fun k C=> ?_⟩
 rw[jV]
 have E:k<(putRow (Value.int .i64) (Sort.ahead w n) i off r.toArray).heap.size:=by simpa[putRow,mapBlock,Sort.ahead]using C
 have F:(grow (putRow (Value.int .i64) (Sort.ahead w n) i off r.toArray) os).heap[k]? =(putRow (Value.int .i64) (Sort.ahead w n) i off r.toArray).heap[k]? :=by
  unfold grow
  exact Array.getElem?_append_left E
 rw[F]
 unfold putRow mapBlock
 simp only[Array.getElem?_modify,Sort.ahead]
 by_cases e:k=i
 ·subst e
  rw[if_pos rfl,if_pos ⟨rfl,C⟩,D]
  simp only[Option.map_some,onCells,Sf]
 ·rw[if_neg (fun h=>e h.symm),if_neg (fun h=>e h.1)]
theorem Tryz.compIOk:aaQ Tryz.prog 70 te:=by
 refine⟨?_, ?_⟩
 ·intro r i U w
  have e:r=some 0:=by simp[te,tT,k9]at i;exact i.symm
  subst e
  refine(AnyG.slices_Compact_int_empty Tryz.compZL none 0 w).mono ?_
  rintro e w' ⟨rfl,rfl⟩
  exact⟨rfl,Below.refl _ _⟩
 ·intro cs V r i H w M C off D c el W I J Bh E K
  unfold te at i
  split at i
  ·rename_i l N
   split at i
   ·rename_i X
    simp only[Option.some.injEq,Prod.mk.injEq]at i
    obtain⟨rfl,rfl⟩:=i
    obtain⟨rfl,F⟩:=Il N K
    have O:=holds_of (ss:=l) I (by rw[F];exact E)
    have h:=AnyG.slices_Compact_int Tryz.compZL C off D l w O (by omega) (by omega)
    rw[F]at h
    refine h.mono ?_
    rintro e w' ⟨rfl,q,rfl⟩
    have Y:=Sd l
    refine⟨(k9 l++List.replicate (l.length-(k9 l).length) 0).map (Value.int .i64), ?_,yM _, ?_⟩
    ·simp only[Kc,Eg]
    ·rw[Eg,←F]
     exact GP (n:=q) (os:= #[]) (k9 l++List.replicate (l.length-(k9 l).length) 0) I |> fun h=>by simpa using h
   ·cases i
  ·cases i
theorem Tryz.sortIOk:aaQ Tryz.prog 69 td:=by
 refine⟨?_, ?_⟩
 ·intro r i U w
  have e:r=none:=by simp[td,tT,qc]at i;exact i.symm
  subst e
  refine(AnyM.slices_Sort_int_none Tryz.sortZL none 0 w).mono ?_
  rintro e w' ⟨rfl,rfl⟩
  exact⟨rfl,Below.refl _ _⟩
 ·intro cs V r i H w M C off D c el W E J Bh F K
  unfold td at i
  split at i
  ·rename_i l N
   split at i
   ·rename_i X
    simp only[Option.some.injEq,Prod.mk.injEq]at i
    obtain⟨rfl,rfl⟩:=i
    obtain⟨rfl,I⟩:=Il N K
    have O:=holds_of (ss:=l) E (by rw[I];exact F)
    have h:=AnyM.slices_Sort_int Tryz.sortZL C off D l w O (qV E) (by omega)
    rw[I]at h
    refine h.mono ?_
    rintro e w' ⟨rfl,n,os,rfl⟩
    exact⟨(l.mergeSort fun x y=>decide (x≤y)).map (Value.int .i64),rfl,yM _,GP _ E⟩
   ·cases i
  ·cases i
end Go.Proofs
