/- Sorting names in place, and leaving out equal neighbours, by the shelf's contracts, as the evaluator meets them. Conditions: none. -/
import Derived.Test.YtfenhjpkomldcaaGreatExt
import Derived.Test.YtfenhjpkomldcaaGreatShelfS
import Derived.Test.YtfenhjpkomldcaaGreatChecked
import Derived.KernelRfl
import Derived.ProofKit
set_option linter.unusedSimpArgs false
set_option linter.unusedVariables false
namespace Go.Proofs
open Go Go.Ev Go.RowKit Go.Sort
def upN(l:List UInt8):List Nat:=l.map UInt8.toNat
theorem strs_of{w:World}{M:MSet}: ∀{cs:List T} {vs:List Value} {l:List (List Nat)},strsE cs=some l→PList w M cs vs→ ∃ss:List (List UInt8),ss.map upN=l∧vs=ss.map encStr∧ss.length=cs.length
 | [],vs,l,h,hp=>by simp[strsE]at h;simp only[PList]at hp;subst h;subst hp;exact⟨[],rfl,rfl,rfl⟩
 | .s x::cs,vs,l,h,hp=>by
   simp only[strsE,Option.map_eq_some_iff]at h
   obtain⟨l',h1,rfl⟩:=h
   simp only[PList,PRel]at hp
   obtain⟨u,us,rfl,⟨bs,rfl,rfl⟩,h3⟩:=hp
   obtain⟨ss,e1,rfl,e3⟩:=strs_of h1 h3
   refine⟨bs.data.toList::ss, ?_, ?_,by simp[e3]⟩
   ·rw[List.map_cons,e1];rfl
   ·rw[List.map_cons]
 | .b _::_,_,_,h,_| .i _ _::_,_,_,h,_| .nilsl::_,_,_,h,_| .sl _ _ _::_,_,_,h,_| .isl _ _ _ _ _ _::_,_,_,h,_| .nilptr::_,_,_,h,_| .vp _::_,_,_,h,_| .ptr _ _ _ _::_,_,_,h,_| .nilmp::_,_,_,h,_| .vm _ _::_,_,_,h,_| .mp _ _ _::_,_,_,h,_| .nilfn::_,_,_,h,_| .fn _ _ _::_,_,_,h,_| .agg _::_,_,_,h,_| .tup _::_,_,_,h,_=>by simp[strsE]at h
theorem plist_strs{w:World}{M:MSet}: ∀(ss:List (List UInt8)),PList w M ((ss.map upN).map T.s) (ss.map encStr)
 | []=>by simp only[List.map_nil,PList]
 |x::ss=>by
  simp only[List.map_cons,PList,PRel]
  exact⟨_,_,rfl,⟨_,rfl,by simp[bytesN,upN]⟩,plist_strs ss⟩
theorem sort_up(ss:List (List UInt8)):sortN (ss.map upN)=(ss.mergeSort fun x y=>decide (x≤y)).map upN:=by
 unfold sortN
 refine(List.map_mergeSort fun a _ b _=> ?_).symm
 unfold upN
 rw[less_map,bytesLess_eq]
 rw[←decide_not]
 congr 1
theorem up_inj: ∀{a b:List UInt8},upN a=upN b→a=b
 | [],[],_=>rfl
 | [],_::_,h=>by simp[upN]at h
 |_::_,[],h=>by simp[upN]at h
 |x::a,y::b,h=>by
  simp only[upN,List.map_cons,List.cons.injEq]at h
  rw[UInt8.toNat_inj.1 h.1,up_inj h.2]
theorem compT_up: ∀(p:List UInt8) (ss:List (List UInt8)),compT (upN p) (ss.map upN)=(compT p ss).map upN
 |p,[]=>rfl
 |p,y::r=>by
  simp only[List.map_cons,compT]
  by_cases h:y=p
  ·rw[if_pos h,if_pos (by rw[h]),compT_up y r]
  ·rw[if_neg h,if_neg (fun e=>h (up_inj e)),List.map_cons,compT_up y r]
theorem compN_up: ∀(ss:List (List UInt8)),compN (ss.map upN)=(compN ss).map upN
 | []=>rfl
 |x::r=>by simp only[List.map_cons,compN,compT_up]
theorem compT_snoc{α:Type}[DecidableEq α]: ∀(l:List α) (p y:α),compT p (l++ [y])=compT p l++(if l.getLast?.getD p=y then []else [y])
 | [],p,y=>by
   by_cases h:y=p
   ·subst h;simp[compT]
   ·have: ¬p=y:=fun e=>h e.symm
    simp[compT,h,this]
 |z::l,p,y=>by
  have ih:=compT_snoc l z y
  have e:(z::l).getLast?.getD p=l.getLast?.getD z:=by rw[List.getLast?_cons];rfl
  by_cases hy:l.getLast?.getD z=y
  ·rw[if_pos hy,List.append_nil]at ih
   rw[if_pos (e.trans hy),List.append_nil,List.cons_append]
   simp only[compT,ih]
  ·rw[if_neg hy]at ih
   rw[if_neg (fun h=>hy (e.symm.trans h)),List.cons_append]
   simp only[compT,ih]
   split <;> rfl
theorem compN_snoc{α:Type}[DecidableEq α]: ∀(l:List α) (y:α),compN (l++ [y])=compN l++(if l.getLast?=some y then []else [y])
 | [],y=>rfl
 |x::r,y=>by
  have e:((x::r).getLast?=some y)=(r.getLast?.getD x=y):=by rw[List.getLast?_cons];simp
  by_cases hy:r.getLast?.getD x=y
  ·rw[if_pos (e▸hy),List.cons_append]
   simp only[compN,compT_snoc,if_pos hy,List.append_nil]
  ·rw[if_neg (e▸hy),List.cons_append]
   simp only[compN,compT_snoc,if_neg hy];rfl
theorem upTo_eq(l:List (List UInt8)): ∀m,m≤l.length→Lib.compactUpTo l.toArray m=compN (l.take m)
 |0,_=>by simp[Lib.compactUpTo,compN]
 |m+1,h=>by
  have hm:m<l.length:=by omega
  rw[Lib.compactUpTo_succ,upTo_eq l m (by omega),List.take_add_one,List.getElem?_eq_getElem hm,Option.toList_some,compN_snoc]
  congr 1
  have e1:l.toArray[m]! =l[m]:=by rw[getElem!_pos _ _ (by simpa using hm)];simp
  rw[e1]
  cases m with
  |zero=>simp[Lib.keeps]
  |succ k=>
   have e2:l.toArray[k]! =l[k]:=by rw[getElem!_pos _ _ (by simp;omega)];simp
   have e3:(l.take (k+1)).getLast?=some l[k]:=by
    rw[List.getLast?_eq_getElem?,List.length_take,Nat.min_eq_left (by omega),List.getElem?_take_of_lt (by omega)]
    simp only[Nat.add_sub_cancel]
    rw[List.getElem?_eq_getElem (by omega)]
   rw[e3]
   simp only[Lib.keeps,Nat.add_sub_cancel,e1,e2,Option.some.injEq]
   by_cases hx:l[k]=l[k+1]
   ·rw[if_pos hx,if_neg (by simp[hx])]
   ·rw[if_neg hx,if_pos (by simp;exact fun e=>hx e.symm)]
theorem compact_eq(l:List (List UInt8)):Lib.compact l=compN l:=by
 unfold Lib.compact
 rw[upTo_eq l _ (Nat.le_refl _),List.take_length]
theorem compT_len{α:Type}[DecidableEq α]: ∀(p:α) (l:List α),(compT p l).length≤l.length
 |_,[]=>Nat.le_refl _
 |p,y::r=>by
  simp only[compT]
  have:=compT_len y r
  split
  ·simp;omega
  ·simp;omega
theorem compN_len{α:Type}[DecidableEq α]: ∀(l:List α),(compN l).length≤l.length
 | []=>Nat.le_refl _
 |x::r=>by simp only[compN,List.length_cons];have:=compT_len x r;omega
theorem holds_of{w:World}{blk off:Nat}{c:Array Value}{el:TypeId}{ss:List (List UInt8)}(hb:w.heap[blk]? =some (.cells c el (0,0)))(hv:(c.toList.drop off).take ss.length=ss.map encStr):Holds encStr w blk off ss.toArray:=by
 intro j hj
 have hj':j<ss.length:=by simpa using hj
 have e:c[off+j]? =some (encStr ss.toArray[j]!):=by
  have h1:((c.toList.drop off).take ss.length)[j]? =some (encStr ss[j]):=by rw[hv,List.getElem?_map,List.getElem?_eq_getElem hj'];rfl
  rw[List.getElem?_take_of_lt hj',List.getElem?_drop,Array.getElem?_toList]at h1
  rw[h1,getElem!_pos ss.toArray j hj];simp
 constructor
 ·unfold World.cell?;rw[hb];simpa using e
 ·unfold World.frozen?;rw[hb];simp
theorem put_cells{c:Array Value}{off:Nat}(ds:List (List UInt8)):putCells encStr off ds.toArray c=(splice c.toList off (ds.map encStr)).toArray:=by
 apply Array.ext'
 apply List.ext_getElem?
 intro j
 unfold putCells
 rw[Array.toList_mapIdx,List.getElem?_mapIdx,List.toList_toArray,splice_get,List.length_map]
 by_cases hj:j<c.toList.length
 ·rw[List.getElem?_eq_getElem hj]
  simp only[Option.map_some,List.size_toArray]
  by_cases hc:off≤j∧j<off+ds.length
  ·rw[if_pos hc,if_pos ⟨hc.1,hc.2,hj⟩,List.getElem?_map,List.getElem?_eq_getElem (by omega)]
   rw[getElem!_pos ds.toArray (j-off) (by simp;omega)];simp
  ·rw[if_neg hc,if_neg (fun e=>hc ⟨e.1,e.2.1⟩)]
 ·rw[List.getElem?_eq_none (by omega),if_neg (fun e=>hj e.2.2)];rfl
theorem below_put{w:World}{blk off n:Nat}{c:Array Value}{el:TypeId}{os:Array Obj}(ds:List (List UInt8))(hb:w.heap[blk]? =some (.cells c el (0,0))):
  Below w.heap.size (setBlock w blk (.cells (splice c.toList off (ds.map encStr)).toArray el)) (grow (putRow encStr (Sort.ahead w n) blk off ds.toArray) os):=by
 refine⟨rfl,rfl,rfl,by rw[size_setBlock];simp[grow,putRow,mapBlock,Sort.ahead],fun k hk=> ?_⟩
 rw[heap_setBlock]
 have hlt:k<(putRow encStr (Sort.ahead w n) blk off ds.toArray).heap.size:=by simpa[putRow,mapBlock,Sort.ahead]using hk
 have h1:(grow (putRow encStr (Sort.ahead w n) blk off ds.toArray) os).heap[k]? =(putRow encStr (Sort.ahead w n) blk off ds.toArray).heap[k]? :=by
  unfold grow
  exact Array.getElem?_append_left hlt
 rw[h1]
 unfold putRow mapBlock
 simp only[Array.getElem?_modify,Sort.ahead]
 by_cases e:k=blk
 ·subst e
  rw[if_pos rfl,if_pos ⟨rfl,hk⟩,hb]
  simp only[Option.map_some,onCells,put_cells]
 ·rw[if_neg (fun h=>e h.symm),if_neg (fun h=>e h.1)]
theorem Tryz.compOk:WrOk Tryz.prog 82 compE:=by
 refine⟨?_, ?_⟩
 ·intro r hr h0 w
  have e:r=some 0:=by simp[compE,strsE,compN]at hr;exact hr.symm
  subst e
  refine(AnyG.slices_Compact_string_empty Tryz.compS none 0 w).mono ?_
  rintro e w' ⟨rfl,rfl⟩
  exact⟨rfl,Below.refl _ _⟩
 ·intro cs ys r hr hlen w M blk off cap c el vs hb hoc hcap hvs hp
  unfold compE at hr
  split at hr
  ·rename_i l hl
   split at hr
   ·rename_i hll
    simp only[Option.some.injEq,Prod.mk.injEq]at hr
    obtain⟨rfl,rfl⟩:=hr
    obtain⟨ss,rfl,rfl,e3⟩:=strs_of hl hp
    have hH:=holds_of (ss:=ss) hb (by rw[e3];exact hvs)
    have h:=AnyG.slices_Compact_string Tryz.compS blk off cap ss w hH (by simp at hll;omega) (by omega)
    rw[e3]at h
    refine h.mono ?_
    rintro e w' ⟨rfl,q,rfl⟩
    have hcl:=compN_len ss
    refine⟨(compN ss++List.replicate (ss.length-(compN ss).length) []).map encStr, ?_, ?_, ?_⟩
    ·simp only[wrVal,compact_eq,compN_up,List.length_map]
    ·have:=plist_strs (w:=w) (M:=M) (compN ss++List.replicate (ss.length-(compN ss).length) [])
     rw[List.map_append,List.map_replicate,←compN_up]at this
     simpa[upN,compN_up]using this
    ·rw[compact_eq,←e3]
     exact below_put (n:=q) (os:= #[]) (compN ss++List.replicate (ss.length-(compN ss).length) []) hb |> fun h=>by simpa using h
   ·cases hr
  ·cases hr
theorem Tryz.sortOkS:WrOk Tryz.prog 81 sortE:=by
 refine⟨?_, ?_⟩
 ·intro r hr h0 w
  have e:r=none:=by simp[sortE,strsE,sortN]at hr;exact hr.symm
  subst e
  refine(AnyM.slices_Sort_string_none Tryz.sortS none 0 w).mono ?_
  rintro e w' ⟨rfl,rfl⟩
  exact⟨rfl,Below.refl _ _⟩
 ·intro cs ys r hr hlen w M blk off cap c el vs hb hoc hcap hvs hp
  unfold sortE at hr
  split at hr
  ·rename_i l hl
   split at hr
   ·rename_i hll
    simp only[Option.some.injEq,Prod.mk.injEq]at hr
    obtain⟨rfl,rfl⟩:=hr
    obtain⟨ss,rfl,rfl,e3⟩:=strs_of hl hp
    have hH:=holds_of (ss:=ss) hb (by rw[e3];exact hvs)
    have h:=AnyM.slices_Sort_string Tryz.sortS blk off cap ss w hH (heap_lt hb) (by simp at hll;omega)
    rw[e3]at h
    refine h.mono ?_
    rintro e w' ⟨rfl,n,os,rfl⟩
    refine⟨(ss.mergeSort fun x y=>decide (x≤y)).map encStr,rfl, ?_,below_put _ hb⟩
    rw[sort_up]
    exact plist_strs _
   ·cases hr
  ·cases hr
end Go.Proofs
