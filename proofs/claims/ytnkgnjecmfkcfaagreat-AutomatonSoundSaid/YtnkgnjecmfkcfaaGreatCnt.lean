/- automaton.count in the model. Conditions: the theorems' own. -/
import Derived.Test.YtnkgnjecmfkcfaaGreatChecked
import Derived.Test.YtnkgnjecmfkcfaaGreatShelfS
import Derived.WalkKit
import Derived.WalkSpells
import Derived.Below
import Derived.Lib.OwnBridge
import Derived.Lib.Hide
import Derived.RegionTactic
import Derived.ChangeAlike
import Derived.BigRegion
import Derived.StillTailTactics
import Derived.Deep.QuietTactic
import Derived.BigQuiet
set_option linter.all false
namespace Go.Proofs
open Go Go.RowKit Go.Shelf Go.Sort
def Tryz.flight_at(w:World)(B o bF oF len cap:Nat)(k:Nat)(hk:k<len)(hc:w.cell? ⟨B,o+2,none⟩=some (.slice (some ⟨bF,oF,none⟩) len cap)):
  Calls Tryz.prog 77 #[.pointer (some ⟨B,o,none⟩),.int .i64 (k:Int)] w fun e w'=>e= .returned (.pointer (some ⟨bF,oF+k*9,none⟩))∧w'=w:=by
 go_enter Tryz.func77,Tryz.ntmps77
 go_wp2
 go_ret
 exact⟨rfl,rfl⟩
def Strs(w:World)(v:Value)(ss:List ByteArray):Prop:=(v= .slice none 0 0∧ss= [])∨ ∃b off c sp,v= .slice (some ⟨b,off,sp⟩) ss.length c∧ss.length≤1000∧(sp=none∨ss.length=0)∧ ∀j,j<ss.length→w.cell? ⟨b,off+j,none⟩=some (.string (ss.getD j ByteArray.empty))
def ClP(w:World)(v:Value)(ss:List ByteArray)(e:Ending)(w1:World):Prop:= ∃va c,e= .returned (.slice va ss.length c)∧w1.ownsRow w.heap.size 9 1 (.slice va ss.length c) ss.length (ss.map Value.string)∧(va=none↔v= .slice none 0 0)∧Below w.heap.size w w1
def own_shape{w:World}{base:Nat}{v:Value}{n:Nat}{xs:List Value}(h:w.ownsRow base 9 1 v n xs): ∃va c,v= .slice va n c∧(va=none↔v= .slice none 0 0):=by
 rcases h.2 with⟨rfl,rfl⟩|⟨g,cap,cur,rfl,_⟩
 ·exact⟨none,0,rfl,by simp⟩
 ·exact⟨_,_,rfl,by simp⟩
def Tryz.clone_any(w0 w:World)(v:Value)(ss:List ByteArray)(hb:Below w0.heap.size w0 w)(hv:Strs w0 v ss):Calls Tryz.prog 135 #[v] w (ClP w v ss):=by
 rcases hv with⟨rfl,rfl⟩|⟨b,off,c,sp,rfl,hl,hsp,hc⟩
 ·refine(Any.slices_Clone_string_nil Tryz.clL 0 0 w).mono fun e w1 ⟨h1,h2⟩=> ?_
  subst h1 h2
  exact⟨none,0,rfl,World.ownsRow_nil _ _ _ _,by simp,Below.refl _ _⟩
 ·have fin: ∀(w1:World) (v':Value) (n:Nat) (e:Ending),n=ss.length→e= .returned v'→w1.ownsRow w.heap.size 9 1 v' n (ss.map Value.string)→v'≠ .slice none 0 0→Below w.heap.size w w1→ClP w (.slice (some ⟨b,off,sp⟩) ss.length c) ss e w1:=by
   rintro w1 v' n e rfl rfl h2 h3 h4
   obtain⟨va,c',rfl,h5⟩:=own_shape h2
   exact⟨va,c',rfl,h2,⟨fun h=>absurd (h5.1 h) h3,fun h=>by simp at h⟩,h4⟩
  by_cases h0:ss.length=0
  ·obtain rfl:ss= []:=List.length_eq_zero_iff.1 h0
   refine(Any.slices_Clone_string_zero Tryz.clL ⟨b,off,sp⟩ c w).mono fun e w1 ⟨v',h1,h2,h3,h4⟩=> ?_
   exact fin _ _ 0 _ rfl h1 h2 h3 h4
  ·obtain rfl:sp=none:=hsp.resolve_right h0
   refine(Any.slices_Clone_string Tryz.clL b off ss.length c ss w (Nat.le_refl _) (by omega) (fun j hj=> ?_)).mono fun e w1 ⟨v',h1,h2,h3,h4⟩=> ?_
   ·have h:=hc j hj
    rw[hb.cell (p:=⟨b,off+j,none⟩) (World.block_lt_of_cell? w0 _ h)]
    exact h
   ·rw[List.take_length]at h2
    exact fin _ _ _ _ rfl h1 h2 h3 h4
def al3{w w1:World}{o1 o2 o3:Obj}(h:Below (((w.alloc o1).alloc o2).alloc o3).heap.size (((w.alloc o1).alloc o2).alloc o3) w1):w1.heap[w.heap.size]? =some o1∧w1.heap[w.heap.size+1]? =some o2∧w1.heap[w.heap.size+1+1]? =some o3:=by
 have z: ∀(w:World) (o:Obj),(w.alloc o).heap.size=w.heap.size+1:=fun w o=>by simp
 refine⟨?_, ?_, ?_⟩
 ·rw[h.block _ (by rw[z,z,z];omega),Below.heap_alloc _ _ _ (by rw[z,z];omega),Below.heap_alloc _ _ _ (by rw[z];omega)];exact heap_alloc_new w o1
 ·rw[h.block _ (by rw[z,z,z];omega),Below.heap_alloc _ _ _ (by rw[z,z];omega),←z w o1];exact heap_alloc_new _ o2
 ·rw[h.block _ (by rw[z,z,z];omega),←z w o1,←z (w.alloc o1) o2];exact heap_alloc_new _ o3
def cell_in{w:World}{b o:Nat}{a:Array Value}{t:TypeId}{v:Value}(h:w.heap[b]? =some (.cells a t (0,0)))(hv:a[o]? =some v):w.cell? ⟨b,o,none⟩=some v:=by simp[World.cell?,h,hv]
theorem unfr{w:World}{b o:Nat}{a:Array Value}{t:TypeId}(h:w.heap[b]? =some (.cells a t (0,0))):w.frozen? ⟨b,o,none⟩=false:=by simp[World.frozen?,h]
def ow_mono{w:World}{b b':Nat}{v:Value}{n:Nat}{xs:List Value}(h:w.ownsRow b 9 1 v n xs)(hb:b'≤b):w.ownsRow b' 9 1 v n xs:=by
 refine⟨h.1,h.2.imp id ?_⟩
 rintro⟨g,cap,cur,h1,h2,h3⟩
 exact⟨g,cap,cur,h1,Nat.le_trans hb h2,h3⟩
def ow3{w w1:World}{o1 o2 o3:Obj}{v:Value}{n:Nat}{xs:List Value}(h:w1.ownsRow (((w.alloc o1).alloc o2).alloc o3).heap.size 9 1 v n xs):w1.ownsRow (w.heap.size+1+1+1) 9 1 v n xs:=by simpa using h
def be3{w w1:World}{o1 o2 o3:Obj}(h:Below (((w.alloc o1).alloc o2).alloc o3).heap.size (((w.alloc o1).alloc o2).alloc o3) w1):Below w.heap.size w w1:=
 ((((Below.refl _ _).alloc (Nat.le_refl _) _).alloc (by simp) _).alloc (by simp <;> omega) _).trans (h.mono (by simp <;> omega))
theorem wrapEq(x:Int):IntKind.i64.wrap x=wrap64 x:=by rw[IntKind.wrap_i64];unfold wrap64;rfl
def far_cell{w:World}{p a:Addr}{v:Value}(h:a.block≠p.block):(w.setCell p v).cell? a=w.cell? a:=by unfold World.cell?;rw[Below.heap_setCell _ _ _ _ h]
def CntT(w:World)(f0:Int)(f1:Bool)(kf lg hd bl lo so:Int)(v:Value)(ss:List ByteArray)(e:Ending)(w1:World):Prop:=
 ∃va c,e= .returned (.agg #[.int .i64 f0,.bool f1,.int .i64 kf,.bool true,.int .i64 lg,.int .i64 (IntKind.i64.wrap (hd+1)),.int .i64 bl,.int .i64 lo,.int .i64 so,.slice va ss.length c])∧w1.ownsRow w.heap.size 9 1 (.slice va ss.length c) ss.length (ss.map Value.string)∧(va=none↔v= .slice none 0 0)∧Below w.heap.size w w1
set_option maxHeartbeats 2000000 in
set_option maxRecDepth 100000 in
def Tryz.count_head(w:World)(s:Value)(f0 l0 kf lg hd bl lo so:Int)(f1 l1:Bool)(va:Option Addr)(vn vc:Nat)(ss:List ByteArray)(hv:Strs w (.slice va vn vc) ss):
  Calls Tryz.prog 76 #[s,.agg #[.int .i64 f0,.bool f1,.int .i64 l0,.bool l1,.int .i64 lg,.int .i64 hd,.int .i64 bl,.int .i64 lo,.int .i64 so,.slice va vn vc],.agg #[.int .i64 kf,.bool true]] w (CntT w f0 f1 kf lg hd bl lo so (.slice va vn vc) ss):=by
 go_enter Tryz.func76,Tryz.ntmps76
 go_wp2_with fail
 refine(Tryz.clone_any w _ _ ss ((((Below.refl _ _).alloc (Nat.le_refl _) _).alloc (by simp) _).alloc (by simp <;> omega) _) hv).mono ?_
 rintro e w1 ⟨va',c',rfl,hown,hnn,hbel⟩
 have hown:=ow3 hown
 have hbw:=be3 hbel
 obtain⟨B0,B1,B2⟩:=al3 (w:=w) hbel
 have Q:=fun i v h=>cell_in (w:=w1) (o:=i) (v:=v) B0 h
 have R:=fun i v h=>cell_in (w:=w1) (o:=i) (v:=v) B1 h
 have S:=fun i v h=>cell_in (w:=w1) (o:=i) (v:=v) B2 h
 have q0:=Q 0 _ rfl;have q1:=Q 1 _ rfl;have q2:=Q 2 _ rfl;have q3:=Q 3 _ rfl;have q4:=Q 4 _ rfl;have q5:=Q 5 _ rfl;have q6:=Q 6 _ rfl;have q7:=Q 7 _ rfl;have q8:=Q 8 _ rfl;have q9:=Q 9 _ rfl
 have r0:=R 0 _ rfl;have r1:=R 1 _ rfl
 have s0:=S 0 _ rfl;have s1:=S 1 _ rfl;have s2:=S 2 _ rfl;have s3:=S 3 _ rfl;have s4:=S 4 _ rfl;have s5:=S 5 _ rfl;have s6:=S 6 _ rfl;have s7:=S 7 _ rfl;have s8:=S 8 _ rfl;have s9:=S 9 _ rfl
 have g0:=fun o=>unfr (o:=o) B0
 have g1:=fun o=>unfr (o:=o) B1
 have g2:=fun o=>unfr (o:=o) B2
 clear Q R S B0 B1 B2
 go_wp2_with fail
 refine bodyPost_ret (v:= .agg #[.int .i64 f0,.bool f1,.int .i64 kf,.bool true,.int .i64 lg,.int .i64 (IntKind.i64.wrap (hd+1)),.int .i64 bl,.int .i64 lo,.int .i64 so,.slice va' ss.length c']) (by simp[results,Tryz.results91,go_sem,s0,s1,s2,s3,s4,s5,s6,s7,s8,s9];exact(wrapEq _).symm) rfl ⟨va',c',rfl, ?_,hnn, ?_⟩
 ·refine ow_mono (b:=w.heap.size+1+1+1) ?_ (by omega)
  repeat' refine ownsRow_setCell_below ?_ (by simp <;> omega) _
  exact hown
 ·repeat' refine Below.setCell ?_ (by simp <;> omega) _
  exact hbw
def sc_same{w:World}{b o:Nat}{A:Array Value}{t:TypeId}{v:Value}(h:w.heap[b]? =some (.cells A t (0,0))):(w.setCell ⟨b,o,none⟩ v).heap[b]? =some (.cells (A.setIfInBounds o v) t (0,0)):=by
 simp[World.setCell,Array.getElem?_modify,h]
def sc_far{w:World}{b c o:Nat}{v:Value}{x:Option Obj}(h:w.heap[b]? =x)(hn:b≠c):(w.setCell ⟨c,o,none⟩ v).heap[b]? =x:=by rw[Below.heap_setCell _ _ _ _ hn];exact h
def AtC(ss:List ByteArray)(ty:ByteArray)(k:Nat):Prop:=k≤ss.length∧(∀t,t<k→Op.bytesLess (ss.getD t ty).toList ty.toList=true)∧(∀t,k≤t→Op.bytesLess (ss.getD t ty).toList ty.toList=false)
def Tryz.search_any(w:World)(base:Nat)(va:Option Addr)(c:Nat)(ss:List ByteArray)(ty:ByteArray)(k:Nat)(hk:AtC ss ty k)(hl:ss.length≤1000)(ho:w.ownsRow base 9 1 (.slice va ss.length c) ss.length (ss.map Value.string)):
  Calls Tryz.prog 136 #[.slice va ss.length c,.string ty] w fun e w'=>e= .returned (.tuple #[.int .i64 (k:Int),.bool (decide (ss[k]? =some ty))])∧ ∃q,w'=w.drewN q:=by
 obtain⟨h1,h2,h3⟩:=hk
 by_cases h0:ss.length=0
 ·obtain rfl:ss= []:=List.length_eq_zero_iff.1 h0
  obtain rfl:k=0:=by simpa using h1
  refine(Any2.slices_BinarySearch_string_empty Tryz.bsL va c ty w).mono fun e w' ⟨a,b⟩=> ?_
  exact⟨by rw[a];simp,0,by rw[b];rfl⟩
 ·rcases ho.2 with⟨_,h⟩|⟨g,cap,cur,hv,_,hg,hnc,_,hcz,htk⟩
  ·exact absurd h h0
  ·simp only[Value.slice.injEq]at hv
   obtain⟨rfl,_,rfl⟩:=hv
   have hb:=Lib.bsGo_spec (fun t=>Op.bytesLess (ss.getD t ty).toList ty.toList) k h2 h3 ss.length 0 ss.length (by omega) (Nat.zero_le _) h1
   refine(Any2.slices_BinarySearch_string Tryz.bsL g 0 ss.length c (fun j=>ss.getD j ty) ty w (by omega) fun j hj=> ?_).mono fun e w' ⟨a,b⟩=>⟨?_,b⟩
   ·refine cell_in hg ?_
    have:(cur.toList.take (ss.length*1))[j]? =some (.string ss[j]):=by rw[htk,List.getElem?_map,List.getElem?_eq_getElem hj];rfl
    rw[List.getElem?_take_of_lt (by omega)]at this
    rw[Nat.zero_add,←Array.getElem?_toList,this,List.getD_eq_getElem?_getD,List.getElem?_eq_getElem hj];rfl
   ·rw[a]
    simp only[hb]
    congr 5
    by_cases hlt:k<ss.length
    ·rw[List.getElem?_eq_getElem hlt,List.getD_eq_getElem?_getD,List.getElem?_eq_getElem hlt];simp[hlt]
    ·rw[List.getElem?_eq_none (by omega)];simp[hlt]
def Tryz.search_b(w:World)(base:Nat)(va:Option Addr)(c:Nat)(ss:List ByteArray)(ty:ByteArray)(k:Nat)(hk:AtC ss ty k)(hl:ss.length≤1000)(b:Bool)(hb:decide (ss[k]? =some ty)=b)(ho:w.ownsRow base 9 1 (.slice va ss.length c) ss.length (ss.map Value.string)):
  Calls Tryz.prog 136 #[.slice va ss.length c,.string ty] w fun e w'=>e= .returned (.tuple #[.int .i64 (k:Int),.bool b])∧ ∃q,w'=w.drewN q:=by
 rw[←hb];exact Tryz.search_any w base va c ss ty k hk hl ho
theorem sets_at(b:Nat): ∀(vs:List Value) (o:Nat) (w:World) (A:Array Value) (t:TypeId),w.heap[b]? =some (.cells A t (0,0))→ ∃A':Array Value,(w.setCells b o vs).heap[b]? =some (.cells A' t (0,0))∧A'.size=A.size∧ ∀j,A'[j]? =if o≤j∧j<o+vs.length∧j<A.size then vs[j-o]? else A[j]?
 | [],o,w,A,t,h=>⟨A,h,rfl,fun j=>by rw[if_neg (by simp;omega)]⟩
 |v::r,o,w,A,t,h=>by
  obtain⟨A',h1,h2,h3⟩:=sets_at b r (o+1) (w.setCell ⟨b,o,none⟩ v) _ t (sc_same h)
  refine⟨A',h1,by rw[h2,Array.size_setIfInBounds],fun j=> ?_⟩
  rw[h3 j,Array.size_setIfInBounds,List.length_cons]
  by_cases c:o+1≤j∧j<o+1+r.length∧j<A.size
  ·rw[if_pos c,if_pos ⟨by omega,by omega,c.2.2⟩,show j-o=(j-(o+1))+1 by omega,List.getElem?_cons_succ]
  ·rw[if_neg c]
   by_cases e:j=o
   ·subst e
    by_cases hj:j<A.size
    ·rw[if_pos ⟨by omega,by omega,hj⟩,Nat.sub_self,List.getElem?_cons_zero,Array.getElem?_setIfInBounds_self,if_pos hj]
    ·rw[if_neg (by omega),Array.getElem?_setIfInBounds_self,if_neg hj,Array.getElem?_eq_none (by omega)]
   ·rw[if_neg (by omega),Array.getElem?_setIfInBounds_ne (fun h=>e h.symm)]
theorem sets_below{B b:Nat}{a:World}(hb:B≤b): ∀(vs:List Value) (o:Nat) (w:World),Below B a w→Below B a (w.setCells b o vs)
 | [],_,_,h=>h
 |v::r,o,w,h=>sets_below hb r (o+1) _ (h.setCell (p:=⟨b,o,none⟩) hb v)
def InsP(base:Nat)(w:World)(ss:List ByteArray)(e:Ending)(w':World):Prop:= ∃g c,e= .returned (.slice (some ⟨g,0,none⟩) ss.length c)∧w'.ownsRow base 9 1 (.slice (some ⟨g,0,none⟩) ss.length c) ss.length (ss.map Value.string)∧Below base w w'
def insP_mk{base g c:Nat}{w w':World}{ss:List ByteArray}{A:Array Value}(hb:base≤g)(hh:w'.heap[g]? =some (.cells A 9 (0,0)))(hn:ss.length≤c)(hm:c≤maxLen)(hs:A.size=c)(hA: ∀j,j<ss.length→A[j]? =some (.string (ss.getD j ByteArray.empty)))(hw:Below base w w'):InsP base w ss (.returned (.slice (some ⟨g,0,none⟩) ss.length c)) w':=by
 refine⟨g,c,rfl,⟨by simp,.inr ⟨g,c,A,rfl,hb,hh,hn,hm,by omega, ?_⟩⟩,hw⟩
 rw[Nat.mul_one]
 apply List.ext_getElem?
 intro j
 by_cases hj:j<ss.length
 ·rw[List.getElem?_take_of_lt hj,Array.getElem?_toList,hA j hj,List.getElem?_map,List.getElem?_eq_getElem hj,List.getD_eq_getElem?_getD,List.getElem?_eq_getElem hj];rfl
 ·rw[List.getElem?_eq_none (by simp;omega),List.getElem?_eq_none (by simp;omega)]
theorem ins_get(ss:List ByteArray)(ty:ByteArray)(k:Nat)(hk:k≤ss.length)(j:Nat)(hj:j<ss.length+1):(ss.take k++ty::ss.drop k).getD j ByteArray.empty=if j<k then ss.getD j ByteArray.empty else if j=k then ty else ss.getD (j-1) ByteArray.empty:=by
 have hl:(ss.take k).length=k:=by rw[List.length_take];omega
 rw[List.getD_eq_getElem?_getD]
 by_cases h:j<k
 ·rw[if_pos h,List.getElem?_append_left (by omega),List.getElem?_take_of_lt h,List.getD_eq_getElem?_getD]
 ·rw[if_neg h,List.getElem?_append_right (by omega),hl]
  by_cases e:j=k
  ·rw[if_pos e,e,Nat.sub_self];rfl
  ·rw[if_neg e,show j-k=(j-1-k)+1 by omega,List.getElem?_cons_succ,List.getElem?_drop,List.getD_eq_getElem?_getD,show k+(j-1-k)=j-1 by omega]
def arr_fin(ss:List ByteArray)(ty:ByteArray)(k:Nat)(hk:k≤ss.length)(X:Array Value)(h1: ∀j,j<k→X[j]? =some (.string (ss.getD j ByteArray.empty)))(h2:X[k]? =some (.string ty))(h3: ∀j,k<j→j<ss.length+1→X[j]? =some (.string (ss.getD (j-1) ByteArray.empty))):
  ∀j,j<(ss.take k++ty::ss.drop k).length→X[j]? =some (.string ((ss.take k++ty::ss.drop k).getD j ByteArray.empty)):=fun j hj=>by
 have hlen:(ss.take k++ty::ss.drop k).length=ss.length+1:=by simp;omega
 rw[ins_get ss ty k hk j (by omega)]
 by_cases a:j<k
 ·rw[if_pos a];exact h1 j a
 ·rw[if_neg a]
  by_cases b:j=k
  ·rw[if_pos b,b];exact h2
  ·rw[if_neg b];exact h3 j (by omega) (by omega)
theorem zc_size(n:Nat):(Builtin.zeroCells (Value.string ⟨#[]⟩).cells n).size=n:=by simp[Builtin.zeroCells,Value.cells]
def end_fin(w:World)(base:Nat)(ss:List ByteArray)(ty:ByteArray)(c:Nat)(hbase:base≤w.heap.size)(hl:ss.length≤1000):InsP base w (ss.take ss.length++ty::ss.drop ss.length) (.returned (.slice (some ⟨w.heap.size,0,none⟩) (ss.length+1) (grownCap w (ss.length+1) c 9))) (w.drew.alloc (.cells ((ss.map Value.string++ [Value.string ty]).toArray++Builtin.zeroCells (Value.string ⟨#[]⟩).cells (grownCap w (ss.length+1) c 9-(ss.length+1))) 9)):=by
 have hgc:=grownCap_ge w (ss.length+1) c 9
 have hgm:=grownCap_le_maxLen w (ss.length+1) c 9 (by unfold maxLen;omega)
 generalize grownCap w (ss.length+1) c 9=G at*
 have hlen:(ss.take ss.length++ty::ss.drop ss.length).length=ss.length+1:=by simp
 rw[←hlen]
 refine insP_mk hbase (heap_alloc_new w.drew _) (by omega) hgm (by rw[Array.size_append,zc_size];simp;omega) (arr_fin ss ty _ (Nat.le_refl _) _ (fun j hj=> ?_) ?_ (fun j h1 h2=>by omega)) ((Below.refl _ _).drew.alloc (by simpa using hbase) _)
 ·rw[Array.getElem?_append_left (by simp;omega)]
  simp[List.getElem?_append_left,hj,List.getElem?_eq_getElem hj]
 ·rw[Array.getElem?_append_left (by simp)]
  simp
def Tryz.insert_any(w:World)(base:Nat)(va:Option Addr)(c:Nat)(ss:List ByteArray)(ty:ByteArray)(k:Nat)(hk:k≤ss.length)(hl:ss.length≤1000)(ho:w.ownsRow base 9 1 (.slice va ss.length c) ss.length (ss.map Value.string))(vb:Nat)(hvb:w.heap[vb]? =some (.cells #[.string ty] 9 (0,0)))(hne: ∀a,va=some a→a.block≠vb)(hbase:base≤w.heap.size):
  Calls Tryz.prog 137 #[.slice va ss.length c,.int .i64 (k:Int),.slice (some ⟨vb,0,none⟩) 1 1] w (InsP base w (ss.take k++ty::ss.drop k)):=by
 have hvs: ∀(j:Nat) (v:Value),[Value.string ty][j]? =some v→w.cell? ⟨vb,0+j,none⟩=some v:=fun j v h=>cell_in hvb (by rw[Nat.zero_add];simpa using h)
 have h1v: ∀v∈ [Value.string ty],v.oneCell'=true:=fun v hv=>by simp at hv;subst hv;rfl
 have hlen:(ss.take k++ty::ss.drop k).length=ss.length+1:=by simp;omega
 have hcl:(ss.map Value.string).length=ss.length:=by simp
 have h1c: ∀v∈ss.map Value.string,v.oneCell'=true:=fun v hv=>by obtain⟨x,_,rfl⟩:=List.mem_map.1 hv;rfl
 rcases ho.2 with⟨hv,h0⟩|⟨g,cap,cur,hv,hg,hh,hnc,hcm,hcz,htk⟩
 ·obtain rfl:ss= []:=List.length_eq_zero_iff.1 h0
  obtain rfl:k=0:=by simpa using hk
  simp only[Value.slice.injEq]at hv
  obtain⟨rfl,_,rfl⟩:=hv
  refine(Any2.slices_Insert_string_end_grow Tryz.inL none 0 0 vb 0 1 1 [] [.string ty] w (by omega) (Nat.le_refl _) (by omega) (by omega) rfl rfl (fun _=>rfl) (fun a ha=>by cases ha) hvs h1v).mono ?_
  rintro e w' ⟨rfl,rfl⟩
  exact end_fin w base [] ty 0 hbase hl
 ·simp only[Value.slice.injEq]at hv
  obtain⟨rfl,_,rfl⟩:=hv
  have hcs: ∀(j:Nat) (v:Value),(ss.map Value.string)[j]? =some v→w.cell? ⟨g,0+j,none⟩=some v:=fun j v h=>by
   have hj:j<ss.length:=by have:=(List.getElem?_eq_some_iff.1 h).1;simpa using this
   refine cell_in hh ?_
   rw[←htk,List.getElem?_take_of_lt (by omega)]at h
   rw[Nat.zero_add,←Array.getElem?_toList];exact h
  have hcur: ∀j,j<ss.length→cur[j]? =some (.string (ss.getD j ByteArray.empty)):=fun j hj=>by
   have:(cur.toList.take (ss.length*1))[j]? =some (.string ss[j]):=by rw[htk,List.getElem?_map,List.getElem?_eq_getElem hj];rfl
   rw[List.getElem?_take_of_lt (by omega),Array.getElem?_toList]at this
   rw[this,List.getD_eq_getElem?_getD,List.getElem?_eq_getElem hj];rfl
  have hcm':c≤9223372036854775807:=Nat.le_trans hcm (by unfold maxLen;omega)
  have hgv:g≠vb:=hne _ rfl
  have hsz: ∀j,j<c→(w.cell? ⟨g,0+j,none⟩).isSome=true:=fun j hj=>by
   unfold World.cell?
   rw[hh]
   simp[hcz,hj]
  have hfz: ∀j,w.frozen? ⟨g,j,none⟩=false:=fun j=>unfr hh
  have hdr: ∀j,k<j→j<ss.length+1→((ss.map Value.string).drop k)[j-(k+1)]? =some (.string (ss.getD (j-1) ByteArray.empty)):=fun j h1 h2=>by
   rw[List.getElem?_drop,show k+(j-(k+1))=j-1 by omega,List.getElem?_map,List.getD_eq_getElem?_getD,List.getElem?_eq_getElem (by omega)];rfl
  rcases Nat.lt_or_ge k ss.length with hkl|hkl
  ·rcases Nat.lt_or_ge ss.length c with hr|hr
   ·refine(Any2.slices_Insert_string_shift Tryz.inL g 0 ss.length c k vb 0 1 1 (ss.map Value.string) [.string ty] w hkl (by omega) (by omega) hcm' hgv.symm hcl rfl hcs (fun j hj=>hsz j (by omega)) (fun j _=>hfz _) hvs h1c h1v 9 9 1 cur.size (by unfold World.shape?;rw[hvb];rfl) (by unfold World.shape?;rw[hh]) (by omega) (unfr hvb) (unfr hvb)).mono ?_
    rintro e w' ⟨rfl,rfl⟩
    obtain⟨A1,a1,a2,a3⟩:=sets_at g ((ss.map Value.string).drop k) (0+(k+1)) w.drew cur 9 hh
    obtain⟨A2,b1,b2,b3⟩:=sets_at g [.string ty] (0+k) _ A1 9 a1
    rw[show ss.length+1=(ss.take k++ty::ss.drop k).length from hlen.symm]
    refine insP_mk hg b1 (by omega) hcm (by omega) (arr_fin ss ty k hk A2 (fun j hj=> ?_) ?_ (fun j h1 h2=> ?_)) (sets_below hg _ _ _ (sets_below hg _ _ _ (Below.refl _ _).drew))
    ·rw[b3,if_neg (by simp;omega),a3,if_neg (by simp;omega)];exact hcur j (by omega)
    ·rw[b3,if_pos (by simp;omega),Nat.zero_add,Nat.sub_self];rfl
    ·rw[b3,if_neg (by simp;omega),a3,if_pos (by simp;omega),Nat.zero_add];exact hdr j h1 h2
   ·refine(Any2.slices_Insert_string_grow Tryz.inL g 0 ss.length c k vb 0 1 1 (ss.map Value.string) [.string ty] w hkl (by omega) hnc (by omega) (by omega) hcl rfl hcs hvs h1c h1v).mono ?_
    rintro e w' ⟨rfl,rfl⟩
    have hgc:=grownCap_ge w (ss.length+1) c 9
    have hgm:=grownCap_le_maxLen w (ss.length+1) c 9 (by unfold maxLen;omega)
    have hG:grownCap w (ss.length+1) c (Tryz.inL_ren.t 9)=grownCap w (ss.length+1) c 9:=rfl
    rw[hG]
    generalize hgr:grownCap w (ss.length+1) c 9=G at*
    have hb0: ∀A:Array Value,((w.alloc (Obj.cells A 9)).drew).heap[w.heap.size]? =some (.cells A 9 (0,0)):=fun A=>heap_alloc_new w _
    have hA0: ∀j,j<k→((((ss.map Value.string).take k).toArray++Builtin.zeroCells (Value.string ⟨#[]⟩).cells (ss.length+1-k)++Builtin.zeroCells (Value.string ⟨#[]⟩).cells (G-(ss.length+1))):Array Value)[j]? =some (.string (ss.getD j ByteArray.empty)):=fun j hj=>by
     rw[Array.getElem?_append_left (by rw[Array.size_append];simp;omega),Array.getElem?_append_left (by simp;omega)]
     simp[List.getElem?_take_of_lt hj,List.getElem?_eq_getElem (show j<ss.length by omega)]
    have hS:((((ss.map Value.string).take k).toArray++Builtin.zeroCells (Value.string ⟨#[]⟩).cells (ss.length+1-k)++Builtin.zeroCells (Value.string ⟨#[]⟩).cells (G-(ss.length+1))):Array Value).size=G:=by
     rw[Array.size_append,Array.size_append,zc_size,zc_size];simp;omega
    generalize ((((ss.map Value.string).take k).toArray++Builtin.zeroCells (Value.string ⟨#[]⟩).cells (ss.length+1-k)++Builtin.zeroCells (Value.string ⟨#[]⟩).cells (G-(ss.length+1))):Array Value)=A0 at*
    obtain⟨A1,a1,a2,a3⟩:=sets_at w.heap.size [.string ty] k _ A0 9 (hb0 A0)
    obtain⟨A2,b1,b2,b3⟩:=sets_at w.heap.size ((ss.map Value.string).drop k) (k+1) (((w.alloc (Obj.cells A0 9)).drew.setCells w.heap.size k [.string ty]).drew) A1 9 a1
    rw[show ss.length+1=(ss.take k++ty::ss.drop k).length from hlen.symm]
    refine insP_mk hbase b1 (by omega) hgm (by omega) (arr_fin ss ty k hk A2 (fun j hj=> ?_) ?_ (fun j h1 h2=> ?_)) (sets_below hbase _ _ _ (sets_below hbase _ _ _ ((Below.refl _ _).alloc hbase _).drew).drew)
    ·rw[b3,if_neg (by simp;omega),a3,if_neg (by simp;omega)];exact hA0 j hj
    ·rw[b3,if_neg (by simp;omega),a3,if_pos (by simp;omega),Nat.sub_self];rfl
    ·rw[b3,if_pos (by simp;omega)];exact hdr j h1 h2
  ·obtain rfl:k=ss.length:=by omega
   rcases Nat.lt_or_ge ss.length c with hr|hr
   ·refine(Any2.slices_Insert_string_end_room Tryz.inL g 0 ss.length c vb 0 1 1 [.string ty] w (by omega) (by omega) hcm' rfl (fun j hj=> ?_) (fun j _=>hfz _) hvs h1v).mono ?_
    ·rw[Nat.add_assoc];exact hsz _ (by omega)
    rintro e w' ⟨rfl,rfl⟩
    obtain⟨A1,a1,a2,a3⟩:=sets_at g [.string ty] (0+ss.length) w cur 9 hh
    rw[show ss.length+1=(ss.take ss.length++ty::ss.drop ss.length).length from hlen.symm]
    refine insP_mk hg a1 (by omega) hcm (by omega) (arr_fin ss ty _ hk A1 (fun j hj=> ?_) ?_ (fun j h1 h2=>by omega)) (sets_below hg _ _ _ (Below.refl _ _))
    ·rw[a3,if_neg (by simp;omega)];exact hcur j (by omega)
    ·rw[a3,if_pos (by simp;omega),Nat.zero_add,Nat.sub_self];rfl
   ·refine(Any2.slices_Insert_string_end_grow Tryz.inL (some ⟨g,0,none⟩) ss.length c vb 0 1 1 (ss.map Value.string) [.string ty] w (by omega) hnc (by omega) (by omega) hcl rfl (fun h=>by cases h) (fun a ha j v h=>by cases ha;rw[Addr.add_lit];exact hcs j v h) hvs h1v).mono ?_
    rintro e w' ⟨rfl,rfl⟩
    exact end_fin w base ss ty c hbase hl
def Tryz.insert_here(w w2 W:World)(va:Option Addr)(c:Nat)(ss:List ByteArray)(ty:ByteArray)(k:Nat)(hk:k≤ss.length)(hl:ss.length≤1000)(A C:Obj)(X0:w2.heap[w.heap.size]? =some A)(X2:w2.heap[w.heap.size+1+1]? =some C)(ho:w2.ownsRow (w.heap.size+1+1+1) 9 1 (.slice va ss.length c) ss.length (ss.map Value.string))(hb:Below w.heap.size w w2)(HW:Below w2.heap.size w2 W)(hV:W.heap[w2.heap.size]? =some (.cells #[.string ty] 9 (0,0))):
  Calls Tryz.prog 137 #[.slice va ss.length c,.int .i64 (k:Int),.slice (some ⟨w2.heap.size,0,none⟩) 1 1] W fun e w5=> ∃g c5,e= .returned (.slice (some ⟨g,0,none⟩) (ss.take k++ty::ss.drop k).length c5)∧w5.heap[w.heap.size]? =some A∧w5.heap[w.heap.size+1+1]? =some C∧w5.ownsRow (w.heap.size+1+1+1) 9 1 (.slice (some ⟨g,0,none⟩) (ss.take k++ty::ss.drop k).length c5) (ss.take k++ty::ss.drop k).length ((ss.take k++ty::ss.drop k).map Value.string)∧Below w.heap.size w w5:=by
 have h2:w.heap.size+1+1<w2.heap.size:=(Array.getElem?_eq_some_iff.1 X2).1
 have hW:=HW.block
 have hs:=HW.size
 have hO:W.ownsRow (w.heap.size+1+1+1) 9 1 (.slice va ss.length c) ss.length (ss.map Value.string):=by
  refine⟨ho.1,ho.2.imp id ?_⟩
  rintro⟨g,cap,cur,h1,h2,h3,h4⟩
  exact⟨g,cap,cur,h1,h2,(hW g (Array.getElem?_eq_some_iff.1 h3).1).trans h3,h4⟩
 have hne: ∀a,va=some a→a.block≠w2.heap.size:=fun a ha=>by
  rcases ho.2 with⟨h,_⟩|⟨g,cap,cur,h,_,h3,_⟩
  ·rw[ha]at h;simp at h
  ·rw[ha]at h
   simp only[Value.slice.injEq,Option.some.injEq]at h
   rw[h.1]
   have:=(Array.getElem?_eq_some_iff.1 h3).1
   show g≠_
   omega
 refine(Tryz.insert_any _ (w.heap.size+1+1+1) va c ss ty k hk hl hO w2.heap.size hV hne (by omega)).mono ?_
 rintro e w5 ⟨g,c5,rfl,h3,h4⟩
 refine⟨g,c5,rfl, ?_, ?_,h3, ?_⟩
 ·rw[h4.block _ (by omega),hW _ (by omega)];exact X0
 ·rw[h4.block _ (by omega),hW _ (by omega)];exact X2
 ·exact(hb.trans (HW.mono (by omega))).trans (h4.mono (by omega))
def Tryz.insert_at(w w2:World)(m:Nat)(va:Option Addr)(c:Nat)(ss:List ByteArray)(ty:ByteArray)(k:Nat)(hk:k≤ss.length)(hl:ss.length≤1000)(A C:Obj)(X0:w2.heap[w.heap.size]? =some A)(X2:w2.heap[w.heap.size+1+1]? =some C)(ho:w2.ownsRow (w.heap.size+1+1+1) 9 1 (.slice va ss.length c) ss.length (ss.map Value.string))(hb:Below w.heap.size w w2)(rs:List ByteArray)(hrs:rs=ss.take k++ty::ss.drop k):
  Calls Tryz.prog 137 #[.slice va ss.length c,.int .i64 (k:Int),.slice (some ⟨w2.heap.size,0,none⟩) 1 1] ((w2.drewN m).alloc (.cells #[.string ty] 9)) fun e w5=> ∃g c5,e= .returned (.slice (some ⟨g,0,none⟩) rs.length c5)∧w5.heap[w.heap.size]? =some A∧w5.heap[w.heap.size+1+1]? =some C∧w5.ownsRow (w.heap.size+1+1+1) 9 1 (.slice (some ⟨g,0,none⟩) rs.length c5) rs.length (rs.map Value.string)∧Below w.heap.size w w5:=by
 rw[hrs];exact Tryz.insert_here w w2 _ va c ss ty k hk hl A C X0 X2 ho hb ⟨rfl,rfl,rfl,by simp,fun i hi=>Below.heap_alloc _ _ _ hi⟩ (heap_alloc_new (w2.drewN m) _)
def cell_al{w:World}{o:Obj}{a:Addr}(h:a.block<w.heap.size):(w.alloc o).cell? a=w.cell? a:=by unfold World.cell?;rw[Below.heap_alloc _ _ _ h]
def CntF(w:World)(f0:Int)(f1:Bool)(kf lg hd bl lo so:Int)(ss:List ByteArray)(e:Ending)(w1:World):Prop:=
 ∃va c,e= .returned (.agg #[.int .i64 f0,.bool f1,.int .i64 kf,.bool false,.int .i64 (IntKind.i64.wrap (lg+1)),.int .i64 hd,.int .i64 bl,.int .i64 lo,.int .i64 so,.slice va ss.length c])∧va≠none∧w1.ownsRow w.heap.size 9 1 (.slice va ss.length c) ss.length (ss.map Value.string)∧Below w.heap.size w w1
set_option maxHeartbeats 2000000 in
set_option maxRecDepth 100000 in
def Tryz.count_leg(w:World)(B o bF oF len cap k:Nat)(hk:k<len)(hcB:w.cell? ⟨B,o+2,none⟩=some (.slice (some ⟨bF,oF,none⟩) len cap))(dp ar:Int)(ty:ByteArray)(hd3:w.cell? ⟨bF,oF+k*9+3,none⟩=some (.int .i64 dp))(hd4:w.cell? ⟨bF,oF+k*9+4,none⟩=some (.int .i64 ar))(hd5:w.cell? ⟨bF,oF+k*9+5,none⟩=some (.string ty))
  (f0 l0 lg hd bl lo so:Int) (f1 l1:Bool) (va:Option Addr) (vn vc:Nat) (ss:List ByteArray) (hv:Strs w (.slice va vn vc) ss) (q:Nat) (hq:AtC ss ty q) (hl:ss.length≤1000) (rs:List ByteArray) (hrs:rs=if ss[q]? =some ty then ss else ss.take q++ty::ss.drop q):
  Calls Tryz.prog 76 #[.pointer (some ⟨B,o,none⟩),.agg #[.int .i64 f0,.bool f1,.int .i64 l0,.bool l1,.int .i64 lg,.int .i64 hd,.int .i64 bl,.int .i64 lo,.int .i64 so,.slice va vn vc],.agg #[.int .i64 (k:Int),.bool false]] w (CntF w f0 f1 k lg hd (IntKind.i64.wrap (bl+IntKind.i64.wrap (ar-dp))) lo so rs):=by
 have Hrs:=Lib.hid hrs
 clear hrs
 have hB:=World.block_lt_of_cell? w _ hcB
 have hF:=World.block_lt_of_cell? w _ hd3
 simp only at hB hF
 go_enter Tryz.func76,Tryz.ntmps76
 go_wp2_with fail
 refine(Tryz.clone_any w _ _ ss ((((Below.refl _ _).alloc (Nat.le_refl _) _).alloc (by simp) _).alloc (by simp <;> omega) _) hv).mono ?_
 rintro e w1 ⟨va',c',rfl,hown,hnn,hbel⟩
 have hown:=ow3 hown
 have hbw:=be3 hbel
 obtain⟨B0,B1,B2⟩:=al3 (w:=w) hbel
 have Q:=fun i v h=>cell_in (w:=w1) (o:=i) (v:=v) B0 h
 have R:=fun i v h=>cell_in (w:=w1) (o:=i) (v:=v) B1 h
 have S:=fun i v h=>cell_in (w:=w1) (o:=i) (v:=v) B2 h
 have q0:=Q 0 _ rfl;have q1:=Q 1 _ rfl;have q2:=Q 2 _ rfl;have q3:=Q 3 _ rfl;have q4:=Q 4 _ rfl;have q5:=Q 5 _ rfl;have q6:=Q 6 _ rfl;have q7:=Q 7 _ rfl;have q8:=Q 8 _ rfl;have q9:=Q 9 _ rfl
 have r0:=R 0 _ rfl;have r1:=R 1 _ rfl
 have s0:=S 0 _ rfl;have s1:=S 1 _ rfl;have s2:=S 2 _ rfl;have s3:=S 3 _ rfl;have s4:=S 4 _ rfl;have s5:=S 5 _ rfl;have s6:=S 6 _ rfl;have s7:=S 7 _ rfl;have s8:=S 8 _ rfl;have s9:=S 9 _ rfl
 have g0:=fun o=>unfr (o:=o) B0
 have g1:=fun o=>unfr (o:=o) B1
 have g2:=fun o=>unfr (o:=o) B2
 have c2:=(hbw.cell (p:=⟨B,o+2,none⟩) hB).trans hcB
 have c3:=(hbw.cell (p:=⟨bF,oF+k*9+3,none⟩) hF).trans hd3
 have c4:=(hbw.cell (p:=⟨bF,oF+k*9+4,none⟩) hF).trans hd4
 have c5:=(hbw.cell (p:=⟨bF,oF+k*9+5,none⟩) hF).trans hd5
 have nB:B≠w.heap.size:=by omega
 have nF:bF≠w.heap.size:=by omega
 have nF2:bF≠w.heap.size+1+1:=by omega
 have HB0:=Lib.hid B0
 have HB2:=Lib.hid B2
 have HBw:=Lib.hid hbw
 have HOw:=Lib.hid hown
 have HNn:=Lib.hid hnn
 clear Q R S B0 B1 B2 hcB hd3 hd4 hd5 hbw hown hnn hbel hv hB hF
 go_wp2_with fail
 refine(Tryz.flight_at _ B o bF oF len cap k hk ((far_cell nB).trans c2)).mono ?_
 rintro e w' ⟨rfl,rfl⟩
 go_wp2_with fail
 have e3:=fun v=>(far_cell (w:=w1) (p:=⟨w.heap.size,9,none⟩) (a:=⟨bF,oF+k*9+3,none⟩) (v:=v) nF).trans c3
 have e4:=fun v=>(far_cell (w:=w1) (p:=⟨w.heap.size,9,none⟩) (a:=⟨bF,oF+k*9+4,none⟩) (v:=v) nF).trans c4
 go_region
 go_wp2_with fail
 obtain⟨w2,hw2⟩: ∃w2,w2=(((w1.setCell ⟨w.heap.size,9,none⟩ (.slice va' ss.length c')).setCell ⟨w.heap.size,4,none⟩ (.int .i64 (wrap64 (lg+1)))).setCell ⟨w.heap.size,6,none⟩ (.int .i64 (wrap64 (bl+wrap64 (ar-dp))))).drew:=⟨_,rfl⟩
 rw[←hw2]
 have X0:w2.heap[w.heap.size]? =some (.cells #[.int .i64 f0,.bool f1,.int .i64 (k:Int),.bool false,.int .i64 (wrap64 (lg+1)),.int .i64 hd,.int .i64 (wrap64 (bl+wrap64 (ar-dp))),.int .i64 lo,.int .i64 so,.slice va' ss.length c'] 51 (0,0)):=by
  rw[hw2];exact sc_same (sc_same (sc_same HB0.out))
 have X2:=sc_far (v:= .int .i64 (wrap64 (bl+wrap64 (ar-dp)))) (o:=6) (c:=w.heap.size) (sc_far (v:= .int .i64 (wrap64 (lg+1))) (o:=4) (c:=w.heap.size) (sc_far (v:= .slice va' ss.length c') (o:=9) (c:=w.heap.size) HB2.out (by omega)) (by omega)) (by omega)
 have X2:w2.heap[w.heap.size+1+1]? =some (.cells #[.int .i64 0,.bool false,.int .i64 0,.bool false,.int .i64 0,.int .i64 0,.int .i64 0,.int .i64 0,.int .i64 0,.slice none 0 0] 51 (0,0)):=by rw[hw2];exact X2
 have X5:w2.cell? ⟨bF,oF+k*9+5,none⟩=some (.string ty):=by
  rw[hw2];exact(far_cell nF).trans ((far_cell nF).trans ((far_cell nF).trans c5))
 have XO:w2.ownsRow (w.heap.size+1+1+1) 9 1 (.slice va' ss.length c') ss.length (ss.map Value.string):=by
  rw[hw2];exact ownsRow_setCell_below (ownsRow_setCell_below (ownsRow_setCell_below HOw.out (by simp <;> omega) _) (by simp <;> omega) _) (by simp <;> omega) _
 have XB:Below w.heap.size w w2:=by
  rw[hw2];exact(((HBw.out.setCell (by simp) _).setCell (by simp) _).setCell (by simp) _).drew
 clear hw2 q0 q1 q2 q3 q4 q5 q6 q7 q8 q9 r0 r1 s0 s1 s2 s3 s4 s5 s6 s7 s8 s9 g0 g1 g2 c2 c3 c4 c5 e3 e4 HB0 HB2 HBw HOw HNn
 have Q:=fun i v h=>cell_in (w:=w2) (o:=i) (v:=v) X0 h
 have S:=fun i v h=>cell_in (w:=w2) (o:=i) (v:=v) X2 h
 have q0:=Q 0 _ rfl;have q1:=Q 1 _ rfl;have q2:=Q 2 _ rfl;have q3:=Q 3 _ rfl;have q4:=Q 4 _ rfl;have q5:=Q 5 _ rfl;have q6:=Q 6 _ rfl;have q7:=Q 7 _ rfl;have q8:=Q 8 _ rfl;have q9:=Q 9 _ rfl
 have s0:=S 0 _ rfl;have s1:=S 1 _ rfl;have s2:=S 2 _ rfl;have s3:=S 3 _ rfl;have s4:=S 4 _ rfl;have s5:=S 5 _ rfl;have s6:=S 6 _ rfl;have s7:=S 7 _ rfl;have s8:=S 8 _ rfl;have s9:=S 9 _ rfl
 have g0:=fun o=>unfr (o:=o) X0
 have g2:=fun o=>unfr (o:=o) X2
 have HX0:=Lib.hid X0
 have HX2:=Lib.hid X2
 have HXO:=Lib.hid XO
 have HXB:=Lib.hid XB
 clear Q S X0 X2 XO XB
 by_cases hfd:ss[q]? =some ty
 ·have hfb:decide (ss[q]? =some ty)=true:=decide_eq_true hfd
  have Hfd:=Lib.hid hfd
  have Hfb:=Lib.hid hfb
  clear hfd hfb
  go_quiet ((go_at_call 136;exact Calls.quiet_of (Tryz.search_b _ _ va' c' ss ty q hq hl true Hfb.out HXO.out)))
  go_wp2_with fail
  obtain rfl:ss=rs:=(Hrs.out.trans (if_pos Hfd.out)).symm
  have fin: ∀(w4:World),Below w.heap.size w w4→w4.ownsRow (w.heap.size+1+1+1) 9 1 (.slice va' ss.length c') ss.length (ss.map Value.string)→CntF w f0 f1 k lg hd (IntKind.i64.wrap (bl+IntKind.i64.wrap (ar-dp))) lo so ss (.returned (.agg #[.int .i64 f0,.bool f1,.int .i64 (k:Int),.bool false,.int .i64 (wrap64 (lg+1)),.int .i64 hd,.int .i64 (wrap64 (bl+wrap64 (ar-dp))),.int .i64 lo,.int .i64 so,.slice va' ss.length c'])) w4:=fun w4 h1 h2=>by
   refine⟨va',c',by rw[wrapEq,wrapEq,wrapEq], ?_,ow_mono h2 (by omega),h1⟩
   rintro rfl
   rcases h2.2 with⟨_,h0⟩|⟨g,cap,cur,h,_⟩
   ·have h:=Hfd.out
    rw[List.getElem?_eq_none (by omega)]at h;cases h
   ·simp at h
  refine bodyPost_ret (v:= .agg #[.int .i64 f0,.bool f1,.int .i64 (k:Int),.bool false,.int .i64 (wrap64 (lg+1)),.int .i64 hd,.int .i64 (wrap64 (bl+wrap64 (ar-dp))),.int .i64 lo,.int .i64 so,.slice va' ss.length c']) (by simp[results,Tryz.results91,go_sem,s0,s1,s2,s3,s4,s5,s6,s7,s8,s9]) rfl (fin _ ?_ ?_)
  ·repeat' refine Below.setCell ?_ (by simp <;> omega) _
   exact HXB.out.trans ⟨rfl,rfl,rfl,Nat.le_refl _,fun _ _=>rfl⟩
  ·repeat' refine ownsRow_setCell_below ?_ (by simp <;> omega) _
   exact HXO.out
 ·have hfb:decide (ss[q]? =some ty)=false:=decide_eq_false hfd
  have Hfd:=Lib.hid hfd
  have Hfb:=Lib.hid hfb
  clear hfd hfb
  go_quiet ((go_at_call 136;exact Calls.quiet_of (Tryz.search_b _ _ va' c' ss ty q hq hl false Hfb.out HXO.out)))
  go_wp2_with fail
  have Hrs2:=Lib.hid (Hrs.out.trans (if_neg Hfd.out))
  have k9: ∀o m,((w2.drewN m).alloc o).cell? ⟨w.heap.size,9,none⟩=some (.slice va' ss.length c'):=fun o m=>(cell_al (w:=w2.drewN m) (World.block_lt_of_cell? w2 _ q9)).trans q9
  have k5: ∀o m,((w2.drewN m).alloc o).cell? ⟨bF,oF+k*9+5,none⟩=some (.string ty):=fun o m=>(cell_al (w:=w2.drewN m) (World.block_lt_of_cell? w2 _ X5)).trans X5
  go_region_with ((go_at_call 137;refine(Tryz.insert_at w w2 _ va' c' ss ty q hq.1 hl _ _ HX0.out HX2.out HXO.out HXB.out rs Hrs2.out).mono ?_;rintro e w5 ⟨g5,c5,rfl,Y0,Y2,YO,YB⟩;have q0:=cell_in (o:=0) Y0 rfl;have q1:=cell_in (o:=1) Y0 rfl;have q2:=cell_in (o:=2) Y0 rfl;have q3:=cell_in (o:=3) Y0 rfl;have q4:=cell_in (o:=4) Y0 rfl;have q5:=cell_in (o:=5) Y0 rfl;have q6:=cell_in (o:=6) Y0 rfl;have q7:=cell_in (o:=7) Y0 rfl;have q8:=cell_in (o:=8) Y0 rfl;have q9:=cell_in (o:=9) Y0 rfl;have s0:=cell_in (o:=0) Y2 rfl;have s1:=cell_in (o:=1) Y2 rfl;have s2:=cell_in (o:=2) Y2 rfl;have s3:=cell_in (o:=3) Y2 rfl;have s4:=cell_in (o:=4) Y2 rfl;have s5:=cell_in (o:=5) Y2 rfl;have s6:=cell_in (o:=6) Y2 rfl;have s7:=cell_in (o:=7) Y2 rfl;have s8:=cell_in (o:=8) Y2 rfl;have s9:=cell_in (o:=9) Y2 rfl;have g0:=fun o=>unfr (o:=o) Y0;have g2:=fun o=>unfr (o:=o) Y2;have HYO:=Lib.hid YO;have HYB:=Lib.hid YB;clear Y0 Y2 YO YB))
  all_goals go_wp2_with fail
  all_goals
   have fin: ∀(w4:World),Below w.heap.size w w4→w4.ownsRow (w.heap.size+1+1+1) 9 1 (.slice (some ⟨g5,0,none⟩) rs.length c5) rs.length (rs.map Value.string)→CntF w f0 f1 k lg hd (IntKind.i64.wrap (bl+IntKind.i64.wrap (ar-dp))) lo so rs (.returned (.agg #[.int .i64 f0,.bool f1,.int .i64 (k:Int),.bool false,.int .i64 (wrap64 (lg+1)),.int .i64 hd,.int .i64 (wrap64 (bl+wrap64 (ar-dp))),.int .i64 lo,.int .i64 so,.slice (some ⟨g5,0,none⟩) rs.length c5])) w4:=fun w4 h1 h2=>
    ⟨_,c5,by rw[wrapEq,wrapEq,wrapEq],by simp,ow_mono h2 (by omega),h1⟩
   refine bodyPost_ret (v:= .agg #[.int .i64 f0,.bool f1,.int .i64 (k:Int),.bool false,.int .i64 (wrap64 (lg+1)),.int .i64 hd,.int .i64 (wrap64 (bl+wrap64 (ar-dp))),.int .i64 lo,.int .i64 so,.slice (some ⟨g5,0,none⟩) rs.length c5]) (by simp[results,Tryz.results91,go_sem, *]) rfl (fin _ ?_ ?_)
   ·repeat' refine Below.setCell ?_ (by simp <;> omega) _
    exact HYB.out
   ·repeat' refine ownsRow_setCell_below ?_ (by simp <;> omega) _
    exact HYO.out
end Go.Proofs
