/- The sorted keys of a map of integers, and the place of a byte in a string, by the shelf's contracts, as the evaluator meets them. Conditions: those of 'sortedKeys'. -/
import Derived.Test.YtbdfboojnfinkaaGreatEvD
import Derived.Test.YtbdfboojnfinkaaGreatIdx
import Derived.Test.YtbdfboojnfinkaaGreatShelfP
import Derived.Test.YtbdfboojnfinkaaGreatChecked
import Derived.KernelRfl
import Derived.ProofKit
set_option linter.unusedSimpArgs false
set_option linter.unusedVariables false
namespace Go.Proofs
open Go Go.Ev Go.RowKit
def asInts:List T→Option (List Int)
 | []=>some []
 | .i .i64 n::ts=>(asInts ts).map (n:: ·)
 |_=>none
def insI(n:Int):List Int→List Int
 | []=> [n]
 |m::ms=>if n≤m then n::m::ms else m::insI n ms
def sortI:List Int→List Int
 | []=> []
 |n::ns=>insI n (sortI ns)
def wf64(n:Int):Bool:=(Lit.int .i64 n).wf
def sortedKeys(g:Nat):List T→Option T
 | [.fn f [] [.vp [.vm ks _]]]=>if f=g then match asInts ks with
     |some l=>if l.length≤1000000&&l.all wf64 then some (match l with| []=> .nilsl|_=> .sl ((sortI l).map (.i .i64 ·)) l.length false)else none
     |none=>none
   else none
 |_=>none
theorem insI_perm(n:Int): ∀l,(insI n l).Perm (n::l)
 | []=>by simp[insI]
 |m::ms=>by
  unfold insI
  split
  ·exact List.Perm.refl _
  ·exact((insI_perm n ms).cons m).trans (List.Perm.swap n m ms)
theorem sortI_perm: ∀l,(sortI l).Perm l
 | []=>by simp[sortI]
 |n::ns=>(insI_perm n _).trans ((sortI_perm ns).cons n)
theorem insI_sorted(n:Int): ∀l:List Int,l.Pairwise (· ≤ ·)→(insI n l).Pairwise (· ≤ ·)
 | [],h=>by simp[insI]
 |m::ms,h=>by
  unfold insI
  have hm:=(List.pairwise_cons.1 h).1
  split
  ·rename_i hn
   exact List.pairwise_cons.2 ⟨fun x hx=>by rcases List.mem_cons.1 hx with rfl|hx;exact hn;exact Int.le_trans hn (hm x hx),h⟩
  ·rename_i hn
   refine List.pairwise_cons.2 ⟨fun x hx=> ?_,insI_sorted n ms (List.pairwise_cons.1 h).2⟩
   rcases List.mem_cons.1 ((insI_perm n ms).mem_iff.1 hx)with rfl|hx
   ·omega
   ·exact hm x hx
theorem sortI_sorted: ∀l,(sortI l).Pairwise (· ≤ ·)
 | []=>by simp[sortI]
 |n::ns=>insI_sorted n _ (sortI_sorted ns)
def idxN:List Nat→Nat→Int
 | [],_=> -1
 |b::l,c=>if b=c then 0 else if idxN l c= -1 then-1 else idxN l c+1
def idxE:List T→Option T
 | [.s l,.s [c]]=>some (.i .i64 (idxN l c))
 |_=>none
open Go Go.Ev Go.RowKit Go.Maps Go.Sort Go.Shelf
theorem mergeSort_eq{ss l:List Int}(h:ss.Perm l):ss.mergeSort (fun x y=>decide (x≤y))=sortI l:=by
 have tr: ∀a b c:Int,decide (a≤b)=true→decide (b≤c)=true→decide (a≤c)=true:=fun a b c h1 h2=>by simp only[decide_eq_true_eq]at *; exact Int.le_trans h1 h2
 have to: ∀a b:Int,(decide (a≤b)||decide (b≤a))=true:=fun a b=>by simp only[Bool.or_eq_true,decide_eq_true_eq];exact Int.le_total a b
 refine List.Perm.eq_of_pairwise (le:=fun a b=>a≤b) (fun a b _ _ h1 h2=>Int.le_antisymm h1 h2) ?_ (sortI_sorted l) (((List.mergeSort_perm ss _).trans h).trans (sortI_perm l).symm)
 exact(List.pairwise_mergeSort tr to ss).imp (fun h=>by simpa using h)
theorem insert_perm{H:Type}(x:Lit×DataW H): ∀l,(DataW.insert x l).Perm (x::l)
 | []=>by simp[DataW.insert]
 |y::r=>by
  unfold DataW.insert
  split
  ·exact List.Perm.refl _
  ·exact((insert_perm x r).cons y).trans (List.Perm.swap x y r)
theorem foldr_insert_perm{H:Type}: ∀l:List (Lit×DataW H),(l.foldr DataW.insert []).Perm l
 | []=>by simp
 |x::xs=>(insert_perm x _).trans ((foldr_insert_perm xs).cons x)
theorem asInts_keys{w:World}{M:MSet}: ∀{ks:List T} {vs:List Value} {l:List Int},PList w M ks vs→asInts ks=some l→vs=l.map (Value.int .i64)
 | [],vs,l,h,ha=>by simp[asInts]at ha;subst ha;simpa[PList]using h
 |k::ks,vs,l,h,ha=>by
  simp only[PList]at h
  obtain⟨u,us,rfl,h1,h2⟩:=h
  unfold asInts at ha
  split at ha
  ·cases ‹_::_= []›
  ·rename_i n ts e
   cases e
   simp only[Option.map_eq_some_iff]at ha
   obtain⟨l',e1,rfl⟩:=ha
   simp only[PRel]at h1
   rw[h1,asInts_keys h2 e1];rfl
  ·cases ha
def rT:Value→Option (DataW Unit×List MemPlace):=fun _=>some (.lit (.bool true),[])
theorem rg_int{P:Program}{k:TypeId}(hk:P.underlying k=some (.int .i64)){x:MapEntry}{n:Int}(hx:x.key= .int .i64 n)(hw:(Lit.int .i64 n).wf=true):WideElems.rd P k rT x=some (.int .i64 n,.lit (.bool true)):=by
 unfold WideElems.rd
 rw[hx,keyOf_int_mk hk hw]
 rfl
theorem pcells_ints{w:World}{M:MSet}{g:Nat}{cur:Array Value}{e:TypeId}(hb:w.heap[g]? =some (.cells cur e (0,0)))(hM: ∀o,¬M g o): ∀(zs:List Int) (off:Nat),(∀(j:Nat) (z:Int),zs[j]? =some z→cur[off+j]? =some (.int .i64 z))→PCells w M g off (zs.map (T.i .i64 ·))
 | [],off,h=>by simp[PCells]
 |z::zs,off,h=>by
  simp only[List.map_cons,PCells]
  refine⟨⟨.int .i64 z, ?_,hM _,by simp[PRel],rfl⟩,pcells_ints hb hM zs (off+1) (fun j z' hj=> ?_)⟩
  ·have:=h 0 z rfl
   simp at this
   simp[World.cell?,hb,this]
  ·have:=h (j+1) z' (by simpa using hj)
   rw[←this];congr 1;omega
set_option maxRecDepth 100000 in
set_option maxHeartbeats 1000000 in
theorem Tryz.keysAt{H:Type}(F:Fence)(n:Nat)(h10:F.fn 139)(hro:F.round=none)(hn:1≤n)(l Bm oo b nn:Nat)(D0:DataW H){R:Value→Option (DataW H×List MemPlace)}(J:List Int→World→Prop)
  (hY: ∀pre x W,J pre W→pre.length<Maps.size D0→YieldAt F (n-1) Tryz.prog l #[encZ x] W fun e W'=>e= .returned (.bool true)∧J (pre++ [x]) W'∧KeepsWalks W W')
  (W:World) (hJ:AbidesFrom W.heap.size J) (hm:W.cell? ⟨Bm,oo,none⟩=some (.map (some b))) (hown:W.ownsMap Tryz.prog 3 R b nn D0) (h0:J [] W):
  CallsIn F n Tryz.prog 139 #[.func (.yield l) #[] #[],.pointer (some ⟨Bm,oo,none⟩)] W fun e W'=>(∃v,e= .returned v)∧ ∃ss:List Int,ss.Perm (intKeys D0)∧J ss W':=by
 have L:=Tryz.iterA
 have mixed:=L.mixed;have t0:=L.t0;have a0:=L.a0;have z0:=L.z0;have v0:=L.v0;have t4:=L.t4;have a4:=L.a4;have z4:=L.z4;have v4:=L.v4;have t23:=L.t23;have a23:=L.a23;have z23:=L.z23;have v23:=L.v23;have t26:=L.t26;have a26:=L.a26;have z26:=L.z26;have v26:=L.v26;have t33:=L.t33;have a33:=L.a33;have z33:=L.z33;have v33:=L.v33
 have u0:=run_underlying L.t0;have u4:=run_underlying L.t4;have u23:=run_underlying L.t23;have u26:=run_underlying L.t26;have u33:=run_underlying L.t33
 have e139:Tryz.iterA_ren.f 10=139:=rfl
 have e164:Tryz.iterA_ren.t 23=164:=rfl
 have e3:Tryz.iterA_ren.t 26=3:=rfl
 have e3':Tryz.iterA_ren.t 3=3:=rfl
 rw[←e139]at h10 ⊢
 rw[←e3]at hown
 obtain⟨_,_,FG⟩:=L.f10
 refine callsIn_of_wp FG rfl h10 ?_ hro
 simp only[SlBodyZ.n10_ntmps Tryz.iterA_ren,List.size_toArray,List.length_cons,List.length_nil,Nat.reduceAdd,Nat.reduceSub,Array.replicate_succ,Array.replicate_zero,List.push_toArray,List.append_toArray,List.nil_append,List.cons_append]
 clear e139 e164 e3 e3'
 generalize Tryz.iterA_ren=ρ at*
 gi_wp2_with (first
  |(gi_at_range;refine wpListIn_range_own _ rfl _ (ρ.t 23) rfl (ρ.t 26) (ρ.t 3) (int_keyed L.t26) L.t23 _ b nn _ rfl hown ?_;intro w0 hrg0 hg0 hs0)
  |gi_in)
 go_frame
 gi_loopw [3] (fun _ wr=> ∃(left:Lit→Bool) (cnt:Nat) (ss:List Int),wr.ranges Tryz.prog (ρ.t 26) R b W.heap.size nn D0 left cnt∧ss.length+cnt≤Maps.size D0∧CollectedI D0 left ss∧J ss wr)
  (fun _ wr=>wr.rangeLeft b W.heap.size)
 case atStart=>
  exact⟨_,_,[],hrg0,by simp,CollectedI.start D0,hJ [] W w0 none h0 hg0 (fun r e=>by cases e)⟩
 case round=>
  obtain⟨left,cnt,ss,hrg,hcs,hC,hJs⟩:=hrel
  gi_wp2_with (first
   |(gi_at_next;refine wpListIn_next_ranges _ rfl _ rfl (ρ.t 26) (int_keyed L.t26) R encZ id (fun key kl hk=>by obtain⟨x,hx,_⟩:=Maps.keyOf_i64 L.t26 hk;exact⟨x,hx⟩) (fun v _ _=>⟨v,rfl⟩) b W.heap.size nn _ _ _ rfl hrg ?_ ?_)
   |gi_in)
  ·intro hc0 hl0
   gi_wp2
   go_end0
   exact⟨⟨_,rfl⟩,ss,hC.perm hown (int_keyed L.t26) L.t26 hl0,hJs⟩
  ·intro x c kl yd yp w2 cnt2 hkey hlk hv hat hrg2 hlt hg2 hs2 hen
   obtain⟨x',ex,rfl,_⟩:=Maps.keyOf_i64 L.t26 hkey
   obtain rfl:x=x':=encZ_inj ex
   have hJ2:J ss w2:=hJ ss wr w2 (some W.heap.size) hJs hg2 (fun r e=>by cases e;exact⟨Nat.le_refl _,hrg.iter_walk⟩)
   obtain⟨fn,tmps,assign,body,hy,hR⟩:=hY ss x w2 hJ2 (by omega)
   clear hs2
   gi_wp2
   refine hR.mono ?_
   rintro e W3 ⟨rfl,hJ3,hk3⟩
   gi_wp2
   have hrg3:=hrg2.of_walks hk3
   go_roundw
   case rel=>exact⟨_,cnt2,ss++ [x],hrg3,by simp;omega,hC.step hlk hat,hJ3⟩
   case measure=>rw[hrg3.left_eq,hrg.left_eq];exact hlt
theorem Tryz.sortsA(m:Nat):AnyZI.SortsIn Tryz.prog Tryz.sortedA_ren Fence.wide m:=
 ⟨fun blk off cap ss W hH hblk hsz=>callsIn_wide.2 (AnyM.slices_Sort_int Tryz.sortA blk off cap ss W hH hblk hsz),
  fun p cap W=>callsIn_wide.2 (AnyM.slices_Sort_int_none Tryz.sortA p cap W)⟩
set_option maxHeartbeats 1000000 in
theorem Tryz.sortedOk:ExtOk Tryz.prog 80 (sortedKeys 139):=by
 refine⟨⟨Tryz.f80,Tryz.func80,by kernel_rfl,by kernel_rfl⟩, ?_⟩
 intro args r hr w M cargs hM hargs
 unfold sortedKeys at hr
 split at hr
 case h_2=>cases hr
 case h_1 f ks vs=>
 split at hr
 case isFalse=>cases hr
 case isTrue hf=>
 subst hf
 split at hr
 case h_2=>cases hr
 case h_1 l hl=>
 split at hr
 case isFalse=>cases hr
 case isTrue hb=>
 simp only[Bool.and_eq_true,decide_eq_true_eq]at hb
 obtain⟨hlen,hall⟩:=hb
 simp only[PList]at hargs
 obtain⟨u,us,hc,hu,hus⟩:=hargs
 subst hus
 simp only[PRel]at hu
 obtain⟨fa,fc,rfl,hfa,hfc⟩:=hu
 simp only[PList]at hfa hfc
 obtain⟨p,ps,hp,hp1,hp2⟩:=hfc
 subst hp2
 simp only[PRel]at hp1
 obtain⟨Bm,off,rfl,hcells⟩:=hp1
 simp only[PCells]at hcells
 obtain⟨⟨mv,hcell,hnM,hmv,_⟩,_⟩:=hcells
 simp only[PRel]at hmv
 obtain⟨b,es,clock,rfl,hb,hst,hbM,hks,hvs⟩:=hmv
 have hkeys:=asInts_keys hks hl
 have hfc2:fc= #[.pointer (some ⟨Bm,off,none⟩)]:=by apply Array.toList_inj.1;rw[hp]
 have hfa2:fa= #[]:=by apply Array.toList_inj.1;rw[hfa]
 subst hfc2;subst hfa2
 have hca:cargs= #[.func (.func 139) #[] #[.pointer (some ⟨Bm,off,none⟩)]]:=by apply Array.toList_inj.1;rw[hc]
 subst hca
 have hsz:es.size=l.length:=by
  have:=congrArg List.length hkeys
  simpa using this
 have hrd: ∀x∈es.toList,∃n,x.key= .int .i64 n∧(Lit.int .i64 n).wf=true:=by
  intro x hx
  have:x.key∈es.toList.map (·.key):=List.mem_map_of_mem hx
  rw[hkeys]at this
  obtain⟨n,hn,e⟩:=List.mem_map.1 this
  exact⟨n,e.symm,List.all_eq_true.1 hall n hn⟩
 have fit:WideElems.Fit Tryz.prog 3 rT es clock:=by
  refine⟨by rw[hsz];unfold maxLen;omega,hst,fun x hx=> ?_⟩
  obtain⟨n,e1,e2⟩:=hrd x hx
  exact⟨_,rg_int Tryz.underlying3 e1 e2⟩
 have hown:w.ownsMap Tryz.prog 3 rT b es.size (.map ((es.toList.map (WideElems.rg Tryz.prog 3 rT)).foldr DataW.insert [])):=⟨es,clock,hb,fit,Nat.le_refl _,rfl⟩
 have hbl:b<w.heap.size:=(Array.getElem?_eq_some_iff.1 hb).1
 have hperm:(intKeys (.map ((es.toList.map (WideElems.rg Tryz.prog 3 rT)).foldr DataW.insert []))).Perm l:=by
  unfold intKeys
  refine((foldr_insert_perm _).map _).trans ?_
  rw[List.map_map]
  have:es.toList.map ((fun p:Lit×DataW Unit=>Go.intOf p.1) ∘ WideElems.rg Tryz.prog 3 rT)=l:=by
   have h1:es.toList.map ((fun p:Lit×DataW Unit=>Go.intOf p.1) ∘ WideElems.rg Tryz.prog 3 rT)=(es.toList.map (·.key)).map Lib.intOf:=by
    rw[List.map_map]
    refine List.map_congr_left fun x hx=> ?_
    obtain⟨n,e1,e2⟩:=hrd x hx
    simp only[Function.comp,WideElems.rg,rg_int Tryz.underlying3 e1 e2,Option.getD_some,e1]
    rfl
   rw[h1,hkeys,List.map_map]
   have:(Lib.intOf ∘ Value.int .i64)=id:=by funext n;rfl
   rw[this,List.map_id]
  rw[this]
 have hD:Maps.size (.map ((es.toList.map (WideElems.rg Tryz.prog 3 rT)).foldr DataW.insert []):DataW Unit)=l.length:=by
  rw[size_eq,(foldr_insert_perm _).length_eq,List.length_map]
  simpa using hsz
 have hBm:Bm<w.heap.size:=by
  cases hx:w.heap[Bm]? with
  |none=>simp[World.cell?,hx]at hcell
  |some o=>exact(Array.getElem?_eq_some_iff.1 hx).1
 have hseq:SeqGives Fence.wide 2 Tryz.prog 139 #[.pointer (some ⟨Bm,off,none⟩)] encZ (fun ss=>ss.Perm (intKeys (.map ((es.toList.map (WideElems.rg Tryz.prog 3 rT)).foldr DataW.insert [])))) (Maps.size (.map ((es.toList.map (WideElems.rg Tryz.prog 3 rT)).foldr DataW.insert []):DataW Unit)) w:=by
  intro ll J W hW hJ hY h0
  refine Tryz.keysAt Fence.wide 2 trivial rfl (by omega) ll Bm off b es.size _ J hY W hJ ((hW.cell (p:=⟨Bm,off,none⟩) hBm).trans hcell) (R:=rT) ?_ h0
  exact⟨es,clock,(hW.block b hbl).trans hb,fit,Nat.le_refl _,rfl⟩
 have cS:=AnyZI.sorted_in Tryz.sortedA Fence.wide 5 trivial trivial trivial trivial rfl (by omega) (Tryz.sortsA _) (enters_of Tryz.func138 (by kernel_rfl) rfl) 139 #[.pointer (some ⟨Bm,off,none⟩)] trivial (enters_of Tryz.func139 (by kernel_rfl) rfl) _ _ (by rw[hD];unfold maxLen;omega) (by rw[hD];omega) _ hseq
 change CallsIn _ _ Tryz.prog 80 _ _ _ at cS
 refine(callsIn_wide.1 cS).mono ?_
 rintro e w' ⟨v,ss,rfl,hS,hrow,hnil,hbel⟩
 have hSl:ss.Perm l:=hS.trans hperm
 refine⟨v,rfl,hbel, ?_⟩
 rw[mergeSort_eq hSl]at hrow
 cases l with
 |nil=>
  simp at hr;subst hr
  have:ss= []:=List.Perm.eq_nil hSl
  simp only[PRel]
  exact hnil.2 this
 |cons x xs=>
  simp at hr;subst hr
  obtain⟨hlen',hrow⟩:=hrow
  have hssl:=hSl.length_eq
  rcases hrow with⟨_,h0⟩|⟨g,cap,cur,rfl,hg,hgb,r1,r2,r3,r4⟩
  ·rw[hssl]at h0;simp at h0
  ·simp only[PRel]
   refine⟨g,0,cap,none,by rw[hssl];rfl,by rw[hssl]at r1;exact r1,fun h=>(by cases h),.inl rfl, ?_⟩
   have:=pcells_ints (M:=fun b _=>b<w.heap.size) hgb (fun o h=>absurd h (by omega)) (sortI (x::xs)) 0 (fun j z hj=> ?_)
   ·exact this
   ·have h1:(cur.toList.take (ss.length*1))[j]? =some (.int .i64 z):=by
     rw[r4,List.getElem?_map,hj];rfl
    rw[List.getElem?_take]at h1
    split at h1
    ·rw[Nat.zero_add,←Array.getElem?_toList];exact h1
    ·cases h1
theorem Tryz.idxOk:ExtOk Tryz.prog 231 idxE:=by
 refine⟨⟨_,Tryz.func231,by kernel_rfl,by kernel_rfl⟩, ?_⟩
 intro args r hg w M cargs hM hp
 unfold idxE at hg
 split at hg
 ·rename_i l c
  cases hg
  simp only[PList,PRel]at hp
  obtain⟨u,us,e1,⟨bs,rfl,hb⟩,v,vs,rfl,⟨bc,rfl,hc⟩,rfl⟩:=hp
  obtain rfl:cargs= #[.string bs,.string bc]:=by cases cargs;simp_all
  obtain⟨c',rfl,hcc⟩: ∃c':UInt8,bc=⟨#[c']⟩∧c'.toNat=c:=by
   obtain⟨⟨lc⟩⟩:=bc
   simp only[bytesN]at hc
   match lc,hc with
   | [x],hc=>exact⟨x,rfl,by simpa using hc⟩
  refine(Tryz.stringslite_Index_one bs c' w).mono ?_
  rintro e w' ⟨rfl,rfl⟩
  refine⟨_,rfl,⟨rfl,rfl,rfl,Nat.le_refl _,fun _ _=>rfl⟩, ?_⟩
  simp only[PRel]
  have key: ∀(x:List UInt8),Lib.indexByte x c'=idxN (x.map UInt8.toNat) c:=by
   intro x
   induction x with
   |nil=>rfl
   |cons b x ih=>
    simp only[Lib.indexByte,List.map_cons,idxN,ih]
    have:(b==c')=decide (b.toNat=c):=by
     rw[←hcc]
     by_cases h:b=c'
     ·subst h;simp
     ·have:b.toNat≠c'.toNat:=fun e=>h (UInt8.toNat_inj.1 e)
      simp[h,this]
    rw[this]
    by_cases h:b.toNat=c <;> simp[h]
  rw[key,←hb]
  rfl
 ·cases hg
end Go.Proofs
