/- A tree evaluator over the model, proved against it (part D): where it answers, the call returns that answer. Conditions: none beyond its theorems' own. -/
import Derived.Test.YtfenhjpkomldcaaGreatEvC
set_option linter.unusedSimpArgs false
set_option linter.unusedVariables false
namespace Go.Ev
open Go
def bare(fr:Fr)(sh:List Ent):St:={fr,lh:= .nil,sh}
theorem bare_L(fr:Fr)(sh:List Ent)(k:Nat):(bare fr sh).get .L k=noEnt:=by simp[bare,St.get,getE,getL,Tri.get_nil]
theorem bare_S(fr:Fr)(sh:List Ent)(k:Nat):(bare fr sh).get .S k=getE sh k:=rfl
theorem ORel.shared{β β':Beta}{G G':Sp→Nat→Nat}{w:World}{M:MSet}{k:Nat}{e:Ent}(hβ: ∀n g,g≤G .S n→β' .S n g=β .S n g)(hG: ∀n,G .S n≤G' .S n)(hg:e.g≤G .S k)(h:ORel β G w M .S k e):ORel β' G' w M .S k e:=by
 unfold ORel at h ⊢
 rw[hβ k _ hg]
 obtain⟨g,ob⟩:=e
 cases ob with
 |none=>trivial
 |cells cs wm bx=>
  obtain⟨c,el,fz,h1,h2,h3,h4,h5,h6,h7⟩:=h
  refine⟨c,el,fz,h1,h2,h3,h4, ?_,h6,h7⟩
  cases bx
  ·exact h5
  ·exact SList.mono (Keeps.refl w M) hβ hG h5
 |map ks vs fz=>exact h
theorem H_drop{B:Base}{st:St}{w:World}{β:Beta}{M:MSet}(h:HRel B st w β M)(fr:Fr):HRel B (bare fr st.sh) w β M:=by
 refine⟨fun sp k=> ?_,fun sp k sp' k' l1 l2 he=> ?_,h.mlt,fun k hl=> ?_,fun k hl=>h.sblk k hl,h.os,h.tape,h.output,h.size,h.same,h.keep,h.msup⟩
 ·cases sp with
  |L=>rw[bare_L];unfold ORel noEnt;trivial
  |S=>exact ORel.shared (G:=st.gens) (β:=β) (fun _ _ _=>rfl) (fun _=>Nat.le_refl _) (Nat.le_refl _) (h.obj .S k)
 ·cases sp with
  |L=>rw[bare_L]at l1;exact l1.elim
  |S=>
   cases sp' with
   |L=>rw[bare_L]at l2;exact l2.elim
   |S=>exact h.dist .S k .S k' l1 l2 he
 ·rw[bare_L]at hl;exact hl.elim
def sBlocks(sh:List Ent)(β:Beta)(b:Nat):Prop:= ∃k,live (getE sh k)∧(β .S k (getE sh k).g).blk=b
theorem H_enter{B:Base}{st:St}{w:World}{β:Beta}{M:MSet}(h:HRel B st w β M)(fr:Fr):HRel ⟨w,M,sBlocks st.sh β⟩ (bare fr st.sh) w β M:=by
 have hd:=H_drop h fr
 refine⟨hd.obj,hd.dist,h.mlt,fun k hl=> ?_,fun k hl=> .inl ⟨k,hl,rfl⟩,rfl,rfl,rfl,Nat.le_refl _,fun _ _ _=>rfl,Keeps.refl w M,fun _ _ _ _ hm=>hm⟩
 rw[bare_L]at hl;exact hl.elim
theorem H_enter0{B:Base}{st:St}{w:World}{β:Beta}{M:MSet}(h:HRel B st w β M)(fr:Fr):HRel ⟨w,M,fun _=>False⟩ (bare fr []) w β M:=by
 have e: ∀sp k,(bare fr []).get sp k=noEnt:=by intro sp k;cases sp <;> simp[bare,St.get,getE,getL,Tri.get_nil]
 refine⟨fun sp k=> ?_,fun sp k sp' k' l1 _ _=> ?_,h.mlt,fun k hl=> ?_,fun k hl=> ?_,rfl,rfl,rfl,Nat.le_refl _,fun _ _ _=>rfl,Keeps.refl w M,fun _ _ _ _ hm=>hm⟩
 ·rw[e];unfold ORel noEnt;trivial
 ·rw[e]at l1;exact l1.elim
 ·rw[e]at hl;exact hl.elim
 ·rw[e]at hl;exact hl.elim
theorem H_old{B:Base}{st:St}{w w':World}{β:Beta}{M:MSet}(h:HRel B st w β M)(hos:w'.os=w.os)(htp:w'.tape=w.tape)(hout:w'.output=w.output)(hsz:w.heap.size≤w'.heap.size)(hb: ∀b,b<w.heap.size→w'.heap[b]? =w.heap[b]?):
  HRel B st w' β M∧Tr st w β M st w' β M:=by
 have hk:Keeps w M w' M:=⟨fun b o v hv _=>by rw[cell_of_heap (w:=w) (hb b (cell_lt hv))];exact hv,fun b es c hv _=>by rw[hb b (heap_lt hv)];exact hv,fun _ _ _ h=>h⟩
 refine⟨⟨fun sp k=> ?_,h.dist,fun b o hm=>Nat.lt_of_lt_of_le (h.mlt b o hm) hsz,h.lblk,h.sblk,hos.trans h.os,htp.trans h.tape,hout.trans h.output,Nat.le_trans h.size hsz,fun b h1 h2=>(hb b (Nat.lt_of_lt_of_le h1 h.size)).trans (h.same b h1 h2),h.keep.trans hk h.size,h.msup⟩,hk,fun _ _ _ _=>rfl,fun _ _=>Nat.le_refl _⟩
 exact ORel.mono hk (fun _ _ _ _=>rfl) (fun _ _=>Nat.le_refl _) (Nat.le_refl _) (fun hl=>hb _ (h.lt hl)) (fun _ _ hm=>hm) (h.obj sp k)
theorem H_back{B:Base}{st:St}{w w':World}{β β':Beta}{M M':MSet}{sh':List Ent}(h:HRel B st w β M)(h':HRel ⟨w,M,sBlocks st.sh β⟩ (bare .nil sh') w' β' M')(hβ: ∀n g,g≤st.gens .S n→β' .S n g=β .S n g)(hG: ∀n,st.gens .S n≤(getE sh' n).g):
  HRel B {st with sh:=sh'} w' (fun sp k g=>match sp with| .L=>β .L k g| .S=>β' .S k g) M'∧Tr st w β M {st with sh:=sh'} w' (fun sp k g=>match sp with| .L=>β .L k g| .S=>β' .S k g) M':=by
 have getL': ∀k,({st with sh:=sh'}:St).get .L k=st.get .L k:=fun k=>rfl
 have getS': ∀k,({st with sh:=sh'}:St).get .S k=getE sh' k:=fun k=>rfl
 have hbeta: ∀sp k g,g≤st.gens sp k→(fun(sp:Sp) k g=>match sp with| .L=>β .L k g| .S=>β' .S k g:Beta) sp k g=β sp k g:=by
  intro sp k g hle
  cases sp with
  |L=>rfl
  |S=>exact hβ k g hle
 have hgens: ∀sp k,st.gens sp k≤({st with sh:=sh'}:St).gens sp k:=by
  intro sp k
  cases sp with
  |L=>exact Nat.le_refl _
  |S=>exact hG k
 have notS: ∀k,live (st.get .L k)→ ¬sBlocks st.sh β (β .L k (st.gens .L k)).blk:=by
  rintro k hl ⟨k',hl',he⟩
  have:=h.dist .S k' .L k hl' hl he
  cases this.1
 have sB: ∀b,sBlocks st.sh β b→B.SB b∨B.w.heap.size≤b:=by
  rintro b ⟨k,hl,rfl⟩
  exact h.sblk k hl
 have sblk2: ∀k,live (getE sh' k)→B.SB (β' .S k (getE sh' k).g).blk∨B.w.heap.size≤(β' .S k (getE sh' k).g).blk:=by
  intro k hl
  rcases h'.sblk k hl with e|e
  ·exact sB _ e
  ·exact .inr (Nat.le_trans h.size e)
 refine⟨⟨fun sp k=> ?_,fun sp k sp' k' l1 l2 he=> ?_,h'.mlt,fun k hl=>h.lblk k hl,fun k hl=>sblk2 k hl,h'.os.trans h.os,h'.tape.trans h.tape,h'.output.trans h.output,Nat.le_trans h.size h'.size,fun b h1 h2=> ?_,h.keep.trans h'.keep h.size,fun b o h1 h2 h3=> ?_⟩,h'.keep,hbeta,hgens⟩
 ·cases sp with
  |L=>
   refine ORel.mono h'.keep hbeta hgens (Nat.le_refl _) (fun hl=> ?_) (fun hl o hm=> ?_) (h.obj .L k)
   ·exact h'.same _ (h.lt hl) (notS k hl)
   ·exact h'.msup _ o (h.lt hl) (notS k hl) hm
  |S=>exact ORel.shared (G:=(bare .nil sh').gens) (β:=β') (fun _ _ _=>rfl) (fun _=>Nat.le_refl _) (Nat.le_refl _) (h'.obj .S k)
 ·cases sp with
  |L=>
   cases sp' with
   |L=>exact h.dist .L k .L k' l1 l2 he
   |S=>
    exfalso
    have he':(β .L k (st.gens .L k)).blk=(β' .S k' (getE sh' k').g).blk:=he
    rcases h'.sblk k' l2 with e|e
    ·exact notS k l1 (by rw[he'];exact e)
    ·have:=h.lt (sp:= .L) (k:=k) l1
     have e':w.heap.size≤(β' .S k' (getE sh' k').g).blk:=e
     omega
  |S=>
   cases sp' with
   |L=>
    exfalso
    have he':(β' .S k (getE sh' k).g).blk=(β .L k' (st.gens .L k')).blk:=he
    rcases h'.sblk k l1 with e|e
    ·exact notS k' l2 (by rw[←he'];exact e)
    ·have:=h.lt (sp:= .L) (k:=k') l2
     have e':w.heap.size≤(β' .S k (getE sh' k).g).blk:=e
     omega
   |S=>exact h'.dist .S k .S k' l1 l2 he
 ·have hn: ¬sBlocks st.sh β b:=fun hs=>by
   rcases sB b hs with e|e
   ·exact h2 e
   ·omega
  exact(h'.same b (Nat.lt_of_lt_of_le h1 h.size) hn).trans (h.same b h1 h2)
 ·have hn: ¬sBlocks st.sh β b:=fun hs=>by
   rcases sB b hs with e|e
   ·exact h2 e
   ·omega
  exact h'.msup b o (Nat.lt_of_lt_of_le h1 h.size) hn (h.msup b o h1 h2 h3)
def withS(M:MSet)(S:Spot):MSet:=fun b x=>M b x∨(b=S.blk∧S.off≤x∧x<S.off+S.ext)
theorem H_thaw{B:Base}{st:St}{w w':World}{β:Beta}{M:MSet}(h:HRel B st w β M)(hos:w'.os=w.os)(htp:w'.tape=w.tape)(hout:w'.output=w.output)(hsz:w.heap.size≤w'.heap.size)(hbl: ∀b,b<w.heap.size→w'.heap[b]? =w.heap[b]?)
  (k g:Nat) (hg:st.gens .L k<g) (S:Spot) (hS:w.heap.size≤S.blk) (hS2:S.blk<w'.heap.size) (ob:Ob)
  (ho:ORel (updB β .L k g S) (st.up (.L,k,⟨g,ob⟩)).gens w' (withS M S) .L k ⟨g,ob⟩):
  HRel B (st.up (.L,k,⟨g,ob⟩)) w' (updB β .L k g S) (withS M S)∧Tr st w β M (st.up (.L,k,⟨g,ob⟩)) w' (updB β .L k g S) (withS M S):=by
 have hk:Keeps w M w' (withS M S):=⟨fun b o v hv _=>by rw[cell_of_heap (w:=w) (hbl b (cell_lt hv))];exact hv,fun b es c hv _=>by rw[hbl b (heap_lt hv)];exact hv,fun b x hb hm=>hm.resolve_right (fun e=>by have:=e.1;omega)⟩
 have hb: ∀sp' k' g',g'≤st.gens sp' k'→updB β .L k g S sp' k' g'=β sp' k' g':=by
  intro sp' k' g' hle
  refine updB_ne _ _ _ _ _ ?_
  rintro⟨rfl,rfl,rfl⟩
  omega
 have hG: ∀sp' k',st.gens sp' k'≤(st.up (.L,k,⟨g,ob⟩)).gens sp' k':=by
  intro sp' k'
  rw[gens_up]
  split
  ·rename_i e;obtain⟨rfl,rfl⟩:=e;exact Nat.le_of_lt hg
  ·exact Nat.le_refl _
 have blkOf: ∀sp' k',(updB β .L k g S sp' k' ((st.up (.L,k,⟨g,ob⟩)).gens sp' k'))=if sp'= .L∧k'=k then S else β sp' k' (st.gens sp' k'):=by
  intro sp' k'
  rw[gens_up]
  split
  ·rename_i e;obtain⟨rfl,rfl⟩:=e;exact updB_same _ _ _ _ _
  ·exact hb _ _ _ (Nat.le_refl _)
 refine⟨⟨fun sp' k'=> ?_,fun sp1 k1 sp2 k2 l1 l2 he=> ?_,fun b x hm=> ?_,fun k' hl=> ?_,fun k' hl=> ?_,hos.trans h.os,htp.trans h.tape,hout.trans h.output,Nat.le_trans h.size hsz,fun b hb hn=> ?_,h.keep.trans hk h.size,fun b x h1 h2 h3=> .inl (h.msup b x h1 h2 h3)⟩,hk,hb,hG⟩
 ·rw[get_up]
  split
  ·rename_i e;obtain⟨rfl,rfl⟩:=e;exact ho
  ·exact ORel.mono hk hb hG (Nat.le_refl _) (fun hl=>hbl _ (h.lt hl)) (fun _ _ hm=> .inl hm) (h.obj sp' k')
 ·rw[blkOf,blkOf]at he
  rw[get_up]at l1 l2
  by_cases e1:sp1= .L∧k1=k <;> by_cases e2:sp2= .L∧k2=k
  ·exact⟨e1.1.trans e2.1.symm,e1.2.trans e2.2.symm⟩
  ·rw[if_pos e1,if_neg e2]at he;rw[if_neg e2]at l2
   have:=h.lt l2;omega
  ·rw[if_neg e1,if_pos e2]at he;rw[if_neg e1]at l1
   have:=h.lt l1;omega
  ·rw[if_neg e1,if_neg e2]at he;rw[if_neg e1]at l1;rw[if_neg e2]at l2
   exact h.dist _ _ _ _ l1 l2 he
 ·rcases hm with hm|hm
  ·exact Nat.lt_of_lt_of_le (h.mlt b x hm) hsz
  ·rw[hm.1];exact hS2
 ·rw[blkOf];rw[get_up]at hl
  split
  ·exact Nat.le_trans h.size hS
  ·rename_i e;rw[if_neg e]at hl;exact h.lblk k' hl
 ·rw[blkOf];rw[get_up]at hl
  rw[if_neg (by rintro⟨e,_⟩;cases e)]at hl ⊢
  exact h.sblk k' hl
 ·have:=h.size
  rw[hbl b (by omega)];exact h.same b hb hn
theorem scal1_rel{w w':World}{M M':MSet}: ∀{cs:List T} {vs:List Value},cs.all scal1=true→PList w M cs vs→PList w' M' cs vs
 | [],vs,_,h=>by simpa only[PList]using h
 |t::ts,vs,hs,h=>by
  simp only[List.all_cons,Bool.and_eq_true]at hs
  simp only[PList]at h ⊢
  obtain⟨u,us,rfl,h1,h2⟩:=h
  refine⟨u,us,rfl, ?_,scal1_rel hs.2 h2⟩
  have ht:=hs.1
  cases t <;> simp[scal1]at ht <;> simpa only[PRel]using h1
def vAt:Value→Nat→Option Value
 | .tuple a,j=>a[j]?
 | .agg a,j=>a[j]?
 |v,_=>some v
def vSet:Value→Nat→Value→Value
 | .tuple a,j,x=> .tuple (a.setIfInBounds j x)
 | .agg a,j,x=> .agg (a.setIfInBounds j x)
 |_,_,x=>x
abbrev nilV:Value:= .slice none 0 0
section
variable{β:Beta}{G:Sp→Nat→Nat}{w:World}{M:MSet}
theorem VList.set: ∀{ts:List T} {vs:List Value} (j:Nat) {t:T} {v:Value},VList β G w M ts vs→VRel β G w M t v→VList β G w M (ts.set j t) (vs.set j v)
 | [],vs,j,t,v,h,_=>by simp only[VList]at h;subst h;simp[VList]
 |t::ts,vs,0,t',v',h,h'=>by
  simp only[VList]at h;obtain⟨u,us,rfl,h1,h2⟩:=h
  simp only[List.set_cons_zero,VList]
  exact⟨_,_,rfl,h',h2⟩
 |t::ts,vs,j+1,t',v',h,h'=>by
  simp only[VList]at h;obtain⟨u,us,rfl,h1,h2⟩:=h
  simp only[List.set_cons_succ,VList]
  exact⟨_,_,rfl,h1,VList.set j h2 h'⟩
theorem all_set{cs:List T}{j:Nat}{t:T}(h:cs.all single=true)(ht:single t=true):(cs.set j t).all single=true:=by
 rw[List.all_eq_true]at h ⊢
 intro x hx
 rcases List.mem_or_eq_of_mem_set hx with h1|h1
 ·exact h x h1
 ·rw[h1];exact ht
theorem all_of_set{cs:List T}{j:Nat}{t u:T}(h:(cs.set j u).all single=true)(ht:single t=true):(cs.set j t).all single=true:=by
 have:=all_set (j:=j) h ht
 rwa [List.set_set]at this
theorem comp_out{r y t:T}{v u:Value}{j:Nat}(h:VRel β G w M r v)(hj:compAt r j=some y)(ht:VRel β G w M t u)(hs:single t=true):
  (∃x,vAt v j=some x∧VRel β G w M y x)∧VRel β G w M (compSet r j t) (vSet v j u):=by
 cases r
 case tup vs=>
  simp only[VRel]at h;obtain⟨a,rfl,hl⟩:=h
  simp only[compAt]at hj
  obtain⟨x,h1,h2⟩:=hl.get hj
  refine⟨⟨x,by simpa[vAt]using h1,h2⟩, ?_⟩
  simp only[compSet,vSet,VRel]
  exact⟨_,rfl,by simpa using VList.set j hl ht⟩
 case agg cs=>
  simp only[VRel]at h;obtain⟨a,rfl,hl,hsi⟩:=h
  simp only[compAt]at hj
  obtain⟨x,h1,h2⟩:=hl.get hj
  refine⟨⟨x,by simpa[vAt]using h1,h2⟩, ?_⟩
  simp only[compSet,vSet,VRel]
  exact⟨_,rfl,by simpa using VList.set j hl ht,all_set hsi hs⟩
 all_goals
  simp only[compAt,Option.some.injEq]at hj;subst hj
  refine⟨⟨v, ?_,h⟩, ?_⟩
  ·simp only[VRel,PRel]at h
   first
    |(subst h;rfl)
    |(obtain⟨_,rfl,_⟩:=h;rfl)
    |(obtain⟨_,_,rfl,_⟩:=h;rfl)
    |(obtain⟨_,_,_,rfl,_⟩:=h;rfl)
    |(obtain⟨_,_,_,_,rfl,_⟩:=h;rfl)
    |(obtain⟨_,rfl⟩:=h;rfl)
  ·simp only[VRel,PRel]at h
   first
    |(subst h;exact ht)
    |(obtain⟨_,rfl,_⟩:=h;exact ht)
    |(obtain⟨_,_,rfl,_⟩:=h;exact ht)
    |(obtain⟨_,_,_,rfl,_⟩:=h;exact ht)
    |(obtain⟨_,_,_,_,rfl,_⟩:=h;exact ht)
    |(obtain⟨_,rfl⟩:=h;exact ht)
theorem set_same{a:Array Value}{j:Nat}{x y:Value}(h:a[j]? =some x):(a.toList.set j y).set j x=a.toList:=by
 rw[List.set_set]
 have h':a.toList[j]? =some x:=by simpa using h
 obtain⟨hl,he⟩:=List.getElem?_eq_some_iff.1 h'
 rw[←he];exact List.set_getElem_self hl
theorem vSet_plain{v:Value}{j:Nat}(h: ∀a,vSet v j nilV≠ .tuple a)(h': ∀a,vSet v j nilV≠ .agg a):vSet v j nilV=nilV∧vAt v j=some v:=by
 cases v <;> first|exact⟨rfl,rfl⟩|exact absurd rfl (h _)|exact absurd rfl (h' _)
theorem comp_in{r t:T}{cv x:Value}{j:Nat}(h:VRel β G w M (compSet r j .nilsl) (vSet cv j nilV))(hx:vAt cv j=some x)(ht:VRel β G w M t x)(hs:single t=true):VRel β G w M (compSet r j t) cv:=by
 cases r
 case tup vs=>
  simp only[compSet,VRel]at h ⊢
  obtain⟨a,ha,hl⟩:=h
  cases cv <;> simp[vSet]at ha
  rename_i a0
  subst ha
  simp only[vAt]at hx
  refine⟨a0,rfl, ?_⟩
  have:=VList.set j hl ht
  rw[List.set_set,Array.toList_setIfInBounds,set_same hx]at this
  exact this
 case agg cs=>
  simp only[compSet,VRel]at h ⊢
  obtain⟨a,ha,hl,hsi⟩:=h
  cases cv <;> simp[vSet]at ha
  rename_i a0
  subst ha
  simp only[vAt]at hx
  refine⟨a0,rfl, ?_,all_of_set hsi hs⟩
  have:=VList.set j hl ht
  rw[List.set_set,Array.toList_setIfInBounds,set_same hx]at this
  exact this
 all_goals
  simp only[compSet,VRel]at h ⊢
  obtain⟨h1,h2⟩:=vSet_plain (v:=cv) (j:=j) (fun a e=>by rw[e]at h;cases h) (fun a e=>by rw[e]at h;cases h)
  rw[h2]at hx
  cases hx
  exact ht
theorem comp_fix{p:T}{v x:Value}{j:Nat}{cs:List T}{len:Nat}{ex:Bool}(h:VRel β G w M p (vSet v j nilV))(hx:vAt v j=some x):
  compAt (compSet p j (.sl cs len ex)) j=some (.sl cs len ex)∧VRel β G w M (compSet (compSet p j (.sl cs len ex)) j .nilsl) (vSet v j nilV):=by
 have hn:VRel β G w M .nilsl nilV:=by simp only[VRel]
 cases p
 case tup vs=>
  simp only[VRel]at h
  obtain⟨a,ha,hl⟩:=h
  cases v <;> simp[vSet]at ha
  rename_i a0
  subst ha
  simp only[vAt]at hx
  have hll:=VList.length _ _ hl
  simp at hll
  obtain⟨hj,_⟩:=Array.getElem?_eq_some_iff.1 hx
  refine⟨by simp only[compSet,compAt];rw[List.getElem?_set_self (by omega)], ?_⟩
  simp only[compSet,vSet,VRel,List.set_set]
  refine⟨_,rfl, ?_⟩
  have:=VList.set j hl hn
  rw[Array.toList_setIfInBounds,List.set_set]at this
  rw[Array.toList_setIfInBounds];exact this
 case agg vs=>
  simp only[VRel]at h
  obtain⟨a,ha,hl,hsi⟩:=h
  cases v <;> simp[vSet]at ha
  rename_i a0
  subst ha
  simp only[vAt]at hx
  have hll:=VList.length _ _ hl
  simp at hll
  obtain⟨hj,_⟩:=Array.getElem?_eq_some_iff.1 hx
  refine⟨by simp only[compSet,compAt];rw[List.getElem?_set_self (by omega)], ?_⟩
  simp only[compSet,vSet,VRel,List.set_set]
  refine⟨_,rfl, ?_,all_set hsi rfl⟩
  have:=VList.set j hl hn
  rw[Array.toList_setIfInBounds,List.set_set]at this
  rw[Array.toList_setIfInBounds];exact this
 all_goals
  refine⟨rfl, ?_⟩
  simp only[compSet]
  have hp:vSet v j nilV=nilV:=by
   refine(vSet_plain (v:=v) (j:=j) (fun a e=> ?_) (fun a e=> ?_)).1
   all_goals
    rw[e]at h
    simp only[VRel,PRel]at h
    first
     |(cases h;done)
     |(obtain⟨_,h,_⟩:=h;cases h;done)
     |(obtain⟨_,_,h,_⟩:=h;cases h;done)
     |(obtain⟨_,_,_,h,_⟩:=h;cases h;done)
     |(obtain⟨_,_,_,_,h,_⟩:=h;cases h;done)
     |(obtain⟨_,h⟩:=h;cases h;done)
  rw[hp];exact hn
end
def Contract(P:Program)(f:Nat)(eff:Bool)(args:List T)(sh:List Ent)(r:T)(sh':List Ent):Prop:=
 ∀(w:World) (β:Beta) (M:MSet) (cargs:Array Value),HRel ⟨w,M,sBlocks sh β⟩ (bare .nil sh) w β M→XList eff β (bare .nil sh).gens w M args cargs.toList→
  Calls P f cargs w fun e w'=> ∃cv β' M',e= .returned cv∧HRel ⟨w,M,sBlocks sh β⟩ (bare .nil sh') w' β' M'∧(∀n g,g≤(getE sh n).g→β' .S n g=β .S n g)∧(∀n,(getE sh n).g≤(getE sh' n).g)∧XRel eff β' (bare .nil sh').gens w' M' r cv
theorem comp_twice(p x y:T)(j:Nat)(h:single x=true):compSet (compSet p j x) j y=compSet p j y:=by
 cases p <;> try (simp only[compSet,List.set_set];done)
 all_goals (simp only[compSet];cases x <;> first|rfl|cases h)
def OwnAt(w w':World)(M:MSet)(r:T)(j:Nat)(cs:List T)(len:Nat)(cv:Value):Prop:=
 ∃(S:Spot) (sz cap:Nat) (c:Array Value) (el:TypeId),w.heap.size≤S.blk∧w'.heap[S.blk]? =some (.cells c el (0,0))∧S.off+S.ext≤c.size∧cs.length≤S.ext∧PList w' M cs ((c.toList.drop S.off).take cs.length)∧(scalar (compSet r j .nilsl)=true∨ ∀i,i<S.ext→M S.blk (S.off+i))∧
  cs.all single=true∧cs.length=len*sz∧len≠0∧len≤cap∧cap*sz≤S.ext∧vAt cv j=some (.slice (some ⟨S.blk,S.off,none⟩) len cap)∧ ∀β G,VRel β G w' M (compSet r j .nilsl) (vSet cv j nilV)
def OContract(P:Program)(f:Nat)(args:List T)(sh:List Ent)(j:Nat)(r:T)(sh':List Ent):Prop:=
 ∀(w:World) (β:Beta) (M:MSet) (cargs:Array Value),HRel ⟨w,M,sBlocks sh β⟩ (bare .nil sh) w β M→XList false β (bare .nil sh).gens w M args cargs.toList→
  Calls P f cargs w fun e w'=> ∃cv β' M',e= .returned cv∧HRel ⟨w,M,sBlocks sh β⟩ (bare .nil sh') w' β' M'∧
   ((compAt r j=some .nilsl∧PRel w' M' r cv)∨ ∃cs len,compAt r j=some (.sl cs len false)∧OwnAt w w' M' r j cs len cv)
def wrVal(blk off cap:Nat):Option Nat→Value
 |none=> .tuple #[]
 |some n=> .slice (some ⟨blk,off,none⟩) n cap
def WrOk(P:Program)(f:Nat)(h:List T→Option (List T×Option Nat)):Prop:=
 (∀r,h []=some ([],r)→r.getD 0=0→ ∀w:World,Calls P f #[nilV] w fun e w'=>e= .returned (match r with|none=> .tuple #[]|some _=>nilV)∧RowKit.Below w.heap.size w w')∧
 ∀cs ys r,h cs=some (ys,r)→ys.length=cs.length→ ∀(w:World) (M:MSet) (blk off cap:Nat) (c:Array Value) (el:TypeId) (vs:List Value),w.heap[blk]? =some (.cells c el (0,0))→off+cs.length≤c.size→cs.length≤cap→(c.toList.drop off).take cs.length=vs→PList w M cs vs→
  Calls P f #[.slice (some ⟨blk,off,none⟩) cs.length cap] w fun e w'=> ∃us,e= .returned (wrVal blk off cap r)∧PList w M ys us∧RowKit.Below w.heap.size (setBlock w blk (.cells (splice c.toList off us).toArray el)) w'
def EnvOk(P:Program)(E:Env):Prop:=
 (∀f af,E.fn f=some af→ ∃hs fn,P.funcs[f]? =some fn∧compF P hs af.eff fn=some af)∧
 (∀f g,E.fn f=none→E.ext f=some g→(∃fn,P.funcs[f]? =some fn∧(fn.name== "runtime.NumGoroutine")=false∧fn.body.isSome=true)∧
   ∀args r,g args=some r→ ∀(w:World) (M:MSet) (cargs:Array Value),(∀b o,M b o→b<w.heap.size)→PList w M args cargs.toList→
    Calls P f cargs w fun e w'=> ∃cv,e= .returned cv∧RowKit.Below w.heap.size w w'∧PRel w' (fun b _=>b<w.heap.size) r cv)∧
 (∀f h,E.fn f=none→E.ext f=none→E.wr f=some h→(∃fn,P.funcs[f]? =some fn∧(fn.name== "runtime.NumGoroutine")=false∧fn.body.isSome=true)∧
   WrOk P f h)
def OrcOk(P:Program)(E:Env)(call:Orc):Prop:= ∀f af args sh r sh',E.fn f=some af→call f args sh=some (r,sh')→(af.own=none→Contract P f af.eff args sh r sh')∧(∀j,af.own=some j→af.eff=false∧OContract P f args sh j r sh')
theorem frel_put{st st':St}{a:Act}{w w':World}{β β':Beta}{M M':MSet}{n:Nat}{d:Option Nat}{v:T}{cv:Value}{fr:Fr}(hf:FRel st a w β M n)(ht:Tr st w β M st' w' β' M')(hfr:putD st.fr n d v=some fr)(hv:VRel β' st'.gens w' M' v cv):
  FRel {st' with fr} (a.put d cv) w' β' M' n:=by
 cases d with
 |none=>
  simp[putD]at hfr;subst hfr
  exact⟨hf.size,hf.defers,fun t=>ht.val (hf.slot t)⟩
 |some d=>
  simp only[putD]at hfr
  split at hfr
  ·rename_i hd
   simp at hfr;subst hfr
   refine⟨by simp[Act.put,hf.size],hf.defers,fun t=> ?_⟩
   have e1:getF (setF st.fr d v) t=if t=d then v else getF st.fr t:=getF_setF st.fr d v t
   have e2:(a.put (some d) cv).tmps.getD t undef=if t=d then cv else a.tmps.getD t undef:=by
    simp only[Act.put,Array.getD_eq_getD_getElem?,Array.getElem?_setIfInBounds]
    by_cases htd:d=t
    ·subst htd;rw[if_pos rfl,if_pos (by rw[hf.size];exact hd),if_pos rfl];rfl
    ·rw[if_neg htd,if_neg (fun e=>htd e.symm)]
   show VRel β' st'.gens w' M' (getF (setF st.fr d v) t) _
   rw[e1,e2]
   split
   ·exact hv
   ·exact ht.val (hf.slot t)
  ·cases hfr
end Go.Ev
namespace Go.Ev
open Go
theorem H_fr{B:Base}{st:St}{w:World}{β:Beta}{M:MSet}(h:HRel B st w β M)(fr:Fr):HRel B {st with fr} w β M:=
 ⟨h.obj,h.dist,h.mlt,h.lblk,h.sblk,h.os,h.tape,h.output,h.size,h.same,h.keep,h.msup⟩
theorem Tr.fr{st st':St}{w w':World}{β β':Beta}{M M':MSet}(h:Tr st w β M st' w' β' M')(fr:Fr):Tr st w β M {st' with fr} w' β' M':=⟨h.keep,h.beta,h.gens⟩
theorem scalar_rel{w w':World}{M M':MSet}{r:T}{cv:Value}(hs:scalar r=true)(h:PRel w M r cv):PRel w' M' r cv:=by
 cases r <;> simp[scalar]at hs
 case tup vs=>
  simp only[PRel]at h ⊢
  obtain⟨a,rfl,hl⟩:=h
  refine⟨a,rfl, ?_⟩
  generalize a.toList=l at hl
  induction vs generalizing l with
  |nil=>simpa only[PList]using hl
  |cons t ts ih=>
   simp only[PList]at hl ⊢
   obtain⟨u,us,rfl,h1,h2⟩:=hl
   have ht:=hs t (by simp)
   refine⟨u,us,rfl, ?_,ih (fun x hx=>hs x (by simp[hx])) us h2⟩
   cases t <;> simp at ht <;> simpa only[PRel]using h1
 all_goals simpa only[PRel]using h
theorem scalar_relV{β β':Beta}{G G':Sp→Nat→Nat}{w w':World}{M M':MSet}{r:T}{cv:Value}(hs:scalar r=true)(h:VRel β G w M r cv):VRel β' G' w' M' r cv:=by
 cases r <;> simp[scalar]at hs
 case tup vs=>
  simp only[VRel]at h ⊢
  obtain⟨a,rfl,hl⟩:=h
  refine⟨a,rfl, ?_⟩
  generalize a.toList=l at hl
  induction vs generalizing l with
  |nil=>simpa only[VList]using hl
  |cons t ts ih=>
   simp only[VList]at hl ⊢
   obtain⟨u,us,rfl,h1,h2⟩:=hl
   have ht:=hs t (by simp)
   refine⟨u,us,rfl, ?_,ih (fun x hx=>hs x (by simp[hx])) us h2⟩
   cases t <;> simp at ht <;> simpa only[VRel]using h1
 all_goals simpa only[VRel]using h
section
variable{P:Program}{E:Env}{call:Orc}{B:Base}{st:St}{a:Act}{w:World}{β:Beta}{M:MSet}{o:Oper}
theorem callFunc_run{f:Nat}{fn:Func}(hf:P.funcs[f]? =some fn)(hn:(fn.name== "runtime.NumGoroutine")=false)(hb:fn.body.isSome=true)(cargs:Array Value)(w:World):(callFunc f cargs).run P w= .ok (.enter f cargs) w:=by
 have h1: ¬fn.name= "runtime.NumGoroutine" :=by simpa using hn
 have h2: ¬fn.body=none:=by intro e;rw[e]at hb;simp at hb
 simp[callFunc,hf,h1,h2]
theorem call_exec(hρ:RhoOk β st.gens w M st.rho a.eval){c:Call}(ho:o.op= .call c){sh:Nat}{aop:AOp}(hc:compCall P sh c=some aop){f:Nat}{targs:List T}(hq:callOf st.rho aop=some (some (f,targs))):
  ∃cargs:Array Value,(execOp a.eval o).run P w=(callFunc f cargs).run P w∧VList β st.gens w M targs cargs.toList:=by
 unfold compCall at hc
 split at hc
 ·rename_i f' hcal
  simp only[Option.map_eq_some_iff]at hc
  obtain⟨as,h1,rfl⟩:=hc
  simp[callOf]at hq
  obtain⟨rfl,rfl⟩:=hq
  refine⟨c.args.map a.eval, ?_,by simpa using opds_ok hρ h1⟩
  simp[execOp,ho,resolve,hcal,Deferred.ofValue,Act.eval,invoke]
 ·rename_i x hne hcal
  split at hc
  ·rename_i y as h1 h2
   simp at hc;subst hc
   simp only[callOf,Option.some.injEq]at hq
   split at hq
   ·rename_i f' fa fc e
    simp at hq
    obtain⟨rfl,rfl⟩:=hq
    have vx:=hρ x y h1
    rw[e]at vx
    simp only[VRel]at vx
    obtain⟨va,vc,e1,l1,l2⟩:=vx
    refine⟨va++c.args.map a.eval++vc, ?_, ?_⟩
    ·simp[execOp,ho,resolve,hcal,e1,Deferred.ofValue,invoke]
    ·have:=VList.append (VList.append l1 (opds_ok hρ h2)) l2
     simpa using this
   ·simp at hq
  ·cases hc
 all_goals
  exfalso
  revert hq
  try (simp only[Option.map_eq_some_iff]at hc;obtain⟨as,h1,rfl⟩:=hc;simp[callOf];done)
  try (cases hc;done)
 ·split at hc
  ·split at hc <;> simp at hc <;> subst hc <;> simp[callOf]
  ·cases hc
 ·split at hc
  ·split at hc
   ·split at hc
    ·split at hc
     ·split at hc
      ·split at hc
       ·simp at hc;subst hc;simp[callOf]
       ·cases hc
      ·cases hc
     ·cases hc
    ·split at hc
     ·split at hc
      ·split at hc
       ·simp at hc;subst hc;simp[callOf]
       ·cases hc
      ·cases hc
     ·cases hc
    ·cases hc
   ·cases hc
  ·cases hc
theorem comp_call{sh:Nat}{op:Op}{aop:AOp}{ρ:Opd→T}{x:Option (Nat×List T)}(h:compOp P sh op=some aop)(hc:callOf ρ aop=some x): ∃c,op= .call c∧compCall P sh c=some aop:=by
 cases op with
 |call c=>exact⟨c,rfl,h⟩
 |makeFunc fn first cap=>
  exfalso
  cases fn <;> simp only[compOp]at h <;> try (cases h;done)
  split at h
  ·simp at h;subst h;simp[callOf]at hc
  ·cases h
 |makeMap t r=>
  exfalso
  cases r <;> simp only[compOp]at h
  ·simp at h;subst h;simp[callOf]at hc
  ·cases h
 |_=>
  exfalso
  revert hc
  simp only[compOp]at h
  repeat' split at h
  all_goals first
   |(cases h;done)
   |(simp only[Option.map_eq_some_iff]at h;obtain⟨_,_,rfl⟩:=h;simp[callOf];done)
   |(simp at h;subst h;simp[callOf];done)
   |(simp at h;done)
theorem wr_ok(h:HRel B st w β M){f:Nat}{g:List T→Option (List T×Option Nat)}
  (hnil: ∀r,g []=some ([],r)→r.getD 0=0→ ∀w:World,Calls P f #[nilV] w fun e w'=>e= .returned (match r with|none=> .tuple #[]|some _=>nilV)∧RowKit.Below w.heap.size w w')
  (hcon: ∀cs ys r,g cs=some (ys,r)→ys.length=cs.length→ ∀(w:World) (M:MSet) (blk off cap:Nat) (c:Array Value) (el:TypeId) (vs:List Value),w.heap[blk]? =some (.cells c el (0,0))→off+cs.length≤c.size→cs.length≤cap→(c.toList.drop off).take cs.length=vs→PList w M cs vs→
    Calls P f #[.slice (some ⟨blk,off,none⟩) cs.length cap] w fun e w'=> ∃us,e= .returned (wrVal blk off cap r)∧PList w M ys us∧RowKit.Below w.heap.size (setBlock w blk (.cells (splice c.toList off us).toArray el)) w')
  {targs:List T} {cargs:Array Value} (hv:VList β st.gens w M targs cargs.toList) {r:T} {st2:St} (hd:wrRes g st targs=some (r,st2)):
  st2.fr=st.fr∧Calls P f cargs w fun e w'=> ∃cv β' M',e= .returned cv∧HRel B st2 w' β' M'∧Tr st w β M st2 w' β' M'∧w.heap.size≤w'.heap.size∧VRel β' st2.gens w' M' r cv:=by
 unfold wrRes at hd
 split at hd
 ·have hc:cargs= #[nilV]:=by
   simp only[VList,VRel]at hv
   obtain⟨u,us,h1,rfl,rfl⟩:=hv
   exact Array.toList_inj.1 h1
  subst hc
  have fin: ∀rr:Option Nat,g []=some ([],rr)→rr.getD 0=0→st2=st→(∀β' M' w',VRel β' st.gens w' M' r (match rr with|none=> .tuple #[]|some _=>nilV))→
    st2.fr=st.fr∧Calls P f #[nilV] w fun e w'=> ∃cv β' M',e= .returned cv∧HRel B st2 w' β' M'∧Tr st w β M st2 w' β' M'∧w.heap.size≤w'.heap.size∧VRel β' st2.gens w' M' r cv:=by
   rintro rr hg h0 rfl hr
   refine⟨rfl,(hnil rr hg h0 w).mono ?_⟩
   rintro e w' ⟨rfl,hbel⟩
   obtain⟨o1,o2⟩:=H_old h hbel.os hbel.tape hbel.output hbel.size hbel.block
   exact⟨_,β,M,rfl,o1,o2,hbel.size,hr _ _ _⟩
  split at hd
  ·rename_i hg
   simp only[Option.some.injEq,Prod.mk.injEq]at hd
   obtain⟨rfl,rfl⟩:=hd
   exact fin none hg rfl rfl fun _ _ _=>by simp[VRel,VList]
  ·rename_i hg
   simp only[Option.some.injEq,Prod.mk.injEq]at hd
   obtain⟨rfl,rfl⟩:=hd
   exact fin (some 0) hg rfl rfl fun _ _ _=>by simp[VRel,nilV]
  ·cases hd
 ·rename_i sp k g0 off len
  simp only[VList,VRel]at hv
  obtain⟨u,us,h1,⟨hle0,cap,rfl,hlc,hce⟩,rfl⟩:=hv
  have hc:cargs= #[.slice (some ⟨(β sp k g0).blk,(β sp k g0).off+off,none⟩) len cap]:=Array.toList_inj.1 h1
  subst hc
  generalize he:st.get sp k=e0 at hd
  obtain⟨g',ob⟩:=e0
  cases ob with
  |none=>cases hd
  |map _ _ _=>cases hd
  |cells cs wm bx=>
  cases bx with
  |true=>cases hd
  |false=>
  dsimp only at hd
  split at hd
  ·rename_i hcond
   obtain⟨rfl,hwm,hln⟩:=hcond
   split at hd
   ·rename_i ys rr hg
    split at hd
    ·rename_i hys
     obtain⟨hy1,hy2,hy3⟩:=hys
     simp only[Option.some.injEq,Prod.mk.injEq]at hd
     obtain⟨rfl,rfl⟩:=hd
     have hob:=h.obj sp k
     rw[he]at hob
     unfold ORel at hob
     obtain⟨c,el,fz,h1',h2,h3,h4,h5,h6,h7,h8⟩:=hob
     dsimp only at h1' h2 h3 h4 h5 h6
     subst h4
     have hlen:((cs.drop off).take len).length=len:=by rw[List.length_take,List.length_drop];omega
     have hcl:c.toList.length=c.size:=by simp
     have hpl:PList w M ((cs.drop off).take len) ((c.toList.drop ((β sp k g').off+off)).take len):=by
      have q:=PList.take len (PList.drop off (show PList w M cs ((c.toList.drop (β sp k g').off).take cs.length)from h5))
      rw[List.drop_take,List.take_take,List.drop_drop,Nat.min_eq_left (by omega)]at q
      exact q
     have hcall:=hcon _ ys rr hg (by rw[hlen];exact hy1) w M (β sp k g').blk ((β sp k g').off+off) cap c el _ h1' (by rw[hlen];omega) (by rw[hlen];exact hlc) (by rw[hlen]) hpl
     rw[hlen]at hcall
     refine⟨fr_up _ _,hcall.mono ?_⟩
     rintro e w' ⟨us,rfl,hpu,hbel⟩
     have hul:us.length=len:=by rw[←PList.length _ _ hpu];exact hy1
     have key:=H_splice h he g' (Nat.le_refl _) h1' off us (splice cs off ys) hwm (by omega) (by rw[splice_length];exact Nat.le_refl _) (by rw[splice_length];exact h3) (splice_all h7 hy2) (by
      rw[splice_length]
      have etake:(splice (c.toList.drop (β sp k g').off) off us).take cs.length=splice ((c.toList.drop (β sp k g').off).take cs.length) off us:=by
       apply List.ext_getElem?
       intro j
       rw[List.getElem?_take,splice_get,splice_get,List.getElem?_take,List.length_take]
       by_cases hj:j<cs.length
       ·rw[if_pos hj,if_pos hj]
        by_cases hc:off≤j∧j<off+us.length∧j<(c.toList.drop (β sp k g').off).length
        ·rw[if_pos hc,if_pos (by omega)]
        ·rw[if_neg hc,if_neg (by omega)]
       ·rw[if_neg hj,if_neg hj,if_neg (by omega)]
      rw[etake]
      exact PList.splice h5 hpu)
     rw[updB_self]at key
     have hsz:=size_setBlock w (β sp k g').blk (.cells (splice c.toList ((β sp k g').off+off) us).toArray el)
     obtain⟨o1,o2⟩:=H_old key.1 hbel.os hbel.tape hbel.output hbel.size fun b hb=>hbel.block b (by rw[hsz]at hb;exact hb)
     refine⟨_,β,M,rfl,o1,key.2.trans o2 (by rw[hsz];exact Nat.le_refl _),by rw[←hsz];exact hbel.size, ?_⟩
     cases rr with
     |none=>simp[wrSl,wrVal,VRel,VList]
     |some n=>
      simp only[wrSl,wrVal,VRel]
      refine⟨?_,cap,rfl, ?_,hce⟩
      ·rw[gens_up,if_pos ⟨rfl,rfl⟩];exact Nat.le_refl _
      ·simp at hy3;omega
    ·cases hd
   ·cases hd
  ·cases hd
 ·cases hd
theorem doCall_ok(hE:EnvOk P E)(hO:OrcOk P E call)(h:HRel B st w β M){f:Nat}{targs:List T}{cargs:Array Value}(hv:VList β st.gens w M targs cargs.toList){r:T}{st2:St}{d:Nat}(hd:doCall E call d st f targs=some (r,st2)):
  (callFunc f cargs).run P w= .ok (.enter f cargs) w∧st2.fr=st.fr∧
  Calls P f cargs w fun e w'=> ∃cv β' M',e= .returned cv∧HRel B st2 w' β' M'∧Tr st w β M st2 w' β' M'∧w.heap.size≤w'.heap.size∧VRel β' st2.gens w' M' r cv:=by
 unfold doCall at hd
 split at hd
 ·rename_i af hfn
  obtain⟨hs,fn,hf,hcf⟩:=hE.1 f af hfn
  have hnb:(fn.name== "runtime.NumGoroutine")=false∧fn.body.isSome=true:=by
   unfold compF at hcf
   split at hcf
   ·cases hcf
   ·rename_i hn
    refine⟨by simpa using hn, ?_⟩
    split at hcf
    ·cases hcf
    ·rename_i e;rw[e];rfl
  refine⟨callFunc_run hf hnb.1 hnb.2 _ _, ?_⟩
  split at hd
  ·rename_i q hq
   obtain⟨ts,us⟩:=q
   obtain⟨M1,q1,q2,q3,q4,q5,q6⟩:=mapQ_ok (fun t=>fz_ok af.eff st fzFuel t) targs B st w β M _ ts us _ (Fz.refl st) h hv hq
   split at hd
   ·rename_i heff
    simp only[Option.map_eq_some_iff]at hd
    obtain⟨⟨r',sh'⟩,hcall,hd⟩:=hd
    simp at hd
    obtain⟨rfl,rfl⟩:=hd
    refine⟨fr_ups st us, ?_⟩
    have hown:af.own=none:=by
     cases ho:af.own with
     |none=>rfl
     |some j=>rw[((hO f af ts (st.ups us).sh r' sh' hfn hcall).2 j ho).1]at heff;cases heff
    have hcon:=(hO f af ts (st.ups us).sh r' sh' hfn hcall).1 hown
    rw[heff]at q4 hcon
    have hx:XList true β (bare .nil (st.ups us).sh).gens w M1 ts cargs.toList:=by
     intro β' G' p1 p2
     refine q4 β' G' (fun k g hg=>p1 k g ?_) (fun k=>Nat.le_trans (Nat.le_of_eq ?_) (p2 k))
     ·have:(bare .nil (st.ups us).sh).gens .S k=(st.ups us).gens .S k:=rfl
      rw[this,q2.gens];exact hg
     ·have:(bare .nil (st.ups us).sh).gens .S k=(st.ups us).gens .S k:=rfl
      rw[this,q2.gens]
    refine(hcon w β M1 cargs (H_enter q1 .nil) hx).mono ?_
    rintro e w' ⟨cv,β',M',rfl,h',hβ,hG,hr⟩
    obtain⟨b1,b2⟩:=H_back q1 h' hβ hG
    refine⟨cv,_,M',rfl,b1,(Tr.fz q2 q3).trans b2 (Nat.le_refl _),h'.size, ?_⟩
    exact hr _ _ (fun _ _ _=>rfl) (fun _=>Nat.le_refl _)
   ·rename_i heff
    simp at heff
    split at hd
    ·rename_i r0 hcall
     obtain⟨r',sh'⟩:=r0
     rw[heff]at q4
     have hno: ∀b,¬sBlocks [] β b:=by rintro b ⟨k,hl,_⟩;simp[getE,getL]at hl;exact hl.elim
     have hent:HRel ⟨w,M1,sBlocks [] β⟩ (bare .nil []) w β M1:=by
      have h0:=H_enter0 q1 .nil
      exact⟨h0.obj,h0.dist,h0.mlt,fun k hl=>h0.lblk k hl,fun k hl=>(h0.sblk k hl).imp (fun e=>e.elim) id,rfl,rfl,rfl,Nat.le_refl _,fun _ _ _=>rfl,Keeps.refl w M1,fun _ _ _ _ hm=>hm⟩
     have plain: ∀(w':World) (cv:Value) (β':Beta) (M':MSet) (st3:St),st3=(if scalar r'=true then st else st.ups us)→HRel ⟨w,M1,sBlocks [] β⟩ (bare .nil sh') w' β' M'→PRel w' M' r' cv→
       ∃cv2 β' M',Ending.returned cv= .returned cv2∧HRel B st3 w' β' M'∧Tr st w β M st3 w' β' M'∧w.heap.size≤w'.heap.size∧VRel β' st3.gens w' M' r' cv2:=by
      intro w' cv β' M' st3 hst2 h' hr'
      have hold:=fun b (hb:b<w.heap.size)=>h'.same b hb (hno b)
      by_cases hsc:scalar r'=true
      ·rw[if_pos hsc]at hst2;subst hst2
       obtain⟨o1,o2⟩:=H_old h h'.os h'.tape h'.output h'.size hold
       exact⟨cv,β,M,rfl,o1,o2,h'.size,PRel.toV _ _ _ _ (scalar_rel hsc hr')⟩
      ·rw[if_neg hsc]at hst2;subst hst2
       obtain⟨o1,o2⟩:=H_old q1 h'.os h'.tape h'.output h'.size hold
       refine⟨cv,β,M1,rfl,o1,(Tr.fz q2 q3).trans o2 (Nat.le_refl _),h'.size,PRel.toV _ _ _ _ (PRel.mono (keeps_less ?_) _ _ hr')⟩
       intro b x hm
       have hb:=q1.mlt b x hm
       exact h'.msup b x hb (hno b) hm
     cases hown:af.own with
     |none=>
      simp only[hown]at hd
      simp at hd
      obtain⟨rfl,hst2⟩:=hd
      have hcon:=(hO f af ts [] r' sh' hfn hcall).1 hown
      rw[heff]at hcon
      have frEq:st2.fr=st.fr:=by rw[←hst2];split;rfl;exact fr_ups st us
      refine⟨frEq,(hcon w β M1 cargs hent q4).mono ?_⟩
      rintro e w' ⟨cv,β',M',rfl,h',hβ,hG,hr⟩
      exact plain w' cv β' M' st2 hst2.symm h' hr
     |some j=>
      simp only[hown]at hd
      have hcon:=((hO f af ts [] r' sh' hfn hcall).2 j hown).2
      unfold ownRes at hd
      have frEq:st2.fr=st.fr:=by
       split at hd
       ·simp at hd;obtain⟨_,rfl⟩:=hd;split;rfl;exact fr_ups st us
       ·split at hd
        ·simp at hd;obtain⟨_,rfl⟩:=hd;show(ite _ _ _:St).fr=_;split;rfl;exact fr_ups st us
        ·cases hd
       ·cases hd
      refine⟨frEq,(hcon w β M1 cargs hent q4).mono ?_⟩
      rintro e w' ⟨cv,β',M',rfl,h',hr⟩
      rcases hr with⟨hc,hr⟩|⟨cs,len,hc,S,sz,cap,c,el,s1,s2,s3,s4,s5,s6,s7,s8,s9,s10,s11,s12,s13⟩
      ·rw[hc]at hd
       simp at hd;obtain⟨rfl,hst2⟩:=hd
       exact plain w' cv β' M' st2 hst2.symm h' hr
      ·rw[hc]at hd
       simp only at hd
       split at hd
       ·rename_i hcs
        have hsz:cs.length/len=sz:=by rw[s8];exact Nat.mul_div_cancel_left _ (Nat.pos_of_ne_zero s9)
        rw[hsz]at hd
        have hold:=fun b (hb:b<w.heap.size)=>h'.same b hb (hno b)
        have fin: ∀(st3:St) (M3:MSet),HRel B st3 w β M3→Tr st w β M st3 w β M3→(∀β G,VRel β G w' (withS M3 S) (compSet r' j .nilsl) (vSet cv j nilV))→
          some (compSet r' j (.isl .L d ((st3.get .L d).g+1) 0 len sz),st3.up (.L,d,⟨(st3.get .L d).g+1,.cells cs 0 false⟩))=some (r,st2)→
          ∃cv2 β' M',Ending.returned cv= .returned cv2∧HRel B st2 w' β' M'∧Tr st w β M st2 w' β' M'∧w.heap.size≤w'.heap.size∧VRel β' st2.gens w' M' r cv2:=by
         intro st3 M3 h3 t3 hv3 hd
         simp only[Option.some.injEq,Prod.mk.injEq]at hd
         obtain⟨rfl,rfl⟩:=hd
         obtain⟨o1,o2⟩:=H_thaw h3 h'.os h'.tape h'.output h'.size hold d ((st3.get .L d).g+1) (Nat.lt_succ_self _) S s1 (heap_lt s2) (.cells cs 0 false) (by
          unfold ORel
          simp only[updB_same]
          exact⟨c,el,(0,0),s2,s3,s4,rfl,scal1_rel hcs.1 s5,fun i _ hi=> .inr ⟨rfl,by omega,by omega⟩,s7,Nat.zero_le _⟩)
         refine⟨cv,_,_,rfl,o1,t3.trans o2 (Nat.le_refl _),h'.size,comp_in (hv3 _ _) s12 ?_ rfl⟩
         simp only[VRel]
         rw[updB_same]
         exact⟨by simp[gens_up],cap,rfl,s10,by simpa using s11⟩
        by_cases hsc:scalar (compSet r' j .nilsl)=true
        ·simp only[hsc,if_true]at hd
         exact fin st M h (Tr.refl _ _ _ _) (fun β G=>scalar_relV hsc (s13 β G)) hd
        ·simp only[hsc,Bool.false_eq_true,if_false]at hd
         refine fin (st.ups us) M1 q1 (Tr.fz q2 q3) (fun β G=>VRel.mono (keeps_less ?_) (fun _ _ _ _=>rfl) (fun _ _=>Nat.le_refl _) _ _ (s13 β G)) hd
         rintro b x (hm|⟨rfl,h1,h2⟩)
         ·exact h'.msup b x (q1.mlt b x hm) (hno b) hm
         ·have:=(s6.resolve_left hsc) (x-S.off) (by omega)
          rwa [show S.off+(x-S.off)=x by omega]at this
       ·cases hd
    ·cases hd
  ·cases hd
 ·rename_i g hfn hext
  split at hd
  ·rename_i q hq
   obtain⟨ts,us⟩:=q
   simp only[Option.map_eq_some_iff]at hd
   obtain⟨r',hg,hd⟩:=hd
   simp at hd
   obtain⟨rfl,rfl⟩:=hd
   obtain⟨⟨fn,hf,hn,hb⟩,hcon⟩:=hE.2.1 f g hfn hext
   obtain⟨M1,q1,q2,q3,q4,q5,q6⟩:=mapQ_ok (fun t=>fz_ok false st fzFuel t) targs B st w β M _ ts us _ (Fz.refl st) h hv hq
   refine⟨callFunc_run hf hn hb _ _,rfl,(hcon ts r' hg w M1 cargs q1.mlt q4).mono ?_⟩
   rintro e w' ⟨cv,rfl,hbel,hr⟩
   obtain⟨o1,o2⟩:=H_old h hbel.os hbel.tape hbel.output hbel.size hbel.block
   exact⟨cv,β,M,rfl,o1,o2,hbel.size,PRel.toV _ _ _ _ (PRel.mono (keeps_less (fun b x hm=>h.mlt b x hm)) _ _ hr)⟩
  ·cases hd
 ·rename_i hfn hext
  split at hd
  ·rename_i g hwr
   obtain⟨⟨fn,hf,hn,hb⟩,hnil,hcon⟩:=hE.2.2 f g hfn hext hwr
   refine⟨callFunc_run hf hn hb _ _, ?_⟩
   exact wr_ok h hnil hcon hv hd
  ·cases hd
variable{ops:Array Oper}{Q:Exit→Act→World→Prop}{n:Nat}{K:Act→World→Prop}
theorem yielded_ok(hf:FRel st a w β M n){j d:Nat}(hj:(ops[j]?).bind (·.dst)=some d):yielded ops a.tmps j=match getF st.fr d with| .b x=>some x|_=>none:=by
 unfold yielded
 rw[hj]
 simp only[Option.bind_some]
 have hs:=hf.slot d
 rw[Array.getD_eq_getD_getElem?]at hs
 cases hx:a.tmps[d]? with
 |none=>
  rw[hx]at hs
  simp only[Option.getD_none]at hs
  generalize getF st.fr d=t at*
  cases t <;> simp only[VRel,PRel,undef]at hs <;> simp_all
 |some cv=>
  rw[hx]at hs
  simp only[Option.getD_some]at hs
  generalize getF st.fr d=t at*
  cases t <;> simp only[VRel,PRel]at hs
  case b x=>subst hs;rfl
  all_goals first
   |(subst hs;rfl)
   |(obtain⟨_,rfl,_⟩:=hs;rfl)
   |(obtain⟨_,_,rfl,_⟩:=hs;rfl)
   |(obtain⟨_,_,_,rfl,_⟩:=hs;rfl)
   |(obtain⟨_,_,_,_,rfl,_⟩:=hs;rfl)
   |(obtain⟨_,rfl⟩:=hs;rfl)
theorem oper_ok(hE:EnvOk P E)(hO:OrcOk P E call){hs:List Nat}{ao:AOper}{i:Nat}(hi:ops[i]? =some o)(hc:compOper P hs ops o=some ao)(h:HRel B st w β M)(hf:FRel st a w β M n){st':St}(he:evOper E call n ao st=some st')
  (hK: ∀a' w' β' M',HRel B st' w' β' M'→FRel st' a' w' β' M' n→Tr st w β M st' w' β' M'→w.heap.size≤w'.heap.size→K a' w'):wpOp P ops Q i K a w:=by
 have hρ:=rho_ok hf
 unfold wpOp
 rw[hi]
 simp only
 unfold compOper at hc
 split at hc
 ·rename_i aop hop
  have core: ∀gd,ao=⟨o.dst,aop,gd⟩→(match callOf st.rho aop with
    |some (some c)=>match doCall E call (o.dst.getD 0) st c.1 c.2 with
     |some r=>(putD st.fr n o.dst r.1).map fun fr=>({r.2 with fr}:St)
     |none=>none
    |some none=>none
    |none=>match(opQ (o.dst.getD 0) st.rho aop).run st.get st.sh.length with
     |some (.val v ups)=>(putD st.fr n o.dst v).map fun fr=>({st.ups ups with fr}:St)
     |none=>none)=some st'→o.wp P a w K Q:=by
   intro gd _ hgo
   unfold Oper.wp
   split at hgo
   ·rename_i c hcall
    obtain⟨f,targs⟩:=c
    split at hgo
    ·rename_i r hd
     obtain⟨r,st2⟩:=r
     simp only[Option.map_eq_some_iff]at hgo
     obtain⟨fr,hfr,rfl⟩:=hgo
     have hcc:=comp_call hop hcall
     obtain⟨c,ho,hcc⟩:=hcc
     obtain⟨cargs,hx,hvl⟩:=call_exec hρ ho hcc hcall
     obtain⟨d1,d2,d3⟩:=doCall_ok hE hO h hvl hd
     rw[hx,d1,Oper.upon_enter]
     refine d3.mono ?_
     rintro e w' ⟨cv,β',M',rfl,k1,k2,k3,k4⟩
     refine hK _ _ β' M' (H_fr k1 fr) ?_ (k2.fr fr) k3
     exact frel_put hf k2 hfr k4
    ·cases hgo
   ·cases hgo
   ·split at hgo
    ·rename_i v ups hq
     simp only[Option.map_eq_some_iff]at hgo
     obtain⟨fr,hfr,rfl⟩:=hgo
     obtain⟨nx,cv,w',β',M',r1,r2,r3,r4,r5,r6⟩:=op_ok (P:=P) hρ h hop hq
     rw[r1]
     have:=hK (a.put o.dst cv) w' β' M' (H_fr r3 fr) (frel_put hf r4 hfr r6) (r4.fr fr) r5
     rcases r2 with rfl|⟨rfl,rfl⟩
     ·exact this
     ·exact this
    ·cases hgo
  split at hc
  ·rename_i hg
   simp at hc;subst hc
   have hw:Region.wanted o (yielded ops a.tmps)=true:=by unfold Region.wanted;rw[hg]
   rw[if_pos hw]
   unfold evOper at he
   exact .inl (core none rfl he)
  ·rename_i j want hg
   split at hc
   ·rename_i d hd
    simp at hc;subst hc
    have hy:=yielded_ok (ops:=ops) hf hd
    unfold evOper at he
    simp only at he
    have notw:(putD st.fr n o.dst undefT).map (fun fr=>({st with fr}:St))=some st'→K (a.put o.dst undef) w:=by
     intro hp
     simp only[Option.map_eq_some_iff]at hp
     obtain⟨fr,hfr,rfl⟩:=hp
     exact hK _ _ β M (H_fr h fr) (frel_put hf (Tr.refl _ _ _ _) hfr (by simp[VRel,undefT,undef,VList])) ((Tr.refl _ _ _ _).fr fr) (Nat.le_refl _)
    split at he
    ·rename_i x hx
     rw[hx]at hy
     have hw:Region.wanted o (yielded ops a.tmps)=(x==want):=by unfold Region.wanted;rw[hg];simp[hy]
     split at he
     ·rename_i hxw
      rw[if_pos (by rw[hw];simp[hxw])]
      exact .inl (core _ rfl he)
     ·rename_i hxw
      rw[if_neg (by rw[hw];simp[hxw])]
      exact notw he
    ·rename_i hx
     have hw:Region.wanted o (yielded ops a.tmps)=false:=by
      unfold Region.wanted;rw[hg];simp only
      rw[hy]
      split
      ·rename_i x hxx;exact absurd hxx (hx x)
      ·rfl
     rw[if_neg (by rw[hw];simp)]
     exact notw he
   ·cases hc
 ·cases hc
end
end Go.Ev
namespace Go.Ev
open Go
theorem Q.run_congr{α:Type}{h h':Sp→Nat→Ent}{nx nx':Nat}: ∀(q:Q α),(∀κ∈q.log h nx,h' κ.1 κ.2=h κ.1 κ.2)→(q.asks h nx=true→nx'=nx)→q.run h' nx'=q.run h nx
 | .ret a,_,_=>rfl
 | .fail,_,_=>rfl
 | .rd sp k f,hl,ha=>by
   have e:h' sp k=h sp k:=hl (sp,k) (by simp[Q.log])
   simp only[Q.run,e]
   exact Q.run_congr (f (h sp k)) (fun κ hk=>hl κ (by simp[Q.log,hk])) (fun hh=>ha (by simp[Q.asks,hh]))
 | .new f,hl,ha=>by
   have e:nx'=nx:=ha rfl
   subst e
   simp only[Q.run]
   exact Q.run_congr (f nx') (fun κ hk=>hl κ (by simp[Q.log,hk])) (fun _=>rfl)
theorem mapQ_asks(f:T→Q (T×List Up))(h:Sp→Nat→Ent)(nx:Nat)(hf: ∀t,(f t).asks h nx=false): ∀ts,(mapQ f ts).asks h nx=false:=by
 have bindAsks: ∀{α γ:Type} (q:Q α) (g:α→Q γ),q.asks h nx=false→(∀a,(g a).asks h nx=false)→(q.bind g).asks h nx=false:=by
  intro α γ q g hq hg
  induction q with
  |ret a=>exact hg a
  |fail=>rfl
  |rd sp k f ih=>simp only[Q.bind,Q.asks]at hq ⊢; exact ih _ hq
  |new f ih=>simp[Q.asks]at hq
 intro ts
 induction ts with
 |nil=>rfl
 |cons t ts ih=>
  simp only[mapQ]
  refine bindAsks _ _ (hf t) (fun p=>bindAsks _ _ ih (fun q=>rfl))
theorem fz_asks(h:Sp→Nat→Ent)(nx:Nat): ∀(keep:Bool) (n:Nat) (t:T),(fz keep n t).asks h nx=false:=by
 have bindAsks: ∀{α γ:Type} (q:Q α) (g:α→Q γ),q.asks h nx=false→(∀a,(g a).asks h nx=false)→(q.bind g).asks h nx=false:=by
  intro α γ q g hq hg
  induction q with
  |ret a=>exact hg a
  |fail=>rfl
  |rd sp k f ih=>simp only[Q.bind,Q.asks]at hq ⊢; exact ih _ hq
  |new f ih=>simp[Q.asks]at hq
 intro keep n
 induction n generalizing keep with
 |zero=>intro t;rfl
 |succ n ih=>
  intro t
  cases t <;> simp only[fz] <;> try rfl
  ·split
   ·rfl
   ·simp only[Q.asks];split
    ·split
     ·split <;> rfl
     ·split
      ·exact bindAsks _ _ (mapQ_asks _ _ _ (fun t=>ih false t) _) (fun _=>rfl)
      ·rfl
     ·rfl
    ·rfl
  ·split
   ·rfl
   ·simp only[Q.asks];split
    ·split
     ·exact bindAsks _ _ (mapQ_asks _ _ _ (fun t=>ih false t) _) (fun _=>rfl)
     ·rfl
    ·rfl
  ·split
   ·rfl
   ·simp only[Q.asks];split
    ·split <;> rfl
    ·rfl
  ·exact bindAsks _ _ (mapQ_asks _ _ _ (fun t=>ih keep t) _) (fun _=>bindAsks _ _ (mapQ_asks _ _ _ (fun t=>ih keep t) _) (fun _=>rfl))
  ·exact bindAsks _ _ (mapQ_asks _ _ _ (fun t=>ih keep t) _) (fun _=>rfl)
  ·exact bindAsks _ _ (mapQ_asks _ _ _ (fun t=>ih keep t) _) (fun _=>rfl)
theorem map_congr_opd{ρ ρ':Opd→T}{l:List Opd}(h: ∀x∈l,ρ' x=ρ x):l.map ρ'=l.map ρ:=List.map_congr_left h
theorem optVal_congr{ρ ρ':Opd→T}{d:Nat}{x:Option Opd}(h: ∀y∈x.toList,ρ' y=ρ y):optVal ρ' d x=optVal ρ d x:=by
 cases x with
 |none=>rfl
 |some y=>simp only[optVal];rw[h y (by simp)]
theorem opQ_congr{ρ ρ':Opd→T}(d:Nat)(op:AOp)(h: ∀x∈opdsOf op,ρ' x=ρ x):opQ d ρ' op=opQ d ρ op:=by
 cases op <;> simp only[opdsOf]at h <;> simp only[opQ]
 case mv x=>rw[h x (by simp)]
 case pick c a b=>rw[h c (by simp),h a (by simp),h b (by simp)]
 case box x sh=>rw[h x (by simp)]
 case build z ps=>
  have e: ∀p∈ps,ρ' p.2.2=ρ p.2.2:=fun p hp=>h _ (List.mem_map.2 ⟨p,hp,rfl⟩)
  have e1:(ps.all fun p=>decide ((cellsOf (ρ' p.2.2)).length=p.2.1)&&noTup (ρ' p.2.2))=(ps.all fun p=>decide ((cellsOf (ρ p.2.2)).length=p.2.1)&&noTup (ρ p.2.2)):=by
   rw[Bool.eq_iff_iff,List.all_eq_true,List.all_eq_true]
   exact⟨fun hh p hp=>by rw[←e p hp];exact hh p hp,fun hh p hp=>by rw[e p hp];exact hh p hp⟩
  have e2:(ps.map fun p=>(p.1,cellsOf (ρ' p.2.2)))=(ps.map fun p=>(p.1,cellsOf (ρ p.2.2))):=List.map_congr_left fun p hp=>by rw[e p hp]
  rw[e1,e2]
 case bsl z len ps=>
  have e2:(ps.map fun p=>ρ' p.2)=(ps.map fun p=>ρ p.2):=List.map_congr_left fun p hp=>h _ (List.mem_map.2 ⟨p,hp,rfl⟩)
  rw[e2]
 case ld x n ag=>rw[h x (by simp)]
 case st x v n=>rw[h x (by simp),h v (by simp)]
 case nck x=>rw[h x (by simp)]
 case bin o x y=>rw[h x (by simp),h y (by simp)]
 case eq n k x y=>rw[h x (by simp),h y (by simp)]
 case un o x=>rw[h x (by simp)]
 case cvi k x=>rw[h x (by simp)]
 case mkfn f a c=>rw[map_congr_opd (fun x hx=>h x (by simp[hx])),map_congr_opd (fun x hx=>h x (by simp[hx]))]
 case mksl z b x sh=>rw[h x (by simp)]
 case slS x l hh=>
  rw[h x (by simp),optVal_congr (x:=l) (fun y hy=>h y (by simp at hy;simp[hy]))]
  split
  ·rw[optVal_congr (x:=hh) (fun y hy=>h y (by simp at hy;simp[hy]))]
  ·rfl
 case slV sz x l hh m=>
  rw[h x (by simp),optVal_congr (x:=l) (fun y hy=>h y (by simp at hy;simp[hy]))]
  split
  ·rfl
  ·rw[optVal_congr (x:=hh) (fun y hy=>h y (by simp at hy;simp[hy]))]
   split
   ·rfl
   ·rename_i mm _ _;rw[h mm (by simp)]
   ·rfl
 case fa x o=>rw[h x (by simp)]
 case fld x o n ag=>rw[h x (by simp)]
 case ia x y n=>rw[h x (by simp),h y (by simp)]
 case iaA x y l n=>rw[h x (by simp),h y (by simp)]
 case ixS x y=>rw[h x (by simp),h y (by simp)]
 case ixA x y l n ag=>rw[h x (by simp),h y (by simp)]
 case lk k x y z ok=>rw[h x (by simp),h y (by simp)]
 case mu k x y z=>rw[h x (by simp),h y (by simp),h z (by simp)]
 case ext x j=>rw[h x (by simp)]
 case lenS x=>rw[h x (by simp)]
 case lenV x=>rw[h x (by simp)]
 case lenM x=>rw[h x (by simp)]
 case app s b x y sh nm=>rw[h x (by simp),h y (by simp)]
 case mm b as=>rw[map_congr_opd h]
theorem callOf_congr{ρ ρ':Opd→T}(op:AOp)(h: ∀x∈opdsOf op,ρ' x=ρ x):callOf ρ' op=callOf ρ op:=by
 cases op <;> simp only[opdsOf]at h <;> simp only[callOf]
 case callf f as=>rw[map_congr_opd h]
 case callv f as=>rw[h f (by simp),map_congr_opd (fun x hx=>h x (by simp[hx]))]
theorem quiet_ok{ρ:Opd→T}{op:AOp}(hq:quiet op=true)(d:Nat)(h:Sp→Nat→Ent)(nx:Nat):callOf ρ op=none∧(opQ d ρ op).log h nx= []∧(opQ d ρ op).asks h nx=false∧ ∀v ups,(opQ d ρ op).run h nx=some (.val v ups)→ups= []:=by
 have hval: ∀x:Option T,(Ev.val x).log h nx= []∧(Ev.val x).asks h nx=false∧ ∀v ups,(Ev.val x).run h nx=some (.val v ups)→ups= []:=by
  intro x;cases x <;> simp[Ev.val,Q.log,Q.asks,Q.run]
 cases op <;> simp[quiet]at hq <;> refine⟨rfl, ?_⟩ <;> simp only[opQ]
 case slV sz x l hh m=>
  split
  ·simp[Q.log,Q.asks,Q.run]
  ·split
   ·unfold slVAt
    split
    ·split <;> simp[Q.bind,Q.log,Q.asks,Q.run]
    ·split <;> simp[Q.bind,Q.log,Q.asks,Q.run]
    ·split <;> simp[Q.bind,Q.log,Q.asks,Q.run]
    ·simp[Q.bind,Q.log,Q.asks,Q.run]
   ·split
    ·split <;> simp[Q.log,Q.asks,Q.run]
    ·split <;> simp[Q.log,Q.asks,Q.run]
    ·simp[Q.log,Q.asks,Q.run]
   ·simp[Q.log,Q.asks,Q.run]
 all_goals first
  |exact hval _
  |(simp[Q.log,Q.asks,Q.run];done)
  |(repeat' split
    all_goals first
     |exact hval _
     |(simp[Q.log,Q.asks,Q.run];done))
end Go.Ev
namespace Go.Ev
open Go
theorem hits_iff{us:List Up}{sp:Sp}{k:Nat}:hits us sp k=true↔(sp,k)∈upKeys us:=by
 unfold hits upKeys
 rw[List.any_eq_true,List.mem_map]
 constructor
 ·rintro⟨⟨a,b,c⟩,h1,h2⟩
  simp at h2;obtain⟨rfl,rfl⟩:=h2
  exact⟨_,h1,rfl⟩
 ·rintro⟨⟨a,b,c⟩,h1,h2⟩
  simp at h2;obtain⟨rfl,rfl⟩:=h2
  exact⟨_,h1,by simp⟩
theorem get_ups_hit(s p:St): ∀(us:List Up) (sp:Sp) (k:Nat),hits us sp k=true→(s.ups us).get sp k=(p.ups us).get sp k:=by
 intro us
 induction us generalizing s p with
 |nil=>intro sp k h;simp[hits]at h
 |cons u us ih=>
  intro sp k h
  simp only[St.ups]
  by_cases h2:hits us sp k=true
  ·exact ih _ _ sp k h2
  ·simp at h2
   rw[get_ups_miss _ us sp k h2,get_ups_miss _ us sp k h2]
   obtain⟨a,b,c⟩:=u
   have:(a==sp&&b==k)=true:=by
    simp only[hits,List.any_cons]at h h2
    simpa[h2]using h
   simp at this;obtain⟨rfl,rfl⟩:=this
   rw[get_up,get_up];simp
theorem get_ups(s p:St)(us:List Up)(sp:Sp)(k:Nat):(s.ups us).get sp k=if(sp,k)∈upKeys us then(p.ups us).get sp k else s.get sp k:=by
 split
 ·rename_i h;exact get_ups_hit s p us sp k (hits_iff.2 h)
 ·rename_i h
  refine get_ups_miss s us sp k ?_
  cases hh:hits us sp k with
  |false=>rfl
  |true=>exact absurd (hits_iff.1 hh) h
theorem ups_sh(s p:St)(hs:s.sh=p.sh): ∀us,(s.ups us).sh=(p.ups us).sh:=by
 intro us
 induction us generalizing s p with
 |nil=>exact hs
 |cons u us ih=>
  simp only[St.ups]
  refine ih _ _ ?_
  obtain⟨a,b,c⟩:=u
  cases a
  ·exact hs
  ·simp[St.up,hs]
theorem ups_len(s:St): ∀us,(∀u∈us,u.1= .S→u.2.1<s.sh.length)→(s.ups us).sh.length=s.sh.length:=by
 intro us
 induction us generalizing s with
 |nil=>intro _;rfl
 |cons u us ih=>
  intro h
  obtain⟨a,b,c⟩:=u
  simp only[St.ups]
  have hlen:(s.up (a,b,c)).sh.length=s.sh.length:=by
   cases a with
   |L=>rfl
   |S=>simp[St.up,setE_length _ _ _ (h (.S,b,c) (by simp) rfl)]
  rw[ih _ (fun u hu e=>by rw[hlen];exact h u (by simp[hu]) e),hlen]
theorem inB_lt{s p:St}{us:List Up}(h:inB p us=true)(he: ∀sp k,(sp,k)∈upKeys us→s.get sp k=p.get sp k): ∀u∈us,u.1= .S→u.2.1<s.sh.length:=by
 intro u hu e
 unfold inB at h
 rw[List.all_eq_true]at h
 have h1:=h u hu
 obtain⟨a,b,c⟩:=u
 dsimp only at e;subst e
 simp at h1
 have h2:=he .S b (by unfold upKeys;exact List.mem_map.2 ⟨_,hu,rfl⟩)
 refine live_lt (st:=s) ?_
 rw[h2]
 unfold liveB at h1
 unfold live
 generalize (p.get .S b).ob=ob at*
 cases ob <;> simp_all
theorem putD_fr{fr fr2:Fr}{n:Nat}{d:Option Nat}{v:T}{g:Fr}(h:putD fr n d v=some g): ∃g2,putD fr2 n d v=some g2∧ ∀t,getF g2 t=if d=some t then getF g t else getF fr2 t:=by
 cases d with
 |none=>exact⟨fr2,rfl,fun t=>by simp⟩
 |some d=>
  simp only[putD]at h ⊢
  split at h
  ·rename_i hd
   simp at h;subst h
   refine⟨setF fr2 d v,by rw[if_pos hd],fun t=> ?_⟩
   have e1:getF (setF fr2 d v) t=if t=d then v else getF fr2 t:=getF_setF fr2 d v t
   have e2:getF (setF fr d v) t=if t=d then v else getF fr t:=getF_setF fr d v t
   rw[e1,e2]
   by_cases ht:t=d
   ·subst ht;simp
   ·rw[if_neg ht,if_neg (fun e=>ht (by simpa using e.symm))]
  ·cases h
def wrote(fp:FP)(sp:Sp)(k:Nat):Prop:=(sp,k)∈fp.w∨(fp.all=true∧sp= .S)
structure LocR (ao:AOper) (fp:FP) (s s' p':St):Prop where
 slot: ∀t,getF s'.fr t=if ao.d=some t then getF p'.fr t else getF s.fr t
 key: ∀sp k,(wrote fp sp k→s'.get sp k=p'.get sp k)∧(¬wrote fp sp k→s'.get sp k=s.get sp k)
 len:(fp.all=true→s'.sh.length=p'.sh.length)∧(fp.all=false→s'.sh.length=s.sh.length)
variable{E:Env}{call:Orc}{n:Nat}
theorem rho_agree{s p:St}{ao:AOper}(h: ∀t∈looks ao,getF s.fr t=getF p.fr t): ∀x∈opdsOf ao.op,s.rho x=p.rho x:=by
 intro x hx
 cases x with
 |t m=>
  refine h m ?_
  unfold looks
  rw[List.mem_append];left
  unfold tmpsOf
  rw[List.mem_filterMap]
  exact⟨.t m,hx,rfl⟩
 |c v=>rfl
theorem own_loc{s p:St}{d j:Nat}{r r':T}{us:List Up}{p2:St}(hd:ownRes d j r p us=some (r',p2))(h: ∀sp k,(sp,k)∈(Sp.L,d)::upKeys us→s.get sp k=p.get sp k)(hl:(s.ups us).sh.length=s.sh.length):
  ∃s2,ownRes d j r s us=some (r',s2)∧(∀sp k,((sp,k)∈(Sp.L,d)::upKeys us→s2.get sp k=p2.get sp k)∧((sp,k)∉(Sp.L,d)::upKeys us→s2.get sp k=s.get sp k))∧s2.sh.length=s.sh.length:=by
 have base: ∀(c:Bool) (sp:Sp) (k:Nat),((sp,k)∈(Sp.L,d)::upKeys us→(if c=true then s else s.ups us).get sp k=(if c=true then p else p.ups us).get sp k)∧((sp,k)∉(Sp.L,d)::upKeys us→(if c=true then s else s.ups us).get sp k=s.get sp k):=by
  intro c sp k
  cases c with
  |true=>simp only[if_true];exact⟨h sp k,fun _=>trivial⟩
  |false=>
   simp only[Bool.false_eq_true,if_false]
   have g1:=get_ups s p us sp k
   have g2:=get_ups p p us sp k
   refine⟨fun hm=> ?_,fun hm=> ?_⟩
   ·by_cases hk:(sp,k)∈upKeys us
    ·rw[if_pos hk]at g1;exact g1
    ·rw[if_neg hk]at g1 g2;rw[g1,g2];exact h sp k hm
   ·rw[if_neg (fun e=>hm (List.mem_cons_of_mem _ e))]at g1;exact g1
 have len: ∀c:Bool,(if c=true then s else s.ups us).sh.length=s.sh.length:=by
  intro c;cases c
  ·simpa using hl
  ·simp
 unfold ownRes at hd ⊢
 split at hd
 ·rename_i hc
  simp only[Option.some.injEq,Prod.mk.injEq]at hd ⊢
  obtain⟨rfl,rfl⟩:=hd
  exact⟨_,⟨rfl,rfl⟩,base _,len _⟩
 ·rename_i cs len' ex hc
  split at hd
  ·rename_i hcs
   rw[if_pos hcs]
   simp only[Option.some.injEq,Prod.mk.injEq]at hd ⊢
   obtain⟨rfl,rfl⟩:=hd
   have hg:=(base (scalar (compSet r j .nilsl)) .L d).1 (List.mem_cons_self ..)
   rw[hg]
   refine⟨_,⟨rfl,rfl⟩,fun sp k=>⟨fun hm=> ?_,fun hm=> ?_⟩, ?_⟩
   ·rw[get_up,get_up]
    split
    ·rfl
    ·exact(base _ sp k).1 hm
   ·rw[get_up,if_neg (by rintro⟨rfl,rfl⟩;exact hm (List.mem_cons_self ..))]
    exact(base _ sp k).2 hm
   ·exact len _
  ·cases hd
 ·cases hd
theorem local_ok{ao:AOper}{fp:FP}{s p p':St}(he:evOper E call n ao p=some p')(hfp:operFP E call ao p=some fp)(h1: ∀t∈looks ao,getF s.fr t=getF p.fr t)(h2: ∀sp k,(sp,k)∈fp.r∨(sp,k)∈fp.w→s.get sp k=p.get sp k)(h3:fp.all=true→s.sh=p.sh):
  ∃s',evOper E call n ao s=some s'∧LocR ao fp s s' p':=by
 have hrho:=rho_agree h1
 have notw:(putD p.fr n ao.d undefT).map (fun fr=>({p with fr}:St))=some p'→fp=noFP→ ∃s',(putD s.fr n ao.d undefT).map (fun fr=>({s with fr}:St))=some s'∧LocR ao fp s s' p':=by
  intro hp hn
  subst hn
  simp only[Option.map_eq_some_iff]at hp
  obtain⟨g,hg,rfl⟩:=hp
  obtain⟨g2,e1,e2⟩:=putD_fr (fr2:=s.fr) hg
  refine⟨{s with fr:=g2},by rw[e1];rfl,e2,fun sp k=>⟨fun hw=> ?_,fun _=>rfl⟩,⟨(fun hh=>by cases hh),fun _=>rfl⟩⟩
  rcases hw with hw|hw
  ·simp[noFP]at hw
  ·cases hw.1
 have core:(match callOf p.rho ao.op with
       |some (some c)=>match doCall E call (ao.d.getD 0) p c.1 c.2 with
        |some r=>(putD p.fr n ao.d r.1).map fun fr=>({r.2 with fr}:St)
        |none=>none
       |some none=>none
       |none=>match(opQ (ao.d.getD 0) p.rho ao.op).run p.get p.sh.length with
        |some (.val v ups)=>(putD p.fr n ao.d v).map fun fr=>({p.ups ups with fr}:St)
        |none=>none)=some p'→(match callOf p.rho ao.op with
       |some (some c)=>callFP E call (ao.d.getD 0) p c.1 c.2
       |some none=>none
       |none=>
        let q:=opQ (ao.d.getD 0) p.rho ao.op
        match q.run p.get p.sh.length with
        |some (.val _ ups)=>if q.asks p.get p.sh.length||inB p ups then some (⟨q.asks p.get p.sh.length,q.log p.get p.sh.length,upKeys ups⟩:FP)else none
        |none=>none)=some fp→
   ∃s',(match callOf s.rho ao.op with
    |some (some c)=>match doCall E call (ao.d.getD 0) s c.1 c.2 with
     |some r=>(putD s.fr n ao.d r.1).map fun fr=>({r.2 with fr}:St)
     |none=>none
    |some none=>none
    |none=>match(opQ (ao.d.getD 0) s.rho ao.op).run s.get s.sh.length with
     |some (.val v ups)=>(putD s.fr n ao.d v).map fun fr=>({s.ups ups with fr}:St)
     |none=>none)=some s'∧LocR ao fp s s' p':=by
  intro hgo hf
  rw[callOf_congr ao.op hrho]
  split at hgo
  ·rename_i c hc
   obtain⟨f,args⟩:=c
   rw[hc]at hf
   simp only[hc]at hf ⊢
   split at hgo
   ·rename_i r hd
    obtain⟨r,p2⟩:=r
    simp only[Option.map_eq_some_iff]at hgo
    obtain⟨g,hg,rfl⟩:=hgo
    obtain⟨g2,e1,e2⟩:=putD_fr (fr2:=s.fr) hg
    suffices hs: ∃s2,doCall E call (ao.d.getD 0) s f args=some (r,s2)∧(∀sp k,(wrote fp sp k→s2.get sp k=p2.get sp k)∧(¬wrote fp sp k→s2.get sp k=s.get sp k))∧(fp.all=true→s2.sh.length=p2.sh.length)∧(fp.all=false→s2.sh.length=s.sh.length)by
     obtain⟨s2,d1,d2,d3⟩:=hs
     refine⟨{s2 with fr:=g2},by rw[d1];simp[e1],e2,d2,d3⟩
    unfold callFP at hf
    unfold doCall at hd ⊢
    split at hd
    ·rename_i af hfn
     simp only[hfn]at hf ⊢
     cases hq:(mapQ (fz af.eff fzFuel) args).run p.get p.sh.length with
     |none=>simp[hq]at hd
     |some q=>
      obtain⟨ts,us⟩:=q
      simp only[hq]at hd hf
      split at hf
      ·cases hf
      ·rename_i hinb
       simp at hinb
       have hsub: ∀κ∈(mapQ (fz af.eff fzFuel) args).log p.get p.sh.length,κ∈fp.r:=by
        intro κ hk
        split at hf
        ·simp at hf;subst hf;exact hk
        ·split at hf
         ·split at hf
          ·simp at hf;subst hf;exact hk
          ·simp at hf;subst hf;exact List.mem_cons_of_mem _ hk
         ·cases hf
       have hrun:(mapQ (fz af.eff fzFuel) args).run s.get s.sh.length=some (ts,us):=by
        rw[←hq]
        refine Q.run_congr _ (fun κ hk=>h2 _ _ (.inl (hsub κ hk))) (fun hh=> ?_)
        rw[mapQ_asks _ _ _ (fun t=>fz_asks _ _ _ _ t)]at hh;cases hh
       rw[hrun]
       simp only
       split at hd
       ·rename_i heff
        simp only[heff,if_true]at hf ⊢
        simp at hf;subst hf
        simp only[Option.map_eq_some_iff]at hd
        obtain⟨⟨r',sh'⟩,hcall,hd⟩:=hd
        simp at hd;obtain⟨rfl,rfl⟩:=hd
        have hsh:=h3 rfl
        have hshe:=ups_sh s p hsh us
        refine⟨{s.ups us with sh:=sh'},by rw[hshe,hcall];rfl,fun sp k=> ?_,fun _=>rfl,(fun hh=>by cases hh)⟩
        cases sp with
        |S=>exact⟨fun _=>rfl,fun hw=>absurd (.inr ⟨rfl,rfl⟩) hw⟩
        |L=>
         have:=get_ups s p us .L k
         refine⟨fun hw=> ?_,fun hw=> ?_⟩
         ·rcases hw with hw|hw
          ·rw[if_pos hw]at this;exact this
          ·cases hw.2
         ·rw[if_neg (fun e=>hw (.inl e))]at this;exact this
       ·rename_i heff
        simp only[heff,Bool.false_eq_true,if_false]at hf ⊢
        split at hd
        ·rename_i r0 hcall
         simp only[hcall]at hf ⊢
         cases hown:af.own with
         |some j=>
          simp only[hown]at hf hd ⊢
          simp at hf;subst hf
          obtain⟨s2,g1,g2,g3⟩:=own_loc (s:=s) hd (fun sp k hk=>h2 sp k (.inr hk)) (ups_len s us (inB_lt hinb (fun sp k hk=>h2 sp k (.inr (List.mem_cons_of_mem _ hk)))))
          refine⟨s2,g1,fun sp k=>⟨fun hw=> ?_,fun hw=>(g2 sp k).2 (fun e=>hw (.inl e))⟩,(fun hh=>by cases hh),fun _=>g3⟩
          rcases hw with hw|hw
          ·exact(g2 sp k).1 hw
          ·cases hw.1
         |none=>
         simp only[hown]at hf hd ⊢
         simp at hf;subst hf
         simp at hd;obtain⟨rfl,rfl⟩:=hd
         by_cases hsc:scalar r0.1=true
         ·simp only[hsc,if_true]
          refine⟨s,rfl,fun sp k=>⟨fun hw=> ?_,fun _=>rfl⟩,(fun hh=>by cases hh),fun _=>rfl⟩
          rcases hw with hw|hw
          ·simp at hw
          ·cases hw.1
         ·simp only[hsc,Bool.false_eq_true,if_false]
          refine⟨s.ups us,rfl,fun sp k=> ?_,(fun hh=>by cases hh),fun _=> ?_⟩
          ·have:=get_ups s p us sp k
           refine⟨fun hw=> ?_,fun hw=> ?_⟩
           ·rcases hw with hw|hw
            ·rw[if_pos hw]at this;exact this
            ·cases hw.1
           ·rw[if_neg (fun e=>hw (.inl e))]at this;exact this
          ·exact ups_len s us (inB_lt hinb (fun sp k hk=>h2 sp k (.inr (by simpa[hsc]using hk))))
        ·cases hd
    ·rename_i g' hfn hext
     simp only[hfn,hext]at hf ⊢
     simp at hf;subst hf
     cases hq:(mapQ (fz false fzFuel) args).run p.get p.sh.length with
     |none=>simp[hq]at hd
     |some q=>
      simp only[hq]at hd
      have hrun:(mapQ (fz false fzFuel) args).run s.get s.sh.length=some q:=by
       rw[←hq]
       refine Q.run_congr _ (fun κ hk=>h2 _ _ (.inl hk)) (fun hh=> ?_)
       rw[mapQ_asks _ _ _ (fun t=>fz_asks _ _ _ _ t)]at hh;cases hh
      rw[hrun]
      simp only[Option.map_eq_some_iff]at hd ⊢
      obtain⟨r',hg',hd⟩:=hd
      simp at hd;obtain⟨rfl,rfl⟩:=hd
      refine⟨s,⟨r',hg',rfl⟩,fun sp k=>⟨fun hw=> ?_,fun _=>rfl⟩,(fun hh=>by cases hh),fun _=>rfl⟩
      rcases hw with hw|hw
      ·simp at hw
      ·cases hw.1
    ·rename_i hfn hext
     simp only[hfn,hext]at hf
     cases hf
   ·cases hgo
  ·cases hgo
  ·rename_i hc
   simp only[hc]at hf ⊢
   rw[opQ_congr _ ao.op hrho]
   split at hgo
   ·rename_i v ups hq
    simp only[hq]at hf
    split at hf
    ·rename_i hinb
     simp at hf;subst hf
     simp only[Option.map_eq_some_iff]at hgo
     obtain⟨g,hg,rfl⟩:=hgo
     obtain⟨g2,e1,e2⟩:=putD_fr (fr2:=s.fr) hg
     have hrun:(opQ (ao.d.getD 0) p.rho ao.op).run s.get s.sh.length=some (.val v ups):=by
      rw[←hq]
      exact Q.run_congr _ (fun κ hk=>h2 _ _ (.inl hk)) (fun hh=>by rw[h3 hh])
     rw[hrun]
     refine⟨{s.ups ups with fr:=g2},by simp[e1],e2,fun sp k=> ?_, ?_⟩
     ·have:=get_ups s p ups sp k
      refine⟨fun hw=> ?_,fun hw=> ?_⟩
      ·by_cases hm:(sp,k)∈upKeys ups
       ·rw[if_pos hm]at this;exact this
       ·rcases hw with hw|hw
        ·exact absurd hw hm
        ·obtain⟨ha,rfl⟩:=hw
         have hsh:=ups_sh s p (h3 ha) ups
         show getE (s.ups ups).sh k=getE (p.ups ups).sh k
         rw[hsh]
      ·rw[if_neg (fun e=>hw (.inl e))]at this;exact this
     ·refine⟨fun ha=> ?_,fun ha=> ?_⟩
      ·have hsh:=ups_sh s p (h3 ha) ups
       show(s.ups ups).sh.length=(p.ups ups).sh.length
       rw[hsh]
      ·rw[show(opQ (ao.d.getD 0) p.rho ao.op).asks p.get p.sh.length=false from ha,Bool.false_or]at hinb
       exact ups_len s ups (inB_lt hinb (fun sp k hk=>h2 sp k (.inr hk)))
    ·cases hf
   ·cases hgo
 unfold evOper at he ⊢
 unfold operFP at hfp
 cases hgd:ao.gd with
 |none=>
  simp only[hgd]at he hfp ⊢
  exact core he hfp
 |some g=>
  obtain⟨j,want⟩:=g
  simp only[hgd]at he hfp ⊢
  have hj:getF s.fr j=getF p.fr j:=h1 j (by unfold looks;rw[hgd];simp)
  rw[hj]
  cases hgv:getF p.fr j with
  |b x=>
   simp only[hgv]at he hfp ⊢
   by_cases hxw:x=want
   ·simp only[hxw,if_true]at he hfp ⊢
    exact core he hfp
   ·simp only[hxw,if_false]at he hfp ⊢
    exact notw he (by simpa using hfp.symm)
  |_=>
   simp only[hgv]at he hfp ⊢
   exact notw he (by simpa using hfp.symm)
end Go.Ev
namespace Go.Ev
open Go
theorem mask_bit(acc:List Nat): ∀(ps:List Nat) (m0 i:Nat),(ps.foldl (fun m p=>m ||| 2 ^ p ||| getL 0 acc p) m0).testBit i=true↔m0.testBit i=true∨ ∃p∈ps,p=i∨(getL 0 acc p).testBit i=true
 | [],m0,i=>by simp
 |p::ps,m0,i=>by
  simp only[List.foldl_cons]
  rw[mask_bit acc ps]
  simp only[Nat.testBit_or,Bool.or_eq_true,Nat.testBit_two_pow,decide_eq_true_eq,List.mem_cons,exists_eq_or_imp]
  constructor
  ·rintro((((h|h)|h))|⟨q,h1,h2⟩)
   ·exact .inl h
   ·exact .inr (.inl (.inl h))
   ·exact .inr (.inl (.inr h))
   ·exact .inr (.inr ⟨q,h1,h2⟩)
  ·rintro(h|((h|h)|⟨q,h1,h2⟩))
   ·exact .inl (.inl (.inl h))
   ·exact .inl (.inl (.inr h))
   ·exact .inl (.inr h)
   ·exact .inr ⟨q,h1,h2⟩
theorem maskOf_bit(acc ps:List Nat)(i:Nat):(maskOf acc ps).testBit i=true↔ ∃p∈ps,p=i∨(getL 0 acc p).testBit i=true:=by
 unfold maskOf;rw[mask_bit];simp
theorem getL_append{α:Type}(d:α): ∀(l l':List α) (k:Nat),k<l.length→getL d (l++l') k=getL d l k
 | [],l',k,h=>by simp at h
 |x::xs,l',0,h=>rfl
 |x::xs,l',k+1,h=>by simp only[List.cons_append,getL];exact getL_append d xs l' k (by simpa using h)
theorem getL_last{α:Type}(d:α): ∀(l:List α) (x:α),getL d (l++ [x]) l.length=x
 | [],x=>rfl
 |y::ys,x=>by simp only[List.cons_append,List.length_cons,getL];exact getL_last d ys x
theorem masks_spec: ∀(pss:List (List Nat)) (acc:List Nat),(masks pss acc).length=acc.length+pss.length∧(∀k,k<acc.length→getL 0 (masks pss acc) k=getL 0 acc k)∧
  ∀j ps,pss[j]? =some ps→ ∀i,(getL 0 (masks pss acc) (acc.length+j)).testBit i=true↔ ∃p∈ps,p=i∨((if p<acc.length+j then getL 0 (masks pss acc) p else 0).testBit i=true)
 | [],acc=>by simp[masks]
 |ps::pss,acc=>by
  obtain⟨h1,h2,h3⟩:=masks_spec pss (acc++ [maskOf acc ps])
  simp only[masks]
  refine⟨by rw[h1];simp;omega,fun k hk=> ?_,fun j qs hq i=> ?_⟩
  ·rw[h2 k (by simp;omega),getL_append _ _ _ _ hk]
  ·cases j with
   |zero=>
    simp at hq;subst hq
    rw[Nat.add_zero,h2 acc.length (by simp),getL_last,maskOf_bit]
    constructor
    ·rintro⟨p,hp,e⟩
     refine⟨p,hp,e.imp id fun e=> ?_⟩
     by_cases hlt:p<acc.length
     ·rw[if_pos hlt,h2 p (by simp;omega),getL_append _ _ _ _ hlt];exact e
     ·exfalso
      have: ∀(l:List Nat) (k:Nat),l.length≤k→getL 0 l k=0:=by
       intro l
       induction l with
       |nil=>intro k _;rfl
       |cons x xs ih=>intro k hk;cases k with|zero=>simp at hk|succ k=>exact ih k (by simpa using hk)
      rw[this acc p (by omega)]at e;simp at e
    ·rintro⟨p,hp,e⟩
     refine⟨p,hp,e.imp id fun e=> ?_⟩
     by_cases hlt:p<acc.length
     ·rw[if_pos hlt,h2 p (by simp;omega),getL_append _ _ _ _ hlt]at e;exact e
     ·rw[if_neg hlt]at e;simp at e
   |succ j=>
    have:=h3 j qs (by simpa using hq) i
    rw[show(acc++ [maskOf acc ps]).length+j=acc.length+(j+1)by simp;omega]at this
    exact this
theorem edgesOk_spec: ∀(pss:List (List Nat)) (i0:Nat),edgesOk i0 pss=true→ ∀j ps,pss[j]? =some ps→ ∀p∈ps,p<i0+j
 | [],i0,h,j,ps,hj,p,hp=>by simp at hj
 |q::pss,i0,h,j,ps,hj,p,hp=>by
  simp only[edgesOk,Bool.and_eq_true,List.all_eq_true]at h
  cases j with
  |zero=>simp at hj;subst hj;simpa using h.1 p hp
  |succ j=>
   have:=edgesOk_spec pss (i0+1) h.2 j ps (by simpa using hj) p hp
   omega
theorem mem_freeOf{m:Nat}{as:List AOper}{k:Nat}{a:AOper}:(k,a)∈freeOf m as↔as[k]? =some a∧m.testBit k=false:=by
 unfold freeOf
 rw[List.mem_filter,List.mem_map]
 constructor
 ·rintro⟨⟨p,hp,e⟩,h2⟩
  simp at e;obtain⟨rfl,rfl⟩:=e
  rw[List.mem_zipIdx_iff_getElem?]at hp
  exact⟨hp,by simpa using h2⟩
 ·rintro⟨h1,h2⟩
  exact⟨⟨(a,k),List.mem_zipIdx_iff_getElem?.2 h1,rfl⟩,by simpa using h2⟩
theorem slotsOk_spec: ∀(rest before:List AOper) (ms:List Nat),slotsOk ms before rest=true→ ∀j a,rest[j]? =some a→ ∀m,ms[j]? =some m→ ∀k a',k<before.length+j→(before++rest)[k]? =some a'→m.testBit k=false→slotsApart a' a=true
 | [],before,ms,h,j,a,hj,m,hm,k,a',hk,ha,hb=>by simp at hj
 |r::rest,before,[],h,j,a,hj,m,hm,k,a',hk,ha,hb=>by simp at hm
 |r::rest,before,m0::ms,h,j,a,hj,m,hm,k,a',hk,ha,hb=>by
  simp only[slotsOk,Bool.and_eq_true,List.all_eq_true]at h
  cases j with
  |zero=>
   simp at hj hm;subst hj;subst hm
   have:before[k]? =some a':=by rw[List.getElem?_append_left (by omega)]at ha;exact ha
   exact h.1 (k,a') (mem_freeOf.2 ⟨this,hb⟩)
  |succ j=>
   exact slotsOk_spec rest (before++ [r]) ms h.2 j a (by simpa using hj) m (by simpa using hm) k a' (by simp;omega) (by simpa using ha) hb
variable{E:Env}{call:Orc}{n:Nat}
theorem draw_trace: ∀(rest before:List AOper) (ms:List Nat) (fps:List FP) (st stN:St),fps.length=before.length→ms.length=rest.length→evDraw E call n (drawList ms before rest) fps st=some stN→
  ∃(pre:Nat→St) (fp:Nat→FP),pre 0=st∧pre rest.length=stN∧ ∀j a m,rest[j]? =some a→ms[j]? =some m→evOper E call n a (pre j)=some (pre (j+1))∧operFP E call a (pre j)=some (fp j)∧
   ∀k a',k<before.length+j→(before++rest)[k]? =some a'→m.testBit k=false→quiet a.op=false→quiet a'.op=false→apart (if k<before.length then getL ⟨true,[],[]⟩ fps k else fp (k-before.length)) (fp j)=true
 | [],before,ms,fps,st,stN,hl,hm,h=>by
   cases ms with
   |cons _ _=>simp at hm
   |nil=>simp[drawList,evDraw]at h;subst h;exact⟨fun _=>st,fun _=>noFP,rfl,rfl,by simp⟩
 |r::rest,before,[],fps,st,stN,hl,hm,h=>by simp at hm
 |r::rest,before,m0::ms,fps,st,stN,hl,hm,h=>by
  simp only[drawList,evDraw]at h
  cases hf:operFP E call r st with
  |none=>simp[hf]at h
  |some fp0=>
   simp only[hf]at h
   generalize hu:(if quiet r.op=true then []else((freeOf m0 before).filter fun p=> !quiet p.2.op).map (·.1))=uno at h
   split at h
   ·rename_i hall
    cases he:evOper E call n r st with
    |none=>simp[he]at h
    |some st1=>
     simp only[he]at h
     obtain⟨pre,fp,p1,p2,p3⟩:=draw_trace rest (before++ [r]) ms (fps++ [fp0]) st1 stN (by simp[hl]) (by simpa using hm) h
     refine⟨fun j=>match j with|0=>st|j+1=>pre j,fun j=>match j with|0=>fp0|j+1=>fp j,rfl,p2,fun j a m hj hmm=> ?_⟩
     cases j with
     |zero=>
      simp at hj hmm;subst hj;subst hmm
      refine⟨by simp only;rw[he,p1],hf,fun k a' hk ha hb hq1 hq2=> ?_⟩
      have hkb:k<before.length:=by omega
      rw[if_pos hkb]
      have ha':before[k]? =some a':=by rw[List.getElem?_append_left hkb]at ha;exact ha
      rw[List.all_eq_true]at hall
      refine hall k ?_
      rw[←hu,if_neg (by rw[hq1];simp)]
      exact List.mem_map.2 ⟨(k,a'),List.mem_filter.2 ⟨mem_freeOf.2 ⟨ha',hb⟩,by simp[hq2]⟩,rfl⟩
     |succ j=>
      obtain⟨e1,e2,e3⟩:=p3 j a m (by simpa using hj) (by simpa using hmm)
      refine⟨e1,e2,fun k a' hk ha hb hq1 hq2=> ?_⟩
      have:=e3 k a' (by simp;omega) (by simpa using ha) hb hq1 hq2
      by_cases h1:k<before.length
      ·rw[if_pos h1]
       rw[if_pos (by simp;omega),getL_append _ _ _ _ (by omega)]at this
       exact this
      ·rw[if_neg h1]
       by_cases h2:k=before.length
       ·subst h2
        rw[if_pos (by simp),←hl,getL_last]at this
        simpa using this
       ·rw[if_neg (by simp;omega)]at this
        obtain⟨x,hx⟩: ∃x,k-before.length=x+1:=⟨k-before.length-1,by omega⟩
        rw[hx]
        simp only
        have hx2:k-(before++ [r]).length=x:=by simp;omega
        rw[hx2]at this
        exact this
   ·cases h
theorem quiet_fp{a:AOper}{p:St}{fp:FP}(hq:quiet a.op=true)(h:operFP E call a p=some fp):fp.all=false∧fp.r= []∧fp.w= []:=by
 obtain⟨q1,q2,q3,q4⟩:=quiet_ok (ρ:=p.rho) hq (a.d.getD 0) p.get p.sh.length
 have core:(match callOf p.rho a.op with
       |some (some c)=>callFP E call (a.d.getD 0) p c.1 c.2
       |some none=>none
       |none=>
        let q:=opQ (a.d.getD 0) p.rho a.op
        match q.run p.get p.sh.length with
        |some (.val _ ups)=>if q.asks p.get p.sh.length||inB p ups then some (⟨q.asks p.get p.sh.length,q.log p.get p.sh.length,upKeys ups⟩:FP)else none
        |none=>none)=some fp→fp.all=false∧fp.r= []∧fp.w= []:=by
  intro hh
  rw[q1]at hh
  simp only at hh
  split at hh
  ·rename_i v ups hr
   have:=q4 v ups hr;subst this
   split at hh
   ·simp at hh;subst hh;exact⟨q3,q2,rfl⟩
   ·cases hh
  ·cases hh
 unfold operFP at h
 cases hg:a.gd with
 |none=>simp only[hg]at h;exact core h
 |some g=>
  simp only[hg]at h
  split at h
  ·split at h
   ·exact core h
   ·simp at h;subst h;exact⟨rfl,rfl,rfl⟩
  ·simp at h;subst h;exact⟨rfl,rfl,rfl⟩
theorem sh_ext: ∀(a b:List Ent),(∀k,getE a k=getE b k)→a.length=b.length→a=b
 | [],[],_,_=>rfl
 | [],y::ys,_,h=>by simp at h
 |x::xs,[],_,h=>by simp at h
 |x::xs,y::ys,h,hl=>by
  have h0:x=y:=h 0
  rw[h0,sh_ext xs ys (fun k=>h (k+1)) (by simpa using hl)]
end Go.Ev
namespace Go.Ev
open Go
variable{E:Env}{call:Orc}{n:Nat}
structure Region1 (E:Env) (call:Orc) (n:Nat) (as:List AOper) (pss:List (List Nat)) (bit:Nat→Nat→Bool) (pre:Nat→St) (fp:Nat→FP):Prop where
 len:pss.length=as.length
 edges: ∀(j:Nat) (ps:List Nat),pss[j]? =some ps→ ∀p∈ps,p<j
 bits: ∀(j:Nat) (ps:List Nat),pss[j]? =some ps→ ∀i,bit j i=true↔ ∃p∈ps,p=i∨bit p i=true
 run: ∀(j:Nat) (a:AOper),as[j]? =some a→evOper E call n a (pre j)=some (pre (j+1))∧operFP E call a (pre j)=some (fp j)
 slots: ∀(j:Nat) (a:AOper) (k:Nat) (a':AOper),as[j]? =some a→as[k]? =some a'→k<j→bit j k=false→slotsApart a' a=true
 apart: ∀(j:Nat) (a:AOper) (k:Nat) (a':AOper),as[j]? =some a→as[k]? =some a'→k<j→bit j k=false→quiet a.op=false→quiet a'.op=false→Ev.apart (fp k) (fp j)=true
variable{as:List AOper}{pss:List (List Nat)}{bit:Nat→Nat→Bool}{pre:Nat→St}{fp:Nat→FP}
def Closed(pss:List (List Nat))(L:Nat→Prop):Prop:= ∀(j:Nat) (ps:List Nat),pss[j]? =some ps→L j→ ∀p∈ps,L p
theorem closed_bits(R:Region1 E call n as pss bit pre fp){L:Nat→Prop}(hc:Closed pss L): ∀(j:Nat) (ps:List Nat),pss[j]? =some ps→(∀p∈ps,L p)→ ∀i,bit j i=true→L i:=by
 intro j
 induction j using Nat.strongRecOn with
 |_ j ih=>
  intro ps hj hp i hb
  obtain⟨p,h1,h2⟩:=(R.bits j ps hj i).1 hb
  rcases h2 with rfl|h2
  ·exact hp p h1
  ·have hlt:=R.edges j ps hj p h1
   have hpl:p<pss.length:=Nat.lt_trans hlt (List.getElem?_eq_some_iff.1 hj).1
   have hps:pss[p]? =some pss[p]:=List.getElem?_eq_getElem hpl
   exact ih p hlt _ hps (hc p _ hps (hp p h1)) i h2
theorem ordered_iff(R:Region1 E call n as pss bit pre fp){L:Nat→Prop}(hc:Closed pss L){i j:Nat}(hi:i<as.length)(hj:j<as.length)(hni: ¬L i)(hpi: ∀ps,pss[i]? =some ps→ ∀p∈ps,L p)(ho:i=j∨(j<i∧bit i j=true)∨(i<j∧bit j i=true)):L j↔j<i:=by
 rcases ho with rfl|⟨h1,h2⟩|⟨h1,h2⟩
 ·exact⟨fun h=>absurd h hni,fun h=>absurd h (Nat.lt_irrefl _)⟩
 ·refine⟨fun _=>h1,fun _=> ?_⟩
  have hil:i<pss.length:=by rw[R.len];exact hi
  have hps:pss[i]? =some pss[i]:=List.getElem?_eq_getElem hil
  exact closed_bits R hc i _ hps (hpi _ hps) j h2
 ·refine⟨fun hL=>absurd ?_ hni,fun h=>by omega⟩
  have hjl:j<pss.length:=by rw[R.len];exact hj
  have hps:pss[j]? =some pss[j]:=List.getElem?_eq_getElem hjl
  exact closed_bits R hc j _ hps (hc j _ hps hL) i h2
structure Inv (as:List AOper) (pre:Nat→St) (fp:Nat→FP) (L:Nat→Prop) (s:St):Prop where
 slot: ∀t i,i≤as.length→(∀(j:Nat) (a:AOper),as[j]? =some a→a.d=some t→(L j↔j<i))→getF s.fr t=getF (pre i).fr t
 key: ∀sp k i,i≤as.length→(∀j,j<as.length→wrote (fp j) sp k→(L j↔j<i))→s.get sp k=(pre i).get sp k
 len: ∀i,i≤as.length→(∀j,j<as.length→(fp j).all=true→(L j↔j<i))→s.sh.length=(pre i).sh.length
theorem text_loc(R:Region1 E call n as pss bit pre fp){j:Nat}{a:AOper}(hj:as[j]? =some a):LocR a (fp j) (pre j) (pre (j+1)) (pre (j+1)):=by
 obtain⟨h1,h2⟩:=R.run j a hj
 obtain⟨s',e1,e2⟩:=local_ok (s:=pre j) h1 h2 (fun _ _=>rfl) (fun _ _ _=>rfl) (fun _=>rfl)
 rw[h1]at e1;simp at e1;subst e1
 exact e2
theorem pre_slot(R:Region1 E call n as pss bit pre fp)(t i:Nat): ∀i',i≤i'→i'≤as.length→(∀(j:Nat) (a:AOper),as[j]? =some a→i≤j→j<i'→a.d≠some t)→getF (pre i').fr t=getF (pre i).fr t:=by
 intro i' h1
 induction i' with
 |zero=>intro _ _;have:i=0:=by omega
        subst this;rfl
 |succ m ih=>
  intro h2 h3
  by_cases he:i=m+1
  ·subst he;rfl
  ·have hml:m<as.length:=by omega
   have ha:as[m]? =some as[m]:=List.getElem?_eq_getElem hml
   have hl:=(text_loc R ha).slot t
   rw[if_neg (h3 m _ ha (by omega) (by omega))]at hl
   rw[hl];exact ih (by omega) (by omega) (fun j a b c d=>h3 j a b c (by omega))
theorem pre_key(R:Region1 E call n as pss bit pre fp)(sp:Sp)(k i:Nat): ∀i',i≤i'→i'≤as.length→(∀j,i≤j→j<i'→ ¬wrote (fp j) sp k)→(pre i').get sp k=(pre i).get sp k:=by
 intro i' h1
 induction i' with
 |zero=>intro _ _;have:i=0:=by omega
        subst this;rfl
 |succ m ih=>
  intro h2 h3
  by_cases he:i=m+1
  ·subst he;rfl
  ·have hml:m<as.length:=by omega
   have ha:as[m]? =some as[m]:=List.getElem?_eq_getElem hml
   have hl:=((text_loc R ha).key sp k).2 (h3 m (by omega) (by omega))
   rw[hl];exact ih (by omega) (by omega) (fun j a b=>h3 j a (by omega))
theorem pre_len(R:Region1 E call n as pss bit pre fp)(i:Nat): ∀i',i≤i'→i'≤as.length→(∀j,i≤j→j<i'→(fp j).all=false)→(pre i').sh.length=(pre i).sh.length:=by
 intro i' h1
 induction i' with
 |zero=>intro _ _;have:i=0:=by omega
        subst this;rfl
 |succ m ih=>
  intro h2 h3
  by_cases he:i=m+1
  ·subst he;rfl
  ·have hml:m<as.length:=by omega
   have ha:as[m]? =some as[m]:=List.getElem?_eq_getElem hml
   have hl:=(text_loc R ha).len.2 (h3 m (by omega) (by omega))
   rw[hl];exact ih (by omega) (by omega) (fun j a b=>h3 j a (by omega))
theorem either(R:Region1 E call n as pss bit pre fp){i j:Nat}{a a':AOper}(hi:as[i]? =some a)(hj:as[j]? =some a')(hne:i≠j):
  ((j<i∧bit i j=true)∨(i<j∧bit j i=true))∨((slotsApart a a'=true∨slotsApart a' a=true)∧(quiet a.op=true∨quiet a'.op=true∨Ev.apart (fp i) (fp j)=true∨Ev.apart (fp j) (fp i)=true)):=by
 rcases Nat.lt_or_gt_of_ne hne with h|h
 ·cases hb:bit j i with
  |true=>exact .inl (.inr ⟨h,rfl⟩)
  |false=>
   refine .inr ⟨.inl (R.slots j a' i a hj hi h hb), ?_⟩
   cases h1:quiet a.op
   ·cases h2:quiet a'.op
    ·exact .inr (.inr (.inl (R.apart j a' i a hj hi h hb h2 h1)))
    ·exact .inr (.inl rfl)
   ·exact .inl rfl
 ·cases hb:bit i j with
  |true=>exact .inl (.inl ⟨h,rfl⟩)
  |false=>
   refine .inr ⟨.inr (R.slots i a j a' hi hj h hb), ?_⟩
   cases h1:quiet a.op
   ·cases h2:quiet a'.op
    ·exact .inr (.inr (.inr (R.apart i a j a' hi hj h hb h1 h2)))
    ·exact .inr (.inl rfl)
   ·exact .inl rfl
theorem slotsApart_no{x y:AOper}(h:slotsApart x y=true∨slotsApart y x=true){t:Nat}:(x.d=some t→t∉looks y∧y.d≠some t):=by
 intro hx
 rcases h with h|h
 ·unfold slotsApart at h
  rw[hx]at h
  simp at h
  exact⟨h.1.1,fun e=>h.1.2 e⟩
 ·unfold slotsApart at h
  rw[hx]at h
  simp at h
  refine⟨h.2,fun e=> ?_⟩
  rw[e]at h
  simp at h
theorem apart1_no{xs ys:List (Sp×Nat)}(h:apart1 xs ys=true){κ:Sp×Nat}(h1:κ∈xs)(h2:κ∈ys):False:=by
 unfold apart1 at h
 rw[List.all_eq_true]at h
 have:=h κ h1
 simp at this
 exact this h2
theorem noS_no{xs:List (Sp×Nat)}(h:noS xs=true){k:Nat}(h1:(Sp.S,k)∈xs):False:=by
 unfold noS at h
 rw[List.all_eq_true]at h
 have:=h _ h1
 simp at this
theorem apart_no{x y:FP}(h:Ev.apart x y=true∨Ev.apart y x=true){sp:Sp}{k:Nat}(hw:wrote y sp k):(sp,k)∉x.r∧(sp,k)∉x.w∧ ¬(x.all=true∧sp= .S):=by
 rcases h with h|h <;> unfold Ev.apart at h <;> simp only[Bool.and_eq_true,Bool.or_eq_true,Bool.not_eq_true']at h <;> obtain⟨⟨⟨⟨a1,a2⟩,a3⟩,a4⟩,a5⟩:=h
 ·rcases hw with hw|⟨hw,rfl⟩
  ·refine⟨fun e=>apart1_no a3 e hw,fun e=>apart1_no a2 e hw,fun e=> ?_⟩
   obtain⟨e1,rfl⟩:=e
   rcases a4 with a4|a4
   ·rw[e1]at a4;cases a4
   ·exact noS_no a4.2 hw
  ·rcases a5 with a5|a5
   ·rw[hw]at a5;cases a5
   ·refine⟨fun e=>noS_no a5.1 e,fun e=>noS_no a5.2 e,fun e=> ?_⟩
    rcases a4 with a4|a4
    ·rw[e.1]at a4;cases a4
    ·rw[hw]at a4;simp at a4
 ·rcases hw with hw|⟨hw,rfl⟩
  ·refine⟨fun e=>apart1_no a1 hw e,fun e=>apart1_no a2 hw e,fun e=> ?_⟩
   obtain⟨e1,rfl⟩:=e
   rcases a5 with a5|a5
   ·rw[e1]at a5;cases a5
   ·exact noS_no a5.2 hw
  ·rcases a4 with a4|a4
   ·rw[hw]at a4;cases a4
   ·refine⟨fun e=>noS_no a4.1.2 e,fun e=>noS_no a4.2 e,fun e=> ?_⟩
    rw[e.1]at a4;simp at a4
theorem step_inv(R:Region1 E call n as pss bit pre fp){L:Nat→Prop}(hc:Closed pss L){s:St}(I:Inv as pre fp L s){i:Nat}{a:AOper}(hi:as[i]? =some a)(hni: ¬L i)(hpi: ∀ps,pss[i]? =some ps→ ∀p∈ps,L p):
  ∃s',evOper E call n a s=some s'∧Inv as pre fp (fun j=>L j∨j=i) s':=by
 have hil:i<as.length:=(List.getElem?_eq_some_iff.1 hi).1
 obtain⟨r1,r2⟩:=R.run i a hi
 have ordSlot: ∀t,(t∈looks a∨a.d=some t)→ ∀(j:Nat) (a':AOper),as[j]? =some a'→a'.d=some t→(L j↔j<i):=by
  intro t ht j a' hj hd
  have hjl:=(List.getElem?_eq_some_iff.1 hj).1
  by_cases hij:i=j
  ·subst hij;exact ordered_iff R hc hil hjl hni hpi (.inl rfl)
  ·rcases either R hi hj hij with h|⟨h,_⟩
   ·exact ordered_iff R hc hil hjl hni hpi (.inr h)
   ·exfalso
    have:=slotsApart_no (Or.symm h) hd
    rcases ht with ht|ht
    ·exact this.1 ht
    ·exact this.2 ht
 have ordKey: ∀sp k,((sp,k)∈(fp i).r∨(sp,k)∈(fp i).w∨((fp i).all=true∧sp= .S))→ ∀j,j<as.length→wrote (fp j) sp k→(L j↔j<i):=by
  intro sp k ht j hjl hw
  have hj:as[j]? =some as[j]:=List.getElem?_eq_getElem hjl
  by_cases hij:i=j
  ·subst hij;exact ordered_iff R hc hil hjl hni hpi (.inl rfl)
  ·rcases either R hi hj hij with h|⟨_,h⟩
   ·exact ordered_iff R hc hil hjl hni hpi (.inr h)
   ·exfalso
    rcases h with h|h|h
    ·obtain⟨q1,q2,q3⟩:=quiet_fp h r2
     rcases ht with ht|ht|ht
     ·rw[q2]at ht;simp at ht
     ·rw[q3]at ht;simp at ht
     ·rw[q1]at ht;cases ht.1
    ·obtain⟨q1,q2,q3⟩:=quiet_fp h (R.run j _ hj).2
     rcases hw with hw|hw
     ·rw[q3]at hw;simp at hw
     ·rw[q1]at hw;cases hw.1
    ·obtain⟨z1,z2,z3⟩:=apart_no h hw
     rcases ht with ht|ht|ht
     ·exact z1 ht
     ·exact z2 ht
     ·exact z3 ht
 have ordAll:(fp i).all=true→ ∀j,j<as.length→(fp j).all=true→(L j↔j<i):=by
  intro ha j hjl hja
  exact ordKey .S 0 (.inr (.inr ⟨ha,rfl⟩)) j hjl (.inr ⟨hja,rfl⟩)
 obtain⟨s',e1,e2⟩:=local_ok (s:=s) r1 r2 (fun t ht=>I.slot t i (Nat.le_of_lt hil) (fun j a' hj hd=>ordSlot t (.inl ht) j a' hj hd))
  (fun sp k ht=>I.key sp k i (Nat.le_of_lt hil) (fun j hjl hw=>ordKey sp k (ht.elim .inl fun h=> .inr (.inl h)) j hjl hw))
  (fun ha=>sh_ext _ _ (fun k=>I.key .S k i (Nat.le_of_lt hil) (fun j hjl hw=>ordKey .S k (.inr (.inr ⟨ha,rfl⟩)) j hjl hw)) (I.len i (Nat.le_of_lt hil) (ordAll ha)))
 refine⟨s',e1,fun t i' hi' hh=> ?_,fun sp k i' hi' hh=> ?_,fun i' hi' hh=> ?_⟩
 ·rw[e2.slot t]
  split
  ·rename_i hd
   have hii:i<i':=(hh i a hi hd).1 (.inr rfl)
   rw[pre_slot R t (i+1) i' hii hi']
   intro j a' hj h1 h2 hd'
   have hL:=(hh j a' hj hd').2 h2
   have:=ordSlot t (.inr hd) j a' hj hd'
   rcases hL with hL|hL
   ·have:=this.1 hL;omega
   ·omega
  ·rename_i hd
   exact I.slot t i' hi' (fun j a' hj hd'=>by
    have:=hh j a' hj hd'
    constructor
    ·exact fun hL=>this.1 (.inl hL)
    ·intro hlt
     rcases this.2 hlt with hL|hL
     ·exact hL
     ·subst hL;rw[hi]at hj;simp at hj;subst hj;exact absurd hd' hd)
 ·by_cases hw:wrote (fp i) sp k
  ·have hii:i<i':=(hh i hil hw).1 (.inr rfl)
   rw[(e2.key sp k).1 hw,pre_key R sp k (i+1) i' hii hi']
   intro j h1 h2 hw'
   have hjl:j<as.length:=by omega
   have hL:=(hh j hjl hw').2 h2
   have:=ordKey sp k (hw.elim (fun e=> .inr (.inl e)) fun e=> .inr (.inr e)) j hjl hw'
   rcases hL with hL|hL
   ·have:=this.1 hL;omega
   ·omega
  ·rw[(e2.key sp k).2 hw]
   exact I.key sp k i' hi' (fun j hjl hw'=>by
    have:=hh j hjl hw'
    constructor
    ·exact fun hL=>this.1 (.inl hL)
    ·intro hlt
     rcases this.2 hlt with hL|hL
     ·exact hL
     ·subst hL;exact absurd hw' hw)
 ·cases ha:(fp i).all with
  |true=>
   have hii:i<i':=(hh i hil ha).1 (.inr rfl)
   rw[e2.len.1 ha,pre_len R (i+1) i' hii hi']
   intro j h1 h2
   cases hja:(fp j).all with
   |false=>rfl
   |true=>
    have hjl:j<as.length:=by omega
    have hL:=(hh j hjl hja).2 h2
    have:=ordAll ha j hjl hja
    rcases hL with hL|hL
    ·have:=this.1 hL;omega
    ·omega
  |false=>
   rw[e2.len.2 ha]
   exact I.len i' hi' (fun j hjl hja=>by
    have:=hh j hjl hja
    constructor
    ·exact fun hL=>this.1 (.inl hL)
    ·intro hlt
     rcases this.2 hlt with hL|hL
     ·exact hL
     ·subst hL;rw[ha]at hja;cases hja)
end Go.Ev
namespace Go.Ev
open Go
section
variable{P:Program}{E:Env}{call:Orc}{n:Nat}{hs:List Nat}{ops:Array Oper}
theorem compOpers_get: ∀{os:List Oper} {as:List AOper},compOpers P hs ops os=some as→as.length=os.length∧ ∀(j:Nat) (o:Oper),os[j]? =some o→ ∃a,as[j]? =some a∧compOper P hs ops o=some a
 | [],as,h=>by simp[compOpers]at h;subst h;simp
 |o::os,as,h=>by
  simp only[compOpers]at h
  split at h
  ·rename_i a as' h1 h2
   simp at h;subst h
   obtain⟨e1,e2⟩:=compOpers_get h2
   refine⟨by simp[e1],fun j o' hj=> ?_⟩
   cases j with
   |zero=>simp at hj;subst hj;exact⟨a,rfl,h1⟩
   |succ j=>obtain⟨x,y1,y2⟩:=e2 j o' (by simpa using hj);exact⟨x,by simpa using y1,y2⟩
  ·cases h
theorem ops_ok(hE:EnvOk P E)(hO:OrcOk P E call){Q:Exit→Act→World→Prop}: ∀(k i:Nat) (as:List AOper),i+k=ops.size→compOpers P hs ops (ops.toList.drop i)=some as→
  ∀{B:Base} {st st':St} {a:Act} {w:World} {β:Beta} {M:MSet},HRel B st w β M→FRel st a w β M n→evOps E call n as st=some st'→
  (∀a' w' β' M',HRel B st' w' β' M'→FRel st' a' w' β' M' n→Tr st w β M st' w' β' M'→w.heap.size≤w'.heap.size→Q .normal a' w')→wpOps P ops Q (List.range' i k) a w
 |0,i,as,hik,hc,B,st,st',a,w,β,M,h,hf,he,hq=>by
  have hd:ops.toList.drop i= []:=List.drop_eq_nil_of_le (by simp;omega)
  rw[hd]at hc
  simp[compOpers]at hc;subst hc
  simp[evOps]at he;subst he
  simp only[List.range',wpOps]
  exact hq a w β M h hf (Tr.refl _ _ _ _) (Nat.le_refl _)
 |k+1,i,as,hik,hc,B,st,st',a,w,β,M,h,hf,he,hq=>by
  have hi:i<ops.toList.length:=by simp;omega
  rw[List.drop_eq_getElem_cons hi]at hc
  simp only[compOpers]at hc
  split at hc
  ·rename_i ao as' h1 h2
   simp at hc;subst hc
   simp only[evOps]at he
   split at he
   ·rename_i st1 he1
    rw[List.range'_succ,wpOps_cons]
    refine oper_ok hE hO (o:=ops.toList[i]) (by simp at hi ⊢) h1 h hf he1 ?_
    intro a' w' β' M' r1 r2 r3 r4
    exact ops_ok hE hO k (i+1) as' (by omega) h2 r1 r2 he (fun a2 w2 β2 M2 s1 s2 s3 s4=>hq a2 w2 β2 M2 s1 s2 (r3.trans s3 r4) (Nat.le_trans r4 s4))
   ·cases he
  ·cases hc
theorem H_ext{B:Base}{s s':St}{w:World}{β:Beta}{M:MSet}(hg: ∀sp k,s'.get sp k=s.get sp k)(h:HRel B s w β M):HRel B s' w β M:=by
 have hgen:s'.gens=s.gens:=by funext sp k;show(s'.get sp k).g=_;rw[hg]
 refine⟨fun sp k=>by rw[hg,hgen];exact h.obj sp k,fun sp k sp' k' l1 l2 e=> ?_,h.mlt,fun k hl=> ?_,fun k hl=> ?_,h.os,h.tape,h.output,h.size,h.same,h.keep,h.msup⟩
 ·rw[hg]at l1 l2;rw[hgen]at e;exact h.dist sp k sp' k' l1 l2 e
 ·rw[hg]at hl;rw[hgen];exact h.lblk k hl
 ·rw[hg]at hl;rw[hgen];exact h.sblk k hl
theorem F_ext{s s':St}{a:Act}{w:World}{β:Beta}{M:MSet}(hg: ∀sp k,s'.get sp k=s.get sp k)(hf: ∀t,getF s'.fr t=getF s.fr t)(h:FRel s a w β M n):FRel s' a w β M n:=by
 have hgen:s'.gens=s.gens:=by funext sp k;show(s'.get sp k).g=_;rw[hg]
 exact⟨h.size,h.defers,fun t=>by rw[hgen,hf];exact h.slot t⟩
theorem Tr_ext{st s s':St}{w w':World}{β β':Beta}{M M':MSet}(hg: ∀sp k,s'.get sp k=s.get sp k)(h:Tr st w β M s w' β' M'):Tr st w β M s' w' β' M':=by
 have hgen:s'.gens=s.gens:=by funext sp k;show(s'.get sp k).g=_;rw[hg]
 exact⟨h.keep,h.beta,by rw[hgen];exact h.gens⟩
theorem any_ok(hE:EnvOk P E)(hO:OrcOk P E call){Q:Exit→Act→World→Prop}{as:List AOper}{bit:Nat→Nat→Bool}{pre:Nat→St}{fp:Nat→FP}(hc:compOpers P hs ops ops.toList=some as)
  (R:Region1 E call n as (ops.toList.map predsOf) bit pre fp) {B:Base} {st:St} {w:World} {β:Beta} {M:MSet}:
  ∀(fuel:Nat) (listed:Array Bool) (s:St) (a:Act) (w1:World) (β1:Beta) (M1:MSet),listed.size=ops.size→((List.range ops.size).filter fun i=> !listed.getD i true).length≤fuel→Closed (ops.toList.map predsOf) (fun j=>listed.getD j false=true)→
   Inv as pre fp (fun j=>listed.getD j false=true) s→HRel B s w1 β1 M1→FRel s a w1 β1 M1 n→Tr st w β M s w1 β1 M1→w.heap.size≤w1.heap.size→
   (∀a' w' β' M',HRel B (pre as.length) w' β' M'→FRel (pre as.length) a' w' β' M' n→Tr st w β M (pre as.length) w' β' M'→w.heap.size≤w'.heap.size→Q .normal a' w')→
   wpAny P .any ops Q fuel listed a w1:=by
 obtain⟨hlen,hget⟩:=compOpers_get hc
 have hlen':as.length=ops.size:=by simpa using hlen
 have done: ∀(listed:Array Bool) (s:St) (a:Act) (w1:World) (β1:Beta) (M1:MSet),listed.size=ops.size→Closed (ops.toList.map predsOf) (fun j=>listed.getD j false=true)→Inv as pre fp (fun j=>listed.getD j false=true) s→HRel B s w1 β1 M1→FRel s a w1 β1 M1 n→Tr st w β M s w1 β1 M1→w.heap.size≤w1.heap.size→
   (∀a' w' β' M',HRel B (pre as.length) w' β' M'→FRel (pre as.length) a' w' β' M' n→Tr st w β M (pre as.length) w' β' M'→w.heap.size≤w'.heap.size→Q .normal a' w')→Region.ready .any ops listed= []→Q .normal a w1:=by
  intro listed s a w1 β1 M1 hls hcl I h hf ht hsz hq hr
  have all: ∀j,j<ops.size→listed.getD j false=true:=by
   intro j
   induction j using Nat.strongRecOn with
   |_ j ih=>
    intro hj
    cases hb:listed.getD j false with
    |true=>rfl
    |false=>
     exfalso
     have:j∈Region.ready .any ops listed:=by
      unfold Region.ready
      rw[List.mem_filter]
      refine⟨List.mem_range.2 hj, ?_⟩
      have h1:listed.getD j true=false:=by
       have hjl:j<listed.size:=by omega
       simp[Array.getD_eq_getD_getElem?,Array.getElem?_eq_getElem hjl]at hb ⊢; exact hb
      rw[h1]
      simp only[Bool.not_false,Bool.true_and]
      have ho:ops[j]? =some ops[j]:=Array.getElem?_eq_getElem hj
      rw[ho]
      simp only[Option.map_some,Option.getD_some]
      rw[←Array.all_toList,List.all_eq_true]
      intro e he
      cases hbd:Region.binds .any e with
      |false=>rfl
      |true=>
       simp only[Bool.not_true,Bool.false_or]
       have hmem:e.on∈predsOf ops[j]:=by
        unfold predsOf
        exact List.mem_map.2 ⟨e,List.mem_filter.2 ⟨he,hbd⟩,rfl⟩
       have hpj:(ops.toList.map predsOf)[j]? =some (predsOf ops[j]):=by simp[ho]
       have hlt:=R.edges j _ hpj e.on hmem
       exact ih e.on hlt (by omega)
     rw[hr]at this;simp at this
  have cond: ∀j,j<as.length→(listed.getD j false=true↔j<as.length):=fun j hj=>⟨fun _=>hj,fun _=>all j (by omega)⟩
  have g1: ∀sp k,(pre as.length).get sp k=s.get sp k:=fun sp k=>(I.key sp k as.length (Nat.le_refl _) (fun j hj _=>cond j hj)).symm
  have g2: ∀t,getF (pre as.length).fr t=getF s.fr t:=fun t=>(I.slot t as.length (Nat.le_refl _) (fun j a hj _=>cond j (List.getElem?_eq_some_iff.1 hj).1)).symm
  exact hq a w1 β1 M1 (H_ext g1 h) (F_ext g1 g2 hf) (Tr_ext g1 ht) hsz
 intro fuel
 induction fuel with
 |zero=>
  intro listed s a w1 β1 M1 hls hcnt hcl I h hf ht hsz hq
  have hr:Region.ready .any ops listed= []:=by
   have h0:(List.range ops.size).filter (fun i=> !listed.getD i true)= []:=List.eq_nil_of_length_eq_zero (Nat.le_zero.1 hcnt)
   unfold Region.ready
   rw[List.filter_eq_nil_iff]at h0 ⊢
   intro x hx hh
   simp only[Bool.and_eq_true]at hh
   exact h0 x hx hh.1
  exact⟨hr,done listed s a w1 β1 M1 hls hcl I h hf ht hsz hq hr⟩
 |succ fuel ih=>
  intro listed s a w1 β1 M1 hls hcnt hcl I h hf ht hsz hq
  refine⟨done listed s a w1 β1 M1 hls hcl I h hf ht hsz hq,fun i hi=> ?_⟩
  unfold Region.ready at hi
  rw[List.mem_filter]at hi
  obtain⟨hir,hi2⟩:=hi
  have hil:i<ops.size:=List.mem_range.1 hir
  have ho:ops[i]? =some ops[i]:=Array.getElem?_eq_getElem hil
  rw[ho]at hi2
  simp only[Bool.and_eq_true,Bool.not_eq_true',Option.map_some,Option.getD_some]at hi2
  obtain⟨hn1,hn2⟩:=hi2
  have hils:i<listed.size:=by omega
  have hnl: ¬(listed.getD i false=true):=by
   simp[Array.getD_eq_getD_getElem?,Array.getElem?_eq_getElem hils]at hn1 ⊢; exact hn1
  have hpre: ∀ps,(ops.toList.map predsOf)[i]? =some ps→ ∀p∈ps,listed.getD p false=true:=by
   intro ps hps p hp
   simp[ho]at hps;subst hps
   unfold predsOf at hp
   obtain⟨e,he,rfl⟩:=List.mem_map.1 hp
   obtain⟨he1,he2⟩:=List.mem_filter.1 he
   rw[←Array.all_toList,List.all_eq_true]at hn2
   have:=hn2 e he1
   simpa[he2]using this
  obtain⟨ao,hao,hco⟩:=hget i ops[i] (by simp)
  obtain⟨s',he,I'⟩:=step_inv R hcl I hao hnl hpre
  refine oper_ok hE hO ho hco h hf he ?_
  intro a' w' β' M' r1 r2 r3 r4
  have hset: ∀j,(listed.setIfInBounds i true).getD j false=true↔(listed.getD j false=true∨j=i):=by
   intro j
   simp only[Array.getD_eq_getD_getElem?,Array.getElem?_setIfInBounds]
   by_cases hj:i=j
   ·subst hj;simp[hils]
   ·rw[if_neg hj]
    exact⟨.inl,fun e=>e.resolve_right (fun e=>hj e.symm)⟩
  refine ih (listed.setIfInBounds i true) s' a' w' β' M' (by simp[hls]) ?_ ?_ ?_ r1 r2 (ht.trans r3 hsz) (Nat.le_trans hsz r4) hq
  ·have hfe:(List.range ops.size).filter (fun j=> !(listed.setIfInBounds i true).getD j true)=((List.range ops.size).filter (fun j=> !listed.getD j true)).filter (fun j=>decide (j≠i)):=by
    rw[List.filter_filter]
    apply List.filter_congr
    intro j hj
    simp only[Array.getD_eq_getD_getElem?,Array.getElem?_setIfInBounds]
    by_cases hji:i=j
    ·subst hji;simp[hils]
    ·have: ¬j=i:=fun e=>hji e.symm
     rw[if_neg hji];simp[this]
   rw[hfe]
   have hlt:(((List.range ops.size).filter (fun j=> !listed.getD j true)).filter (fun j=>decide (j≠i))).length<((List.range ops.size).filter (fun j=> !listed.getD j true)).length:=by
    rw[List.length_filter_lt_length_iff_exists]
    exact⟨i,List.mem_filter.2 ⟨hir,by rw[hn1];rfl⟩,by simp⟩
   omega
  ·intro j ps hps hj p hp
   rw[hset]at hj ⊢
   rcases hj with hj|hj
   ·exact .inl (hcl j ps hps hj p hp)
   ·subst hj;exact .inl (hpre ps hps p hp)
  ·have:(fun j=>(listed.setIfInBounds i true).getD j false=true)=(fun j=>listed.getD j false=true∨j=i):=by funext j;exact propext (hset j)
   rw[this];exact I'
end
end Go.Ev
namespace Go.Ev
open Go
def exitOf:Out→Exit
 | .nrm=> .normal
 | .ext id=> .exit id
 | .ret=> .ret
section
variable{P:Program}{E:Env}{call:Orc}{n:Nat}{hs:List Nat}
theorem getL_get{l:List Nat}{j:Nat}(h:j<l.length):l[j]? =some (getL 0 l j):=by
 induction l generalizing j with
 |nil=>simp at h
 |cons x xs ih=>
  cases j with
  |zero=>rfl
  |succ j=>simp only[getL];simpa using ih (by simpa using h)
theorem draws_ok(hE:EnvOk P E)(hO:OrcOk P E call)(hm:P.follows .mixedOrders=true){id:Nat}{ops:Array Oper}{as:List AOper}(hc:compOpers P hs ops ops.toList=some as)(he1:edgesOk 0 (ops.toList.map predsOf)=true)(he2:slotsOk (masks (ops.toList.map predsOf) []) [] as=true)
  {B:Base} {st st':St} {a:Act} {w:World} {β:Beta} {M:MSet} (h:HRel B st w β M) (hf:FRel st a w β M n) (hev:evDraw E call n (drawList (masks (ops.toList.map predsOf) []) [] as) [] st=some st') {Q:Exit→Act→World→Prop}
  (hq: ∀a' w' β' M',HRel B st' w' β' M'→FRel st' a' w' β' M' n→Tr st w β M st' w' β' M'→w.heap.size≤w'.heap.size→Q .normal a' w'):(Code.region id ops true).wp P Q a w:=by
 obtain⟨hlen,hget⟩:=compOpers_get hc
 obtain⟨m1,m2,m3⟩:=masks_spec (ops.toList.map predsOf) []
 have hml:(masks (ops.toList.map predsOf) []).length=as.length:=by rw[m1,hlen];simp
 obtain⟨pre,fp,p1,p2,p3⟩:=draw_trace as [] _ [] st st' rfl hml hev
 have hmj: ∀j,j<as.length→(masks (ops.toList.map predsOf) [])[j]? =some (getL 0 (masks (ops.toList.map predsOf) []) j):=fun j hj=>getL_get (by rw[hml];exact hj)
 have hed:=edgesOk_spec _ 0 he1
 have R:Region1 E call n as (ops.toList.map predsOf) (fun j i=>(getL 0 (masks (ops.toList.map predsOf) []) j).testBit i) pre fp:=by
  refine⟨by rw[hlen];simp,fun j ps hj p hp=>by have:=hed j ps hj p hp;omega,fun j ps hj i=> ?_,fun j a' hj=> ?_,fun j a1 k a2 hj hk hlt hb=> ?_,fun j a1 k a2 hj hk hlt hb hq1 hq2=> ?_⟩
  ·have:=m3 j ps hj i
   simp only[List.length_nil,Nat.zero_add]at this
   rw[this]
   constructor
   ·rintro⟨p,hp,e⟩
    refine⟨p,hp,e.imp (fun x=>x) fun e=> ?_⟩
    rw[if_pos (by have:=hed j ps hj p hp;omega)]at e;exact e
   ·rintro⟨p,hp,e⟩
    refine⟨p,hp,e.imp (fun x=>x) fun e=> ?_⟩
    rw[if_pos (by have:=hed j ps hj p hp;omega)];exact e
  ·obtain⟨e1,e2,_⟩:=p3 j a' _ hj (hmj j (List.getElem?_eq_some_iff.1 hj).1)
   exact⟨e1,e2⟩
  ·exact slotsOk_spec as [] _ he2 j a1 hj _ (hmj j (List.getElem?_eq_some_iff.1 hj).1) k a2 (by simpa using hlt) (by simpa using hk) hb
  ·obtain⟨_,_,e3⟩:=p3 j a1 _ hj (hmj j (List.getElem?_eq_some_iff.1 hj).1)
   have:=e3 k a2 (by simpa using hlt) (by simpa using hk) hb hq1 hq2
   simpa using this
 obtain⟨d1,d2⟩:=H_drawn h (w.drawn+1)
 refine wp_region_any hm ?_
 have hrep: ∀j,((Array.replicate ops.size false).getD j false=true)↔False:=by
  intro j
  simp only[Array.getD_eq_getD_getElem?,Array.getElem?_replicate]
  split <;> simp
 have hI:Inv as pre fp (fun j=>(Array.replicate ops.size false).getD j false=true) st:=by
  have hfun:(fun j=>(Array.replicate ops.size false).getD j false=true)=fun _=>False:=by funext j;exact propext (hrep j)
  rw[hfun]
  refine⟨fun t i hi hh=> ?_,fun sp k i hi hh=> ?_,fun i hi hh=> ?_⟩
  ·rw[pre_slot R t 0 i (Nat.zero_le _) hi (fun j a' hj _ hlt hd=>(hh j a' hj hd).2 hlt),p1]
  ·rw[pre_key R sp k 0 i (Nat.zero_le _) hi (fun j _ hlt hw=>(hh j (by omega) hw).2 hlt),p1]
  ·rw[pre_len R 0 i (Nat.zero_le _) hi (fun j _ hlt=>by
    cases hal:(fp j).all with
    |false=>rfl
    |true=>exact((hh j (by omega) hal).2 hlt).elim),p1]
 refine any_ok (st:=st) (w:=w) (β:=β) (M:=M) hE hO hc R ops.size _ st a _ β M (by simp) ?_ ?_ hI d1 ⟨hf.size,hf.defers,fun t=>d2.val (hf.slot t)⟩ d2 (Nat.le_refl _) ?_
 ·exact Nat.le_trans (List.length_filter_le _ _) (by simp)
 ·intro j ps _ hj
  exact((hrep j).1 hj).elim
 ·intro a' w' β' M' r1 r2 r3 r4
  rw[p2]at r1 r2 r3
  exact hq a' w' β' M' r1 r2 r3 r4
theorem evC_ok(hE:EnvOk P E)(hO:OrcOk P E call)(hm:P.follows .mixedOrders=true)(fl:Nat): ∀(c:Code) (ac:ACode),compC P hs c=some ac→
  ∀{B:Base} {st st':St} {a:Act} {w:World} {β:Beta} {M:MSet} {o:Out},HRel B st w β M→FRel st a w β M n→evC E call fl n ac st=some (o,st')→ ∀{Q:Exit→Act→World→Prop},
  (∀a' w' β' M',HRel B st' w' β' M'→FRel st' a' w' β' M' n→Tr st w β M st' w' β' M'→w.heap.size≤w'.heap.size→Q (exitOf o) a' w')→c.wp P Q a w:=by
 intro c
 induction c with
 |skip=>
  intro ac hc B st st' a w β M o h hf he Q hq
  simp[compC]at hc;subst hc
  simp[evC]at he;obtain⟨rfl,rfl⟩:=he
  exact wp_skip (hq a w β M h hf (Tr.refl _ _ _ _) (Nat.le_refl _))
 |region id ops draw=>
  intro ac hc B st st' a w β M o h hf he Q hq
  cases draw with
  |false=>
   simp only[compC,Option.map_eq_some_iff]at hc
   obtain⟨as,h1,rfl⟩:=hc
   simp only[evC,Option.map_eq_some_iff]at he
   obtain⟨st1,h2,h3⟩:=he
   simp at h3;obtain⟨rfl,rfl⟩:=h3
   refine wp_region ?_
   rw[List.range_eq_range']
   exact ops_ok hE hO ops.size 0 as (by omega) (by simpa using h1) h hf h2 hq
  |true=>
   simp only[compC]at hc
   split at hc
   ·rename_i as h1
    split at hc
    ·rename_i hcc
     simp only[Bool.and_eq_true]at hcc
     simp at hc;subst hc
     simp only[evC,Option.map_eq_some_iff]at he
     obtain⟨st1,h2,h3⟩:=he
     simp at h3;obtain⟨rfl,rfl⟩:=h3
     exact draws_ok hE hO hm h1 hcc.1 hcc.2 h hf h2 hq
    ·cases hc
   ·cases hc
 |seq x y ihx ihy=>
  intro ac hc B st st' a w β M o h hf he Q hq
  simp only[compC]at hc
  split at hc
  ·rename_i ax ay h1 h2
   simp at hc;subst hc
   simp only[evC]at he
   refine wp_seq ?_
   cases hx:evC E call fl n ax st with
   |none=>simp[hx]at he
   |some p=>
    obtain⟨ox,st1⟩:=p
    cases ox with
    |nrm=>
     simp only[hx]at he
     refine ihx ax h1 h hf hx ?_
     intro a' w' β' M' r1 r2 r3 r4
     exact ihy ay h2 r1 r2 he (fun a2 w2 β2 M2 s1 s2 s3 s4=>hq a2 w2 β2 M2 s1 s2 (r3.trans s3 r4) (Nat.le_trans r4 s4))
    |ext id=>
     simp[hx]at he;obtain⟨rfl,rfl⟩:=he
     exact ihx ax h1 h hf hx hq
    |ret=>
     simp[hx]at he;obtain⟨rfl,rfl⟩:=he
     exact ihx ax h1 h hf hx hq
  ·cases hc
 |cond c x y ihx ihy=>
  intro ac hc B st st' a w β M o h hf he Q hq
  simp only[compC]at hc
  split at hc
  ·rename_i c' ax ay h0 h1 h2
   simp at hc;subst hc
   simp only[evC]at he
   have vc:=rho_ok hf c c' h0
   split at he
   ·rename_i e
    rw[e]at vc
    exact wp_cond_true vc.bool (ihx ax h1 h hf he hq)
   ·rename_i e
    rw[e]at vc
    exact wp_cond_false vc.bool (ihy ay h2 h hf he hq)
   ·cases he
  ·cases hc
 |block id x ih=>
  intro ac hc B st st' a w β M o h hf he Q hq
  simp only[compC,Option.map_eq_some_iff]at hc
  obtain⟨ax,h1,rfl⟩:=hc
  simp only[evC]at he
  refine wp_block ?_
  cases hx:evC E call fl n ax st with
  |none=>simp[hx]at he
  |some p=>
   obtain⟨ox,st1⟩:=p
   cases ox with
   |nrm=>simp[hx]at he;obtain⟨rfl,rfl⟩:=he;exact ih ax h1 h hf hx hq
   |ret=>simp[hx]at he;obtain⟨rfl,rfl⟩:=he;exact ih ax h1 h hf hx hq
   |ext id'=>
    simp only[hx]at he
    by_cases hid:id'=id
    ·simp only[hid,if_true,Option.some.injEq,Prod.mk.injEq]at he
     obtain⟨rfl,rfl⟩:=he
     refine ih ax h1 h hf hx ?_
     intro a' w' β' M' r1 r2 r3 r4
     show Exit.inBlock id Q (.exit id') a' w'
     simp only[Exit.inBlock,hid,if_true]
     exact hq a' w' β' M' r1 r2 r3 r4
    ·simp only[hid,if_false,Option.some.injEq,Prod.mk.injEq]at he
     obtain⟨rfl,rfl⟩:=he
     refine ih ax h1 h hf hx ?_
     intro a' w' β' M' r1 r2 r3 r4
     show Exit.inBlock id Q (.exit id') a' w'
     simp only[Exit.inBlock,hid,if_false]
     exact hq a' w' β' M' r1 r2 r3 r4
 |loop x ih=>
  intro ac hc B st st' a w β M o h hf he Q hq
  simp only[compC,Option.map_eq_some_iff]at hc
  obtain⟨ax,h1,rfl⟩:=hc
  simp only[evC]at he
  have key: ∀(m:Nat) (st1:St) (a1:Act) (w1:World) (β1:Beta) (M1:MSet),HRel B st1 w1 β1 M1→FRel st1 a1 w1 β1 M1 n→Tr st w β M st1 w1 β1 M1→w.heap.size≤w1.heap.size→iter (evC E call fl n ax) m st1=some (o,st')→Code.rounds P x Q m a1 w1:=by
   intro m
   induction m with
   |zero=>intro st1 a1 w1 β1 M1 _ _ _ _ hi;simp[iter]at hi
   |succ m ihm=>
    intro st1 a1 w1 β1 M1 g1 g2 g3 g4 hi
    rw[rounds_succ]
    simp only[iter]at hi
    cases hx:evC E call fl n ax st1 with
    |none=>simp[hx]at hi
    |some p=>
     obtain⟨ox,st2⟩:=p
     cases ox with
     |nrm=>
      simp only[hx]at hi
      refine ih ax h1 g1 g2 hx ?_
      intro a' w' β' M' r1 r2 r3 r4
      exact ihm st2 a' w' β' M' r1 r2 (g3.trans r3 g4) (Nat.le_trans g4 r4) hi
     |ext id=>
      simp[hx]at hi;obtain⟨rfl,rfl⟩:=hi
      refine ih ax h1 g1 g2 hx ?_
      intro a' w' β' M' r1 r2 r3 r4
      exact hq a' w' β' M' r1 r2 (g3.trans r3 g4) (Nat.le_trans g4 r4)
     |ret=>
      simp[hx]at hi;obtain⟨rfl,rfl⟩:=hi
      refine ih ax h1 g1 g2 hx ?_
      intro a' w' β' M' r1 r2 r3 r4
      exact hq a' w' β' M' r1 r2 (g3.trans r3 g4) (Nat.le_trans g4 r4)
  exact wp_loop_rounds fl (key fl st a w β M h hf (Tr.refl _ _ _ _) (Nat.le_refl _) he)
 |exit id=>
  intro ac hc B st st' a w β M o h hf he Q hq
  simp[compC]at hc;subst hc
  simp[evC]at he;obtain⟨rfl,rfl⟩:=he
  exact wp_exit (hq a w β M h hf (Tr.refl _ _ _ _) (Nat.le_refl _))
 |ret=>
  intro ac hc B st st' a w β M o h hf he Q hq
  simp[compC]at hc;subst hc
  simp[evC]at he;obtain⟨rfl,rfl⟩:=he
  exact wp_ret (hq a w β M h hf (Tr.refl _ _ _ _) (Nat.le_refl _))
 |rangeFunc _ _ _ _=>intro ac hc;simp[compC]at hc
 |scope _=>intro ac hc;simp[compC]at hc
 |label _=>intro ac hc;simp[compC]at hc
 |goto _=>intro ac hc;simp[compC]at hc
 |refuse _=>intro ac hc;simp[compC]at hc
end
end Go.Ev
namespace Go.Ev
open Go
section
variable{P:Program}{E:Env}{n:Nat}
def resOne(ts:Array Value)(r:ResultVar):Sem Value:=
 match r with
 | .tmp t=>pure (ts.getD t undef)
 | .cell ad t=>do loadVar t (←asAddr (ts.getD ad undef))
theorem results_eq(fn:Func)(ts:Array Value):results fn ts=(do
  let vs ←(List.toArray <$> fn.results.toList.mapM (resOne ts))
  pure (if h:vs.size=1 then vs[0]else .tuple vs)):=by
 unfold results
 rw[Array.mapM_eq_mapM_toList]
 congr 2
theorem results_ok{B:Base}{st:St}{a:Act}{w:World}{β:Beta}{M:MSet}(h:HRel B st w β M)(hf:FRel st a w β M n): ∀(rs:List ResultVar) (ars:List ARes) (vs:List T),compRes P rs=some ars→resAll st ars=some vs→
  ∃cvs:List Value,(rs.mapM (resOne a.tmps)).run P w=Result.ok cvs w∧VList β st.gens w M vs cvs
 | [],ars,vs,hc,hr=>by
   simp[compRes]at hc;subst hc
   simp[resAll]at hr;subst hr
   exact⟨[],by simp,by simp[VList]⟩
 | .tmp t::rs,ars,vs,hc,hr=>by
   simp only[compRes,Option.map_eq_some_iff]at hc
   obtain⟨ars',h1,rfl⟩:=hc
   simp only[resAll,resAt]at hr
   split at hr
   ·rename_i v vs' e1 e2
    simp at hr e1;subst hr;subst e1
    obtain⟨cvs,r1,r2⟩:=results_ok h hf rs ars' vs' h1 e2
    refine⟨a.tmps.getD t undef::cvs, ?_, ?_⟩
    ·rw[List.mapM_cons]
     simp only[resOne,Sem.run_bind,Sem.run_pure,Result.andThen_ok,r1]
    ·simp only[VList];exact⟨_,_,rfl,hf.slot t,r2⟩
   ·cases hr
 | .cell ad t::rs,ars,vs,hc,hr=>by
   simp only[compRes]at hc
   split at hc
   ·rename_i sz ag ars' h1 h2 h3
    simp at hc;subst hc
    simp only[resAll,resAt]at hr
    split at hr
    ·rename_i v vs' e1 e2
     simp at hr;subst hr
     obtain⟨cvs,r1,r2⟩:=results_ok h hf rs ars' vs' h3 e2
     obtain⟨ad',cv,q1,q2,q3⟩:=ldAt_run (P:=P) h h1 h2 (hf.slot ad) e1
     refine⟨cv::cvs, ?_, ?_⟩
     ·rw[List.mapM_cons]
      simp only[resOne,Sem.run_bind,q1,asAddr,Sem.run_pure,Result.andThen_ok,q2,r1]
     ·simp only[VList];exact⟨_,_,rfl,q3,r2⟩
    ·cases hr
   ·cases hc
theorem args_slot{β:Beta}{G:Sp→Nat→Nat}{w:World}{M:MSet}{args:List T}{cargs:Array Value}(hl:VList β G w M args cargs.toList)(k:Nat)(t:Nat):VRel β G w M (getF (frOf args) t) ((cargs++Array.replicate k undef).getD t undef):=by
 have hlen:=VList.length _ _ hl
 by_cases ht:t<args.length
 ·have hg:args[t]? =some args[t]:=List.getElem?_eq_getElem ht
  obtain⟨cv,c1,c2⟩:=hl.get hg
  have e1:getF (frOf args) t=args[t]:=by
   rw[getF_frOf]
   have: ∀(l:List T) (j:Nat) (hj:j<l.length),getL undefT l j=l[j]:=by
    intro l
    induction l with
    |nil=>intro j hj;simp at hj
    |cons x xs ih=>intro j hj;cases j with|zero=>rfl|succ j=>exact ih j (by simpa using hj)
   exact this args t ht
  have c1':cargs[t]? =some cv:=by simpa using c1
  have hts:t<cargs.size:=by simp at hlen;omega
  have e2:(cargs++Array.replicate k undef).getD t undef=cv:=by
   rw[Array.getD_eq_getD_getElem?,Array.getElem?_append_left hts,c1'];rfl
  rw[e1,e2];exact c2
 ·have e1:getF (frOf args) t=undefT:=by
   rw[getF_frOf]
   have: ∀(l:List T) (j:Nat),l.length≤j→getL undefT l j=undefT:=by
    intro l
    induction l with
    |nil=>intro j _;rfl
    |cons x xs ih=>intro j hj;cases j with|zero=>simp at hj|succ j=>exact ih j (by simpa using hj)
   exact this args t (by omega)
  have e2:(cargs++Array.replicate k undef).getD t undef=undef:=by
   rw[Array.getD_eq_getD_getElem?,Array.getElem?_append_right (by simp at hlen;omega),Array.getElem?_replicate]
   split <;> rfl
  rw[e1,e2]
  simp[VRel,undefT,undef,VList]
def pack:List T→T
 | [v]=>v
 |vs=> .tup vs
theorem fz_nil{keep:Bool}{n:Nat}:fz keep (n+1) .nilsl= .ret (.nilsl,[]):=rfl
theorem mapQ_get{f:T→Q (T×List Up)}{h:Sp→Nat→Ent}{nx:Nat}(hf:f .nilsl= .ret (.nilsl,[])): ∀(ts:List T) {j:Nat} {q:List T×List Up},(mapQ f ts).run h nx=some q→ts[j]? =some .nilsl→q.1[j]? =some .nilsl
 | [],j,q,_,hj=>by simp at hj
 |t::ts,j,q,hq,hj=>by
  simp only[mapQ,Q.run_bind]at hq
  cases h1:(f t).run h nx with
  |none=>simp[h1]at hq
  |some p=>
   simp only[h1,Option.bind_some]at hq
   cases h2:(mapQ f ts).run h nx with
   |none=>simp[h2]at hq
   |some q2=>
    simp only[h2,Option.bind_some,Q.run,Option.some.injEq]at hq
    subst hq
    cases j with
    |zero=>
     simp at hj;subst hj
     rw[hf]at h1;simp[Q.run]at h1;subst h1;rfl
    |succ j=>simpa using mapQ_get hf ts h2 (by simpa using hj)
theorem fz_comp{r t:T}{us:List Up}{h:Sp→Nat→Ent}{nx j:Nat}(hz:(fz false fzFuel r).run h nx=some (t,us))(hc:compAt r j=some .nilsl):compAt t j=some .nilsl:=by
 cases r
 case tup vs=>
  have hz:((mapQ (fz false 7) vs).bind fun q=>Q.ret (T.tup q.1,q.2)).run h nx=some (t,us):=hz
  rw[Q.run_bind]at hz
  cases h1:(mapQ (fz false 7) vs).run h nx with
  |none=>simp[h1]at hz
  |some q=>
   simp only[h1,Option.bind_some,Q.run,Option.some.injEq,Prod.mk.injEq]at hz
   obtain⟨rfl,rfl⟩:=hz
   exact mapQ_get fz_nil vs h1 hc
 case agg vs=>
  have hz:((mapQ (fz false 7) vs).bind fun q=>Q.ret (T.agg q.1,q.2)).run h nx=some (t,us):=hz
  rw[Q.run_bind]at hz
  cases h1:(mapQ (fz false 7) vs).run h nx with
  |none=>simp[h1]at hz
  |some q=>
   simp only[h1,Option.bind_some,Q.run,Option.some.injEq,Prod.mk.injEq]at hz
   obtain⟨rfl,rfl⟩:=hz
   exact mapQ_get fz_nil vs h1 hc
 all_goals
  simp only[compAt,Option.some.injEq]at hc
  try (cases hc;done)
 simp[fzFuel,fz,Q.run]at hz
 obtain⟨rfl,rfl⟩:=hz
 rfl
theorem callF_core(hE:EnvOk P E)(hm:P.follows .mixedOrders=true){m:Nat}(hO:OrcOk P E (callF E m)){f:Nat}{af:AFunc}{args:List T}{sh:List Ent}{r:T}{sh':List Ent}(hfn:E.fn f=some af)(hcall:callF E (m+1) f args sh=some (r,sh'))
  {w:World} {β:Beta} {M:MSet} {cargs:Array Value} (hbase:HRel ⟨w,M,sBlocks sh β⟩ (bare .nil sh) w β M) (hV0:VList β (bare .nil sh).gens w M args cargs.toList) {Q:Ending→World→Prop}
  (hQ: ∀st1 vs w' β' M' v,HRel ⟨w,M,sBlocks sh β⟩ st1 w' β' M'→answerF af.own af.eff vs st1=some (r,sh')→VRel β' st1.gens w' M' (pack vs) v→Tr (bare (frOf args) sh) w β M st1 w' β' M'→Q (.returned v) w'):Calls P f cargs w Q:=by
  obtain⟨hs,fn,hf,hcf⟩:=hE.1 f af hfn
  simp only[callF,hfn]at hcall
  split at hcall
  ·cases hcall
  ·rename_i hlen
   unfold compF at hcf
   split at hcf
   ·cases hcf
   ·split at hcf
    ·cases hcf
    ·rename_i code hbody
     split at hcf
     ·rename_i ac ars h1 h2
      simp at hcf
      have hV:VList β (bare (frOf args) sh).gens w M args cargs.toList:=hV0
      have hcl:=VList.length _ _ hV
      have hn:fn.ntmps=af.n:=by rw[←hcf]
      have hcode:af.code=ac:=by rw[←hcf]
      have hres:af.res=ars:=by rw[←hcf]
      rw[hcode]at hcall
      cases hev:evC E (callF E m) m af.n ac {fr:=frOf args,lh:= .nil,sh}with
      |none=>simp[hev]at hcall
      |some p=>
       obtain⟨o,st1⟩:=p
       have hout:o≠ .nrm→o≠ .ret→False:=by
        intro n1 n2
        cases o with
        |nrm=>exact n1 rfl
        |ret=>exact n2 rfl
        |ext id=>simp[hev]at hcall
       have hcall2: ∃vs,resAll st1 af.res=some vs∧answerF af.own af.eff vs st1=some (r,sh'):=by
        cases o with
        |nrm=>
         simp only[hev]at hcall
         split at hcall
         ·rename_i vs hv
          exact⟨vs,hv,hcall⟩
         ·cases hcall
        |ret=>
         simp only[hev]at hcall
         split at hcall
         ·rename_i vs hv
          exact⟨vs,hv,hcall⟩
         ·cases hcall
        |ext id=>exact(hout (by simp) (by simp)).elim
       obtain⟨vs0,hra0,hcall2⟩:=hcall2
       have hF:FRel (bare (frOf args) sh) {tmps:=cargs++Array.replicate (fn.ntmps-cargs.size) undef,defers:= []} w β M af.n:=by
        refine⟨by simp at hcl ⊢; omega,rfl,fun t=>args_slot hV _ t⟩
       refine calls_of_wp hf hbody ?_
       refine evC_ok (n:=af.n) hE hO hm m code ac h1 (B:=⟨w,M,sBlocks sh β⟩) (st:=bare (frOf args) sh) (H_fr hbase (frOf args)) hF hev ?_
       intro a' w' β' M' r1 r2 r3 r4
       have post:a'.defers= []∧ ∃v,(results fn a'.tmps).run P w'= .ok v w'∧Q (.returned v) w':=by
        refine⟨r2.defers, ?_⟩
        have hra:=hra0
        rw[hres]at hra
        obtain⟨cvs,q1,q2⟩:=results_ok (P:=P) r1 r2 fn.results.toList ars vs0 h2 hra
        have hres1:(results fn a'.tmps).run P w'= .ok (if hh:cvs.toArray.size=1 then cvs.toArray[0]else .tuple cvs.toArray) w':=by
         rw[results_eq]
         simp only[Sem.run_bind,Sem.run_map,q1,Result.andThen_ok,Sem.run_pure]
        have hvrel:VRel β' st1.gens w' M' (pack vs0) (if hh:cvs.toArray.size=1 then cvs.toArray[0]else .tuple cvs.toArray):=by
         have hl2:=VList.length _ _ q2
         cases vs0 with
         |nil=>
          simp only[VList]at q2;subst q2
          simp[pack,VRel,VList]
         |cons v vs=>
          cases vs with
          |nil=>
           simp only[VList]at q2
           obtain⟨u,us,rfl,k1,rfl⟩:=q2
           simpa[pack]using k1
          |cons v2 vs=>
           have:cvs.toArray.size≠1:=by simp at hl2 ⊢; omega
           rw[dif_neg this]
           simp only[pack,VRel]
           exact⟨_,rfl,by simpa using q2⟩
        exact⟨_,hres1,hQ st1 vs0 w' β' M' _ r1 hcall2 hvrel r3⟩
       cases o with
       |nrm=>exact post
       |ret=>exact post
       |ext id=>exact(hout (by simp) (by simp)).elim
     ·cases hcf
theorem answer_pack(eff:Bool)(vs:List T)(st:St):answer eff vs st=match(fz eff fzFuel (pack vs)).run st.get st.sh.length with
 |some p=>some (p.1,(st.ups p.2).sh)
 |none=>none:=by
 cases vs with
 |nil=>rfl
 |cons v vs=>cases vs <;> rfl
theorem answerO_pack(j:Nat)(vs:List T)(st:St):answerO j vs st=match compAt (pack vs) j with
 |some .nilsl=>answer false vs st
 |some (.isl .L k g 0 len sz)=>
  (match(fz false fzFuel (compSet (pack vs) j .nilsl)).run st.get st.sh.length with
  |some p=>(match(st.ups p.2).get .L k with
   |⟨g',.cells cs wm false⟩=>if g'=g∧cs.length=len*sz∧len≠0∧(wm=0∨scalar (compSet p.1 j .nilsl)=true)then some (compSet p.1 j (.sl cs len false),(st.ups p.2).sh)else none
   |_=>none)
  |none=>none)
 |_=>none:=by
 cases vs with
 |nil=>rfl
 |cons v vs=>cases vs <;> rfl
theorem answer_ok{B:Base}{st1:St}{vs:List T}{w':World}{β':Beta}{M':MSet}{v:Value}{eff:Bool}{r:T}{sh':List Ent}(r1:HRel B st1 w' β' M')(ha:answer eff vs st1=some (r,sh'))(hvrel:VRel β' st1.gens w' M' (pack vs) v):
  ∃M2 us,HRel B (st1.ups us) w' β' M2∧(st1.ups us).gens=st1.gens∧sh'=(st1.ups us).sh∧XRel eff β' st1.gens w' M2 r v:=by
 rw[answer_pack]at ha
 split at ha
 ·rename_i p hz
  obtain⟨t',us⟩:=p
  simp at ha
  obtain⟨rfl,rfl⟩:=ha
  obtain⟨M2,z1,z2,z3,z4,z5⟩:=fz_ok eff st1 fzFuel _ _ st1 w' β' M' _ t' us _ (Fz.refl st1) r1 hvrel hz
  exact⟨M2,us,z1,z2.gens,rfl,z4⟩
 ·cases ha
theorem callF_ok(hE:EnvOk P E)(hm:P.follows .mixedOrders=true): ∀m,OrcOk P E (callF E m)
 |0=>by
  intro f af args sh r sh' hfn hc
  simp[callF]at hc
 |m+1=>by
  have hO:=callF_ok hE hm m
  intro f af args sh r sh' hfn hcall
  refine⟨fun hown=> ?_,fun j hown=> ?_⟩
  ·intro w β M cargs hbase hargs
   refine callF_core hE hm hO hfn hcall hbase (XList.toV hargs) ?_
   intro st1 vs w' β' M' v r1 ha hv r3
   rw[hown]at ha
   obtain⟨M2,us,z1,z2,rfl,z4⟩:=answer_ok r1 ha hv
   refine⟨v,β',M2,rfl,H_drop z1 .nil,fun k g hg=>r3.beta .S k g hg,fun k=> ?_, ?_⟩
   ·have e1:(getE (st1.ups us).sh k).g=(st1.ups us).gens .S k:=rfl
    rw[e1,z2]
    exact r3.gens .S k
   ·have hg2: ∀k,(bare .nil (st1.ups us).sh).gens .S k=st1.gens .S k:=by
     intro k
     have e1:(bare .nil (st1.ups us).sh).gens .S k=(st1.ups us).gens .S k:=rfl
     rw[e1,z2]
    cases heff:af.eff with
    |false=>rw[heff]at z4;exact z4
    |true=>
     rw[heff]at z4
     intro b g p q
     exact z4 b g (fun k x hx=>p k x (by rw[hg2];exact hx)) (fun k=>by rw[←hg2];exact q k)
  ·have heff:af.eff=false:=by
    cases he:af.eff with
    |false=>rfl
    |true=>
     exfalso
     simp only[callF,hfn]at hcall
     split at hcall
     ·cases hcall
     ·split at hcall
      ·cases hcall
      ·split at hcall
       ·simp[answerF,hown,he]at hcall
       ·cases hcall
      ·cases hcall
   refine⟨heff, ?_⟩
   intro w β M cargs hbase hargs
   refine callF_core hE hm hO hfn hcall hbase (XList.toV hargs) ?_
   intro st1 vs w' β' M' v r1 ha hv r3
   rw[hown,heff]at ha
   have ha:answerO j vs st1=some (r,sh'):=by simpa[answerF]using ha
   rw[answerO_pack]at ha
   split at ha
   ·rename_i hc
    obtain⟨M2,us,z1,z2,rfl,z4⟩:=answer_ok r1 ha hv
    refine⟨v,β',M2,rfl,H_drop z1 .nil,.inl ⟨?_,z4⟩⟩
    rw[answer_pack]at ha
    split at ha
    ·rename_i p hz
     simp at ha
     obtain⟨rfl,_⟩:=ha
     exact fz_comp hz hc
    ·cases ha
   ·rename_i k g len sz hc
    split at ha
    ·rename_i p hz
     obtain⟨t',us⟩:=p
     have hn:VRel β' st1.gens w' M' .nilsl nilV:=by simp only[VRel]
     obtain⟨⟨x,hx,hvx⟩,hv2⟩:=comp_out hv hc hn rfl
     obtain⟨M2,z1,z2,z3,z4,z5⟩:=fz_ok false st1 fzFuel _ _ st1 w' β' M' _ t' us _ (Fz.refl st1) r1 hv2 hz
     dsimp only at ha
     split at ha
     ·rename_i g' cs wm hent
      split at ha
      ·rename_i hcs
       obtain⟨rfl,hcl,hl0,hwm⟩:=hcs
       simp at ha
       obtain⟨rfl,rfl⟩:=ha
       simp only[VRel]at hvx
       obtain⟨hgle,cap,rfl,hlc,hcx⟩:=hvx
       have ho:=z1.obj .L k
       rw[hent]at ho
       unfold ORel at ho
       obtain⟨c,el,fzz,o1,o2,o3,o4,o5,o6,o7,o8⟩:=ho
       dsimp only at o1 o2 o3 o4 o5 o6
       subst o4
       have hfix:=fun(b:Beta) (G:Sp→Nat→Nat)=>comp_fix (cs:=cs) (len:=len) (ex:=false) (PRel.toV b G _ _ z4) hx
       have hlive:live ((st1.ups us).get .L k):=by rw[hent];trivial
       have hgen:(st1.ups us).gens .L k=g':=by show((st1.ups us).get .L k).g=g';rw[hent]
       have hblk:=z1.lblk k hlive
       rw[hgen]at hblk
       refine⟨v,β',M2,rfl,H_drop z1 .nil,.inr ⟨cs,len,(hfix β' st1.gens).1,β' .L k g',sz,cap,c,el,hblk,o1,o2,o3,o5, ?_,o7,hcl,hl0,hlc,by simpa using hcx,hx,fun b G=>(hfix b G).2⟩⟩
       rcases hwm with rfl|hwm
       ·exact .inr fun i hi=>o6 i (Nat.zero_le _) hi
       ·exact .inl (by rw[comp_twice _ _ _ _ rfl];exact hwm)
      ·cases ha
     ·cases ha
    ·cases ha
   ·cases ha
end
theorem pure_call{P:Program}{E:Env}(hE:EnvOk P E)(hm:P.follows .mixedOrders=true){m f:Nat}{af:AFunc}(hfn:E.fn f=some af)(heff:af.eff=false)(hown:af.own=none){args:List T}{r:T}{sh':List Ent}(hc:callF E m f args []=some (r,sh'))(w:World)(cargs:Array Value)
  (hargs:PList w (fun _ _=>False) args cargs.toList):Calls P f cargs w fun e w'=> ∃cv,e= .returned cv∧RowKit.Below w.heap.size w w'∧PRel w' (fun _ _=>False) r cv:=by
 have hcon:=(callF_ok hE hm m f af args [] r sh' hfn hc).1 hown
 rw[heff]at hcon
 let β:Beta:=fun _ _ _=>⟨0,0,0⟩
 have hno: ∀b,¬sBlocks [] β b:=by rintro b ⟨k,hl,_⟩;simp[getE,getL]at hl;exact hl.elim
 have hbase:HRel ⟨w,fun _ _=>False,sBlocks [] β⟩ (bare .nil []) w β (fun _ _=>False):=by
  have e: ∀sp k,(bare .nil []).get sp k=noEnt:=by intro sp k;cases sp <;> simp[bare,St.get,getE,getL,Tri.get_nil]
  refine⟨fun sp k=> ?_,fun sp k sp' k' l1 _ _=> ?_,fun _ _ h=>h.elim,fun k hl=> ?_,fun k hl=> ?_,rfl,rfl,rfl,Nat.le_refl _,fun _ _ _=>rfl,Keeps.refl _ _,fun _ _ _ _ hm=>hm⟩
  ·rw[e];unfold ORel noEnt;trivial
  ·rw[e]at l1;exact l1.elim
  ·rw[e]at hl;exact hl.elim
  ·rw[e]at hl;exact hl.elim
 refine(hcon w β _ cargs hbase hargs).mono ?_
 rintro e w' ⟨cv,β',M',rfl,h',_,_,hr⟩
 refine⟨cv,rfl,⟨h'.os,h'.tape,h'.output,h'.size,fun b hb=>h'.same b hb (hno b)⟩, ?_⟩
 exact PRel.mono (keeps_less (fun _ _ h=>h.elim)) _ _ hr
end Go.Ev
namespace Go.Ev
open Go
inductive Tab where
 |nil
 |nd (l:Tab) (k:Nat) (v:AFunc) (r:Tab)
def Tab.find:Tab→Nat→Option AFunc
 | .nil,_=>none
 | .nd l k v r,f=>bif Nat.beq f k then some v else bif Nat.ble f k then l.find f else r.find f
def Tab.All(p:Nat→AFunc→Prop):Tab→Prop
 | .nil=>True
 | .nd l k v r=>Tab.All p l∧p k v∧Tab.All p r
theorem Tab.all_find{p:Nat→AFunc→Prop}{f:Nat}{v:AFunc}: ∀{t:Tab},Tab.All p t→t.find f=some v→p f v
 | .nil,_,h=>by simp[Tab.find]at h
 | .nd l k u r,ha,h=>by
   obtain⟨h1,h2,h3⟩:=ha
   simp only[Tab.find]at h
   cases hb:Nat.beq f k with
   |true=>
    rw[hb,cond_true]at h
    have:f=k:=Nat.eq_of_beq_eq_true hb
    subst this
    cases h;exact h2
   |false=>
    rw[hb,cond_false]at h
    cases hc:Nat.ble f k with
    |true=>rw[hc,cond_true]at h;exact Tab.all_find h1 h
    |false=>rw[hc,cond_false]at h;exact Tab.all_find h3 h
def CodeOk(P:Program)(f:Nat)(af:AFunc):Prop:= ∃hs fn,P.funcs[f]? =some fn∧compF P hs af.eff fn=some af
theorem codeOk{P:Program}{f:Nat}{af:AFunc}{hs:List Nat}{fn:Func}(h:P.funcs[f]? =some fn)(k:compF P hs af.eff fn=some af):CodeOk P f af:=⟨hs,fn,h,k⟩
def ExtOk(P:Program)(f:Nat)(g:List T→Option T):Prop:=
 (∃fn,P.funcs[f]? =some fn∧(fn.name== "runtime.NumGoroutine")=false∧fn.body.isSome=true)∧
   ∀args r,g args=some r→ ∀(w:World) (M:MSet) (cargs:Array Value),(∀b o,M b o→b<w.heap.size)→PList w M args cargs.toList→
    Calls P f cargs w fun e w'=> ∃cv,e= .returned cv∧RowKit.Below w.heap.size w w'∧PRel w' (fun b _=>b<w.heap.size) r cv
theorem envOk{P:Program}{t:Tab}{x:Nat→Option (List T→Option T)}{y:Nat→Option (List T→Option (List T×Option Nat))}(h:Tab.All (CodeOk P) t)(hx: ∀f g,x f=some g→ExtOk P f g)
  (hy: ∀f g,y f=some g→(∃fn,P.funcs[f]? =some fn∧(fn.name== "runtime.NumGoroutine")=false∧fn.body.isSome=true)∧WrOk P f g):EnvOk P ⟨t.find,x,y⟩:=
 ⟨fun f af hf=>Tab.all_find h hf,fun f g _ hg=>hx f g hg,fun f g _ _ hg=>hy f g hg⟩
end Go.Ev
namespace Go.Ev
open Go
abbrev callK(E:Env)(m f:Nat)(args:List T)(sh:List Ent):Option (T×List Ent):=callF E m f args sh
theorem by_callK{E:Env}{m f:Nat}{args:List T}{sh:List Ent}{r:Option (T×List Ent)}(h:callK E m f args sh=r):callF E m f args sh=r:=h
theorem callK_eq{E:Env}{m f:Nat}{args:List T}{sh:List Ent}:callK E m f args sh=callF E m f args sh:=rfl
end Go.Ev
