/- A tree evaluator over the model, proved against it (part D): where it answers, the call returns that answer. Conditions: none beyond its theorems' own. -/
import Derived.Test.YtblcbheipjeoeaaGreatEvC
set_option linter.unusedSimpArgs false
set_option linter.unusedVariables false
namespace Go.Ev
open Go
def bare(fr:Fr)(sh:List fg):St:={fr,lh:= .nil,sh}
theorem Ax(fr:Fr)(sh:List fg)(k:Nat):(bare fr sh).get .L k=jq:=by simp[bare,St.get,gC,fU,fC.get_nil]
theorem amk(fr:Fr)(sh:List fg)(k:Nat):(bare fr sh).get .S k=gC sh k:=rfl
theorem jf.shared{β fW:fS}{G G':Sp→Nat→Nat}{w:World}{M:fE}{k:Nat}{e:fg}(yt: ∀n g,g≤G .S n→fW .S n g=β .S n g)(hG: ∀n,G .S n≤G' .S n)(hg:e.g≤G .S k)(h:jf β G w M .S k e):jf fW G' w M .S k e:=by
 unfold jf at h ⊢
 rw[yt k _ hg]
 obtain⟨g,ob⟩:=e
 cases ob with
 |none=>trivial
 |cells cs wm bx=>
  obtain⟨c,el,fz,h1,h2,h3,h4,h5,h6,h7⟩:=h
  refine⟨c,el,fz,h1,h2,h3,h4, ?_,h6,h7⟩
  cases bx
  ·exact h5
  ·exact we.mono (iW.refl w M) yt hG h5
 |map ks vs fz=>exact h
theorem DN{B:jR}{st:St}{w:World}{β:fS}{M:fE}(h:fY B st w β M)(fr:Fr):fY B (bare fr st.sh) w β M:=by
 refine⟨fun sp k=> ?_,fun sp k iy k' l1 l2 he=> ?_,h.mlt,fun k hl=> ?_,fun k hl=>h.sblk k hl,h.os,h.tape,h.output,h.size,h.same,h.keep,h.msup⟩
 ·cases sp with
  |L=>rw[Ax];unfold jf jq;trivial
  |S=>exact jf.shared (G:=st.gens) (β:=β) (fun _ _ _=>rfl) (fun _=>Nat.le_refl _) (Nat.le_refl _) (h.obj .S k)
 ·cases sp with
  |L=>rw[Ax]at l1;exact l1.elim
  |S=>
   cases iy with
   |L=>rw[Ax]at l2;exact l2.elim
   |S=>exact h.dist .S k .S k' l1 l2 he
 ·rw[Ax]at hl;exact hl.elim
def jy(sh:List fg)(β:fS)(b:Nat):Prop:= ∃k,live (gC sh k)∧(β .S k (gC sh k).g).blk=b
theorem TH{B:jR}{st:St}{w:World}{β:fS}{M:fE}(h:fY B st w β M)(fr:Fr):fY ⟨w,M,jy st.sh β⟩ (bare fr st.sh) w β M:=by
 have hd:=DN h fr
 refine⟨hd.obj,hd.dist,h.mlt,fun k hl=> ?_,fun k hl=> .inl ⟨k,hl,rfl⟩,rfl,rfl,rfl,Nat.le_refl _,fun _ _ _=>rfl,iW.refl w M,fun _ _ _ _ hm=>hm⟩
 rw[Ax]at hl;exact hl.elim
theorem O7{B:jR}{st:St}{w:World}{β:fS}{M:fE}(h:fY B st w β M)(fr:Fr):fY ⟨w,M,fun _=>False⟩ (bare fr []) w β M:=by
 have e: ∀sp k,(bare fr []).get sp k=jq:=by intro sp k;cases sp <;> simp[bare,St.get,gC,fU,fC.get_nil]
 refine⟨fun sp k=> ?_,fun sp k iy k' l1 _ _=> ?_,h.mlt,fun k hl=> ?_,fun k hl=> ?_,rfl,rfl,rfl,Nat.le_refl _,fun _ _ _=>rfl,iW.refl w M,fun _ _ _ _ hm=>hm⟩
 ·rw[e];unfold jf jq;trivial
 ·rw[e]at l1;exact l1.elim
 ·rw[e]at hl;exact hl.elim
 ·rw[e]at hl;exact hl.elim
theorem F1{B:jR}{st:St}{w w':World}{β:fS}{M:fE}(h:fY B st w β M)(hos:w'.os=w.os)(htp:w'.tape=w.tape)(L2:w'.output=w.output)(nL:w.heap.size≤w'.heap.size)(hb: ∀b,b<w.heap.size→w'.heap[b]? =w.heap[b]?):
  fY B st w' β M∧Tr st w β M st w' β M:=by
 have hk:iW w M w' M:=⟨fun b o v hv _=>by rw[nn (w:=w) (hb b (wc hv))];exact hv,fun b es c hv _=>by rw[hb b (mH hv)];exact hv,fun _ _ _ h=>h⟩
 refine⟨⟨fun sp k=> ?_,h.dist,fun b o hm=>Nat.lt_of_lt_of_le (h.mlt b o hm) nL,h.lblk,h.sblk,hos.trans h.os,htp.trans h.tape,L2.trans h.output,Nat.le_trans h.size nL,fun b h1 h2=>(hb b (Nat.lt_of_lt_of_le h1 h.size)).trans (h.same b h1 h2),h.keep.trans hk h.size,h.msup⟩,hk,fun _ _ _ _=>rfl,fun _ _=>Nat.le_refl _⟩
 exact jf.mono hk (fun _ _ _ _=>rfl) (fun _ _=>Nat.le_refl _) (Nat.le_refl _) (fun hl=>hb _ (h.lt hl)) (fun _ _ hm=>hm) (h.obj sp k)
theorem ZW{B:jR}{st:St}{w w':World}{β fW:fS}{M M':fE}{fL:List fg}(h:fY B st w β M)(h':fY ⟨w,M,jy st.sh β⟩ (bare .nil fL) w' fW M')(yt: ∀n g,g≤st.gens .S n→fW .S n g=β .S n g)(hG: ∀n,st.gens .S n≤(gC fL n).g):
  fY B {st with sh:=fL} w' (fun sp k g=>match sp with| .L=>β .L k g| .S=>fW .S k g) M'∧Tr st w β M {st with sh:=fL} w' (fun sp k g=>match sp with| .L=>β .L k g| .S=>fW .S k g) M':=by
 have apn: ∀k,({st with sh:=fL}:St).get .L k=st.get .L k:=fun k=>rfl
 have apo: ∀k,({st with sh:=fL}:St).get .S k=gC fL k:=fun k=>rfl
 have J7: ∀sp k g,g≤st.gens sp k→(fun(sp:Sp) k g=>match sp with| .L=>β .L k g| .S=>fW .S k g:fS) sp k g=β sp k g:=by
  intro sp k g hle
  cases sp with
  |L=>rfl
  |S=>exact yt k g hle
 have J9: ∀sp k,st.gens sp k≤({st with sh:=fL}:St).gens sp k:=by
  intro sp k
  cases sp with
  |L=>exact Nat.le_refl _
  |S=>exact hG k
 have notS: ∀k,live (st.get .L k)→ ¬jy st.sh β (β .L k (st.gens .L k)).blk:=by
  rintro k hl ⟨k',BW,he⟩
  have:=h.dist .S k' .L k BW hl he
  cases this.1
 have sB: ∀b,jy st.sh β b→B.SB b∨B.w.heap.size≤b:=by
  rintro b ⟨k,hl,rfl⟩
  exact h.sblk k hl
 have agM: ∀k,live (gC fL k)→B.SB (fW .S k (gC fL k).g).blk∨B.w.heap.size≤(fW .S k (gC fL k).g).blk:=by
  intro k hl
  rcases h'.sblk k hl with e|e
  ·exact sB _ e
  ·exact .inr (Nat.le_trans h.size e)
 refine⟨⟨fun sp k=> ?_,fun sp k iy k' l1 l2 he=> ?_,h'.mlt,fun k hl=>h.lblk k hl,fun k hl=>agM k hl,h'.os.trans h.os,h'.tape.trans h.tape,h'.output.trans h.output,Nat.le_trans h.size h'.size,fun b h1 h2=> ?_,h.keep.trans h'.keep h.size,fun b o h1 h2 h3=> ?_⟩,h'.keep,J7,J9⟩
 ·cases sp with
  |L=>
   refine jf.mono h'.keep J7 J9 (Nat.le_refl _) (fun hl=> ?_) (fun hl o hm=> ?_) (h.obj .L k)
   ·exact h'.same _ (h.lt hl) (notS k hl)
   ·exact h'.msup _ o (h.lt hl) (notS k hl) hm
  |S=>exact jf.shared (G:=(bare .nil fL).gens) (β:=fW) (fun _ _ _=>rfl) (fun _=>Nat.le_refl _) (Nat.le_refl _) (h'.obj .S k)
 ·cases sp with
  |L=>
   cases iy with
   |L=>exact h.dist .L k .L k' l1 l2 he
   |S=>
    exfalso
    have TD:(β .L k (st.gens .L k)).blk=(fW .S k' (gC fL k').g).blk:=he
    rcases h'.sblk k' l2 with e|e
    ·exact notS k l1 (by rw[TD];exact e)
    ·have:=h.lt (sp:= .L) (k:=k) l1
     have e':w.heap.size≤(fW .S k' (gC fL k').g).blk:=e
     omega
  |S=>
   cases iy with
   |L=>
    exfalso
    have TD:(fW .S k (gC fL k).g).blk=(β .L k' (st.gens .L k')).blk:=he
    rcases h'.sblk k l1 with e|e
    ·exact notS k' l2 (by rw[←TD];exact e)
    ·have:=h.lt (sp:= .L) (k:=k') l2
     have e':w.heap.size≤(fW .S k (gC fL k).g).blk:=e
     omega
   |S=>exact h'.dist .S k .S k' l1 l2 he
 ·have hn: ¬jy st.sh β b:=fun hs=>by
   rcases sB b hs with e|e
   ·exact h2 e
   ·omega
  exact(h'.same b (Nat.lt_of_lt_of_le h1 h.size) hn).trans (h.same b h1 h2)
 ·have hn: ¬jy st.sh β b:=fun hs=>by
   rcases sB b hs with e|e
   ·exact h2 e
   ·omega
  exact h'.msup b o (Nat.lt_of_lt_of_le h1 h.size) hn (h.msup b o h1 h2 h3)
def F2(M:fE)(S:FE):fE:=fun b x=>M b x∨(b=S.blk∧S.off≤x∧x<S.off+S.ext)
theorem ZX{B:jR}{st:St}{w w':World}{β:fS}{M:fE}(h:fY B st w β M)(hos:w'.os=w.os)(htp:w'.tape=w.tape)(L2:w'.output=w.output)(nL:w.heap.size≤w'.heap.size)(hbl: ∀b,b<w.heap.size→w'.heap[b]? =w.heap[b]?)
  (k g:Nat) (hg:st.gens .L k<g) (S:FE) (hS:w.heap.size≤S.blk) (hS2:S.blk<w'.heap.size) (ob:Ob)
  (ho:jf (l6 β .L k g S) (st.up (.L,k,⟨g,ob⟩)).gens w' (F2 M S) .L k ⟨g,ob⟩):
  fY B (st.up (.L,k,⟨g,ob⟩)) w' (l6 β .L k g S) (F2 M S)∧Tr st w β M (st.up (.L,k,⟨g,ob⟩)) w' (l6 β .L k g S) (F2 M S):=by
 have hk:iW w M w' (F2 M S):=⟨fun b o v hv _=>by rw[nn (w:=w) (hbl b (wc hv))];exact hv,fun b es c hv _=>by rw[hbl b (mH hv)];exact hv,fun b x hb hm=>hm.resolve_right (fun e=>by have:=e.1;omega)⟩
 have hb: ∀iy k' g',g'≤st.gens iy k'→l6 β .L k g S iy k' g'=β iy k' g':=by
  intro iy k' g' hle
  refine wg _ _ _ _ _ ?_
  rintro⟨rfl,rfl,rfl⟩
  omega
 have hG: ∀iy k',st.gens iy k'≤(st.up (.L,k,⟨g,ob⟩)).gens iy k':=by
  intro iy k'
  rw[jH]
  split
  ·rename_i e;obtain⟨rfl,rfl⟩:=e;exact Nat.le_of_lt hg
  ·exact Nat.le_refl _
 have qL: ∀iy k',(l6 β .L k g S iy k' ((st.up (.L,k,⟨g,ob⟩)).gens iy k'))=if iy= .L∧k'=k then S else β iy k' (st.gens iy k'):=by
  intro iy k'
  rw[jH]
  split
  ·rename_i e;obtain⟨rfl,rfl⟩:=e;exact gX _ _ _ _ _
  ·exact hb _ _ _ (Nat.le_refl _)
 refine⟨⟨fun iy k'=> ?_,fun sp1 k1 sp2 k2 l1 l2 he=> ?_,fun b x hm=> ?_,fun k' hl=> ?_,fun k' hl=> ?_,hos.trans h.os,htp.trans h.tape,L2.trans h.output,Nat.le_trans h.size nL,fun b hb hn=> ?_,h.keep.trans hk h.size,fun b x h1 h2 h3=> .inl (h.msup b x h1 h2 h3)⟩,hk,hb,hG⟩
 ·rw[jK]
  split
  ·rename_i e;obtain⟨rfl,rfl⟩:=e;exact ho
  ·exact jf.mono hk hb hG (Nat.le_refl _) (fun hl=>hbl _ (h.lt hl)) (fun _ _ hm=> .inl hm) (h.obj iy k')
 ·rw[qL,qL]at he
  rw[jK]at l1 l2
  by_cases e1:sp1= .L∧k1=k <;> by_cases e2:sp2= .L∧k2=k
  ·exact⟨e1.1.trans e2.1.symm,e1.2.trans e2.2.symm⟩
  ·rw[if_pos e1,if_neg e2]at he;rw[if_neg e2]at l2
   have:=h.lt l2;omega
  ·rw[if_neg e1,if_pos e2]at he;rw[if_neg e1]at l1
   have:=h.lt l1;omega
  ·rw[if_neg e1,if_neg e2]at he;rw[if_neg e1]at l1;rw[if_neg e2]at l2
   exact h.dist _ _ _ _ l1 l2 he
 ·rcases hm with hm|hm
  ·exact Nat.lt_of_lt_of_le (h.mlt b x hm) nL
  ·rw[hm.1];exact hS2
 ·rw[qL];rw[jK]at hl
  split
  ·exact Nat.le_trans h.size hS
  ·rename_i e;rw[if_neg e]at hl;exact h.lblk k' hl
 ·rw[qL];rw[jK]at hl
  rw[if_neg (by rintro⟨e,_⟩;cases e)]at hl ⊢
  exact h.sblk k' hl
 ·have:=h.size
  rw[hbl b (by omega)];exact h.same b hb hn
theorem CE{w w':World}{M M':fE}: ∀{cs:List T} {vs:List Value},cs.all FB=true→PList w M cs vs→PList w' M' cs vs
 | [],vs,_,h=>by simpa only[PList]using h
 |t::ts,vs,hs,h=>by
  simp only[List.all_cons,Bool.and_eq_true]at hs
  simp only[PList]at h ⊢
  obtain⟨u,us,rfl,h1,h2⟩:=h
  refine⟨u,us,rfl, ?_,CE hs.2 h2⟩
  have ht:=hs.1
  cases t <;> simp[FB]at ht <;> simpa only[PRel]using h1
def O8:Value→Nat→Option Value
 | .tuple a,j=>a[j]?
 | .agg a,j=>a[j]?
 |v,_=>some v
def tl:Value→Nat→Value→Value
 | .tuple a,j,x=> .tuple (a.setIfInBounds j x)
 | .agg a,j,x=> .agg (a.setIfInBounds j x)
 |_,_,x=>x
abbrev rm:Value:= .slice none 0 0
section
variable{β:fS}{G:Sp→Nat→Nat}{w:World}{M:fE}
theorem fo.set: ∀{ts:List T} {vs:List Value} (j:Nat) {t:T} {v:Value},fo β G w M ts vs→fk β G w M t v→fo β G w M (ts.set j t) (vs.set j v)
 | [],vs,j,t,v,h,_=>by simp only[fo]at h;subst h;simp[fo]
 |t::ts,vs,0,t',v',h,h'=>by
  simp only[fo]at h;obtain⟨u,us,rfl,h1,h2⟩:=h
  simp only[List.set_cons_zero,fo]
  exact⟨_,_,rfl,h',h2⟩
 |t::ts,vs,j+1,t',v',h,h'=>by
  simp only[fo]at h;obtain⟨u,us,rfl,h1,h2⟩:=h
  simp only[List.set_cons_succ,fo]
  exact⟨_,_,rfl,h1,fo.set j h2 h'⟩
theorem DO{cs:List T}{j:Nat}{t:T}(h:cs.all single=true)(ht:single t=true):(cs.set j t).all single=true:=by
 rw[List.all_eq_true]at h ⊢
 intro x hx
 rcases List.mem_or_eq_of_mem_set hx with h1|h1
 ·exact h x h1
 ·rw[h1];exact ht
theorem H9{cs:List T}{j:Nat}{t u:T}(h:(cs.set j u).all single=true)(ht:single t=true):(cs.set j t).all single=true:=by
 have:=DO (j:=j) h ht
 rwa [List.set_set]at this
theorem O9{r y t:T}{v u:Value}{j:Nat}(h:fk β G w M r v)(hj:kK r j=some y)(ht:fk β G w M t u)(hs:single t=true):
  (∃x,O8 v j=some x∧fk β G w M y x)∧fk β G w M (gb r j t) (tl v j u):=by
 cases r
 case tup vs=>
  simp only[fk]at h;obtain⟨a,rfl,hl⟩:=h
  simp only[kK]at hj
  obtain⟨x,h1,h2⟩:=hl.get hj
  refine⟨⟨x,by simpa[O8]using h1,h2⟩, ?_⟩
  simp only[gb,tl,fk]
  exact⟨_,rfl,by simpa using fo.set j hl ht⟩
 case agg cs=>
  simp only[fk]at h;obtain⟨a,rfl,hl,hsi⟩:=h
  simp only[kK]at hj
  obtain⟨x,h1,h2⟩:=hl.get hj
  refine⟨⟨x,by simpa[O8]using h1,h2⟩, ?_⟩
  simp only[gb,tl,fk]
  exact⟨_,rfl,by simpa using fo.set j hl ht,DO hsi hs⟩
 case any=>simp[kK]at hj
 all_goals
  simp only[kK,Option.some.injEq]at hj;subst hj
  refine⟨⟨v, ?_,h⟩, ?_⟩
  ·simp only[fk,PRel]at h
   first
    |(subst h;rfl)
    |(obtain⟨_,rfl,_⟩:=h;rfl)
    |(obtain⟨_,_,rfl,_⟩:=h;rfl)
    |(obtain⟨_,_,_,rfl,_⟩:=h;rfl)
    |(obtain⟨_,_,_,_,rfl,_⟩:=h;rfl)
    |(obtain⟨_,rfl⟩:=h;rfl)
  ·simp only[fk,PRel]at h
   first
    |(subst h;exact ht)
    |(obtain⟨_,rfl,_⟩:=h;exact ht)
    |(obtain⟨_,_,rfl,_⟩:=h;exact ht)
    |(obtain⟨_,_,_,rfl,_⟩:=h;exact ht)
    |(obtain⟨_,_,_,_,rfl,_⟩:=h;exact ht)
    |(obtain⟨_,rfl⟩:=h;exact ht)
theorem F3{a:Array Value}{j:Nat}{x y:Value}(h:a[j]? =some x):(a.toList.set j y).set j x=a.toList:=by
 rw[List.set_set]
 have h':a.toList[j]? =some x:=by simpa using h
 obtain⟨hl,he⟩:=List.getElem?_eq_some_iff.1 h'
 rw[←he];exact List.set_getElem_self hl
theorem Ay{v:Value}{j:Nat}(h: ∀a,tl v j rm≠ .tuple a)(h': ∀a,tl v j rm≠ .agg a):tl v j rm=rm∧O8 v j=some v:=by
 cases v <;> first|exact⟨rfl,rfl⟩|exact absurd rfl (h _)|exact absurd rfl (h' _)
theorem TI{r t:T}{cv x:Value}{j:Nat}(h:fk β G w M (gb r j .nilsl) (tl cv j rm))(hx:O8 cv j=some x)(ht:fk β G w M t x)(hs:single t=true):fk β G w M (gb r j t) cv:=by
 cases r
 case tup vs=>
  simp only[gb,fk]at h ⊢
  obtain⟨a,ha,hl⟩:=h
  cases cv <;> simp[tl]at ha
  rename_i a0
  subst ha
  simp only[O8]at hx
  refine⟨a0,rfl, ?_⟩
  have:=fo.set j hl ht
  rw[List.set_set,Array.toList_setIfInBounds,F3 hx]at this
  exact this
 case agg cs=>
  simp only[gb,fk]at h ⊢
  obtain⟨a,ha,hl,hsi⟩:=h
  cases cv <;> simp[tl]at ha
  rename_i a0
  subst ha
  simp only[O8]at hx
  refine⟨a0,rfl, ?_,H9 hsi hs⟩
  have:=fo.set j hl ht
  rw[List.set_set,Array.toList_setIfInBounds,F3 hx]at this
  exact this
 case any=>simp only[gb,fk]
 all_goals
  simp only[gb,fk]at h ⊢
  obtain⟨h1,h2⟩:=Ay (v:=cv) (j:=j) (fun a e=>by rw[e]at h;cases h) (fun a e=>by rw[e]at h;cases h)
  rw[h2]at hx
  cases hx
  exact ht
theorem Pb{p:T}{v x:Value}{j:Nat}{cs:List T}{len:Nat}{ex:Bool}(jC:p≠ .any)(h:fk β G w M p (tl v j rm))(hx:O8 v j=some x):
  kK (gb p j (.sl cs len ex)) j=some (.sl cs len ex)∧fk β G w M (gb (gb p j (.sl cs len ex)) j .nilsl) (tl v j rm):=by
 have hn:fk β G w M .nilsl rm:=by simp only[fk]
 cases p
 case tup vs=>
  simp only[fk]at h
  obtain⟨a,ha,hl⟩:=h
  cases v <;> simp[tl]at ha
  rename_i a0
  subst ha
  simp only[O8]at hx
  have L1:=fo.length _ _ hl
  simp at L1
  obtain⟨hj,_⟩:=Array.getElem?_eq_some_iff.1 hx
  refine⟨by simp only[gb,kK];rw[List.getElem?_set_self (by omega)], ?_⟩
  simp only[gb,tl,fk,List.set_set]
  refine⟨_,rfl, ?_⟩
  have:=fo.set j hl hn
  rw[Array.toList_setIfInBounds,List.set_set]at this
  rw[Array.toList_setIfInBounds];exact this
 case agg vs=>
  simp only[fk]at h
  obtain⟨a,ha,hl,hsi⟩:=h
  cases v <;> simp[tl]at ha
  rename_i a0
  subst ha
  simp only[O8]at hx
  have L1:=fo.length _ _ hl
  simp at L1
  obtain⟨hj,_⟩:=Array.getElem?_eq_some_iff.1 hx
  refine⟨by simp only[gb,kK];rw[List.getElem?_set_self (by omega)], ?_⟩
  simp only[gb,tl,fk,List.set_set]
  refine⟨_,rfl, ?_,DO hsi rfl⟩
  have:=fo.set j hl hn
  rw[Array.toList_setIfInBounds,List.set_set]at this
  rw[Array.toList_setIfInBounds];exact this
 case any=>exact absurd rfl jC
 all_goals
  refine⟨rfl, ?_⟩
  simp only[gb]
  have hp:tl v j rm=rm:=by
   refine(Ay (v:=v) (j:=j) (fun a e=> ?_) (fun a e=> ?_)).1
   all_goals
    rw[e]at h
    simp only[fk,PRel]at h
    first
     |(cases h;done)
     |(obtain⟨_,h,_⟩:=h;cases h;done)
     |(obtain⟨_,_,h,_⟩:=h;cases h;done)
     |(obtain⟨_,_,_,h,_⟩:=h;cases h;done)
     |(obtain⟨_,_,_,_,h,_⟩:=h;cases h;done)
     |(obtain⟨_,h⟩:=h;cases h;done)
  rw[hp];exact hn
end
def Pc(P:Program)(f:Nat)(eff:Bool)(args:List T)(sh:List fg)(r:T)(fL:List fg):Prop:=
 ∀(w:World) (β:fS) (M:fE) (gw:Array Value),fY ⟨w,M,jy sh β⟩ (bare .nil sh) w β M→np eff β (bare .nil sh).gens w M args gw.toList→
  Calls P f gw w fun e w'=> ∃cv fW M',e= .returned cv∧fY ⟨w,M,jy sh β⟩ (bare .nil fL) w' fW M'∧(∀n g,g≤(gC sh n).g→fW .S n g=β .S n g)∧(∀n,(gC sh n).g≤(gC fL n).g)∧sw eff fW (bare .nil fL).gens w' M' r cv
theorem Ia(p x y:T)(j:Nat)(h:single x=true):gb (gb p j x) j y=gb p j y:=by
 cases p <;> try (simp only[gb,List.set_set];done)
 all_goals (simp only[gb];cases x <;> first|rfl|cases h)
def agP(w w':World)(M:fE)(r:T)(j:Nat)(cs:List T)(len:Nat)(cv:Value):Prop:=
 ∃(S:FE) (sz cap:Nat) (c:Array Value) (el:TypeId),w.heap.size≤S.blk∧w'.heap[S.blk]? =some (.cells c el (0,0))∧S.off+S.ext≤c.size∧cs.length≤S.ext∧PList w' M cs ((c.toList.drop S.off).take cs.length)∧(scalar (gb r j .nilsl)=true∨ ∀i,i<S.ext→M S.blk (S.off+i))∧
  cs.all single=true∧cs.length=len*sz∧len≠0∧len≤cap∧cap*sz≤S.ext∧O8 cv j=some (.slice (some ⟨S.blk,S.off,none⟩) len cap)∧ ∀β G,fk β G w' M (gb r j .nilsl) (tl cv j rm)
def L3(P:Program)(f:Nat)(args:List T)(sh:List fg)(j:Nat)(r:T)(fL:List fg):Prop:=
 ∀(w:World) (β:fS) (M:fE) (gw:Array Value),fY ⟨w,M,jy sh β⟩ (bare .nil sh) w β M→np false β (bare .nil sh).gens w M args gw.toList→
  Calls P f gw w fun e w'=> ∃cv fW M',e= .returned cv∧fY ⟨w,M,jy sh β⟩ (bare .nil fL) w' fW M'∧
   ((kK r j=some .nilsl∧PRel w' M' r cv)∨ ∃cs len,kK r j=some (.sl cs len false)∧agP w w' M' r j cs len cv)
def Ka(blk off cap:Nat):Option Nat→Value
 |none=> .tuple #[]
 |some n=> .slice (some ⟨blk,off,none⟩) n cap
def agQ(P:Program)(f:Nat)(h:List T→Option (List T×Option Nat)):Prop:=
 (∀r,h []=some ([],r)→r.getD 0=0→ ∀w:World,Calls P f #[rm] w fun e w'=>e= .returned (match r with|none=> .tuple #[]|some _=>rm)∧RowKit.Below w.heap.size w w')∧
 ∀cs ys r,h cs=some (ys,r)→ys.length=cs.length→ ∀(w:World) (M:fE) (blk off cap:Nat) (c:Array Value) (el:TypeId) (vs:List Value),w.heap[blk]? =some (.cells c el (0,0))→off+cs.length≤c.size→cs.length≤cap→(c.toList.drop off).take cs.length=vs→PList w M cs vs→
  Calls P f #[.slice (some ⟨blk,off,none⟩) cs.length cap] w fun e w'=> ∃us,e= .returned (Ka blk off cap r)∧PList w M ys us∧RowKit.Below w.heap.size (setBlock w blk (.cells (splice c.toList off us).toArray el)) w'
def sV(P:Program)(E:Env):Prop:=
 (∀f af,E.fn f=some af→ ∃hs fn,P.funcs[f]? =some fn∧FD P hs af.eff fn=some af)∧
 (∀f g,E.fn f=none→E.ext f=some g→(∃fn,P.funcs[f]? =some fn∧(fn.name== "runtime.NumGoroutine")=false∧fn.body.isSome=true)∧
   ∀args r,g args=some r→ ∀(w:World) (M:fE) (gw:Array Value),(∀b o,M b o→b<w.heap.size)→PList w M args gw.toList→
    Calls P f gw w fun e w'=> ∃cv,e= .returned cv∧RowKit.Below w.heap.size w w'∧PRel w' (fun b _=>b<w.heap.size) r cv)∧
 (∀f h,E.fn f=none→E.ext f=none→E.wr f=some h→(∃fn,P.funcs[f]? =some fn∧(fn.name== "runtime.NumGoroutine")=false∧fn.body.isSome=true)∧
   agQ P f h)
def wE(P:Program)(E:Env)(call:qz):Prop:= ∀f af args sh r fL,E.fn f=some af→call f args sh=some (r,fL)→(af.own=none→Pc P f af.eff args sh r fL)∧(∀j,af.own=some j→af.eff=false∧L3 P f args sh j r fL)
theorem Az{st gj:St}{a:Act}{w w':World}{β fW:fS}{M M':fE}{n:Nat}{d:Option Nat}{v:T}{cv:Value}{fr:Fr}(hf:nl st a w β M n)(ht:Tr st w β M gj w' fW M')(AA:lR st.fr n d v=some fr)(hv:fk fW gj.gens w' M' v cv):
  nl {gj with fr} (a.put d cv) w' fW M' n:=by
 cases d with
 |none=>
  simp[lR]at AA;subst AA
  exact⟨hf.size,hf.defers,fun t=>ht.val (hf.slot t)⟩
 |some d=>
  simp only[lR]at AA
  split at AA
  ·rename_i hd
   simp at AA;subst AA
   refine⟨by simp[Act.put,hf.size],hf.defers,fun t=> ?_⟩
   have e1:an (iG st.fr d v) t=if t=d then v else an st.fr t:=od st.fr d v t
   have e2:(a.put (some d) cv).tmps.getD t undef=if t=d then cv else a.tmps.getD t undef:=by
    simp only[Act.put,Array.getD_eq_getD_getElem?,Array.getElem?_setIfInBounds]
    by_cases htd:d=t
    ·subst htd;rw[if_pos rfl,if_pos (by rw[hf.size];exact hd),if_pos rfl];rfl
    ·rw[if_neg htd,if_neg (fun e=>htd e.symm)]
   show fk fW gj.gens w' M' (an (iG st.fr d v) t) _
   rw[e1,e2]
   split
   ·exact hv
   ·exact ht.val (hf.slot t)
  ·cases AA
end Go.Ev
namespace Go.Ev
open Go
theorem TJ{B:jR}{st:St}{w:World}{β:fS}{M:fE}(h:fY B st w β M)(fr:Fr):fY B {st with fr} w β M:=
 ⟨h.obj,h.dist,h.mlt,h.lblk,h.sblk,h.os,h.tape,h.output,h.size,h.same,h.keep,h.msup⟩
theorem Tr.fr{st gj:St}{w w':World}{β fW:fS}{M M':fE}(h:Tr st w β M gj w' fW M')(fr:Fr):Tr st w β M {gj with fr} w' fW M':=⟨h.keep,h.beta,h.gens⟩
theorem Ib{w w':World}{M M':fE}{r:T}{cv:Value}(hs:scalar r=true)(h:PRel w M r cv):PRel w' M' r cv:=by
 cases r <;> simp[scalar]at hs
 case tup vs=>
  simp only[PRel]at h ⊢
  obtain⟨a,rfl,hl⟩:=h
  refine⟨a,rfl, ?_⟩
  generalize a.toList=l at hl
  induction vs generalizing l with
  |nil=>simpa only[PList]using hl
  |cons t ts ih=>
   simp only[PList]at hl ⊢
   obtain⟨u,us,rfl,h1,h2⟩:=hl
   have ht:=hs t (by simp)
   refine⟨u,us,rfl, ?_,ih (fun x hx=>hs x (by simp[hx])) us h2⟩
   cases t <;> simp at ht <;> simpa only[PRel]using h1
 all_goals simpa only[PRel]using h
theorem F4{β fW:fS}{G G':Sp→Nat→Nat}{w w':World}{M M':fE}{r:T}{cv:Value}(hs:scalar r=true)(h:fk β G w M r cv):fk fW G' w' M' r cv:=by
 cases r <;> simp[scalar]at hs
 case tup vs=>
  simp only[fk]at h ⊢
  obtain⟨a,rfl,hl⟩:=h
  refine⟨a,rfl, ?_⟩
  generalize a.toList=l at hl
  induction vs generalizing l with
  |nil=>simpa only[fo]using hl
  |cons t ts ih=>
   simp only[fo]at hl ⊢
   obtain⟨u,us,rfl,h1,h2⟩:=hl
   have ht:=hs t (by simp)
   refine⟨u,us,rfl, ?_,ih (fun x hx=>hs x (by simp[hx])) us h2⟩
   cases t <;> simp at ht <;> simpa only[fk]using h1
 all_goals simpa only[fk]using h
section
variable{P:Program}{E:Env}{call:qz}{B:jR}{st:St}{a:Act}{w:World}{β:fS}{M:fE}{o:Oper}
theorem sC{f:Nat}{fn:Func}(hf:P.funcs[f]? =some fn)(hn:(fn.name== "runtime.NumGoroutine")=false)(hb:fn.body.isSome=true)(gw:Array Value)(w:World):(callFunc f gw).run P w= .ok (.enter f gw) w:=by
 have h1: ¬fn.name= "runtime.NumGoroutine" :=by simpa using hn
 have h2: ¬fn.body=none:=by intro e;rw[e]at hb;simp at hb
 simp[callFunc,hf,h1,h2]
theorem L4(hZ:py β st.gens w M st.rho a.eval){c:Call}(ho:o.op= .call c){sh:Nat}{F0:kG}(hc:rJ P sh c=some F0){f:Nat}{targs:List T}(hq:gD st.rho F0=some (some (f,targs))):
  ∃gw:Array Value,(execOp a.eval o).run P w=(callFunc f gw).run P w∧fo β st.gens w M targs gw.toList:=by
 unfold rJ at hc
 split at hc
 ·rename_i f' ZY
  simp only[Option.map_eq_some_iff]at hc
  obtain⟨as,h1,rfl⟩:=hc
  simp[gD]at hq
  obtain⟨rfl,rfl⟩:=hq
  refine⟨c.args.map a.eval, ?_,by simpa using ur hZ h1⟩
  simp[execOp,ho,resolve,ZY,Deferred.ofValue,Act.eval,invoke]
 ·rename_i x jC ZY
  split at hc
  ·rename_i y as h1 h2
   simp at hc;subst hc
   simp only[gD,Option.some.injEq]at hq
   split at hq
   ·rename_i f' fa fc e
    simp at hq
    obtain⟨rfl,rfl⟩:=hq
    have vx:=hZ x y h1
    rw[e]at vx
    simp only[fk]at vx
    obtain⟨va,vc,e1,l1,l2⟩:=vx
    refine⟨va++c.args.map a.eval++vc, ?_, ?_⟩
    ·simp[execOp,ho,resolve,ZY,e1,Deferred.ofValue,invoke]
    ·have:=fo.append (fo.append l1 (ur hZ h2)) l2
     simpa using this
   ·simp at hq
  ·cases hc
 all_goals
  exfalso
  revert hq
  try (simp only[Option.map_eq_some_iff]at hc;obtain⟨as,h1,rfl⟩:=hc;simp[gD];done)
  try (cases hc;done)
 ·split at hc
  ·split at hc <;> simp at hc <;> subst hc <;> simp[gD]
  ·cases hc
 ·split at hc
  ·split at hc
   ·split at hc
    ·split at hc
     ·split at hc
      ·split at hc
       ·simp at hc;subst hc;simp[gD]
       ·cases hc
      ·cases hc
     ·cases hc
    ·split at hc
     ·split at hc
      ·split at hc
       ·simp at hc;subst hc;simp[gD]
       ·cases hc
      ·cases hc
     ·cases hc
    ·cases hc
   ·cases hc
  ·cases hc
theorem L5{sh:Nat}{op:Op}{F0:kG}{ρ:fM→T}{x:Option (Nat×List T)}(h:ij P sh op=some F0)(hc:gD ρ F0=some x): ∃c,op= .call c∧rJ P sh c=some F0:=by
 cases op with
 |call c=>exact⟨c,rfl,h⟩
 |makeFunc fn first cap=>
  exfalso
  cases fn <;> simp only[ij]at h <;> try (cases h;done)
  split at h
  ·simp at h;subst h;simp[gD]at hc
  ·cases h
 |makeMap t r=>
  exfalso
  cases r <;> simp only[ij]at h
  ·simp at h;subst h;simp[gD]at hc
  ·cases h
 |_=>
  exfalso
  revert hc
  simp only[ij]at h
  repeat' split at h
  all_goals first
   |(cases h;done)
   |(simp only[Option.map_eq_some_iff]at h;obtain⟨_,_,rfl⟩:=h;simp[gD];done)
   |(simp at h;subst h;simp[gD];done)
   |(simp at h;done)
theorem agR(h:fY B st w β M){f:Nat}{g:List T→Option (List T×Option Nat)}
  (jW: ∀r,g []=some ([],r)→r.getD 0=0→ ∀w:World,Calls P f #[rm] w fun e w'=>e= .returned (match r with|none=> .tuple #[]|some _=>rm)∧RowKit.Below w.heap.size w w')
  (tm: ∀cs ys r,g cs=some (ys,r)→ys.length=cs.length→ ∀(w:World) (M:fE) (blk off cap:Nat) (c:Array Value) (el:TypeId) (vs:List Value),w.heap[blk]? =some (.cells c el (0,0))→off+cs.length≤c.size→cs.length≤cap→(c.toList.drop off).take cs.length=vs→PList w M cs vs→
    Calls P f #[.slice (some ⟨blk,off,none⟩) cs.length cap] w fun e w'=> ∃us,e= .returned (Ka blk off cap r)∧PList w M ys us∧RowKit.Below w.heap.size (setBlock w blk (.cells (splice c.toList off us).toArray el)) w')
  {targs:List T} {gw:Array Value} (hv:fo β st.gens w M targs gw.toList) {r:T} {wF:St} (hd:OV g st targs=some (r,wF)):
  wF.fr=st.fr∧Calls P f gw w fun e w'=> ∃cv fW M',e= .returned cv∧fY B wF w' fW M'∧Tr st w β M wF w' fW M'∧w.heap.size≤w'.heap.size∧fk fW wF.gens w' M' r cv:=by
 unfold OV at hd
 split at hd
 ·have hc:gw= #[rm]:=by
   simp only[fo,fk]at hv
   obtain⟨u,us,h1,rfl,rfl⟩:=hv
   exact Array.toList_inj.1 h1
  subst hc
  have fin: ∀rr:Option Nat,g []=some ([],rr)→rr.getD 0=0→wF=st→(∀fW M' w',fk fW st.gens w' M' r (match rr with|none=> .tuple #[]|some _=>rm))→
    wF.fr=st.fr∧Calls P f #[rm] w fun e w'=> ∃cv fW M',e= .returned cv∧fY B wF w' fW M'∧Tr st w β M wF w' fW M'∧w.heap.size≤w'.heap.size∧fk fW wF.gens w' M' r cv:=by
   rintro rr hg h0 rfl hr
   refine⟨rfl,(jW rr hg h0 w).mono ?_⟩
   rintro e w' ⟨rfl,nT⟩
   obtain⟨o1,o2⟩:=F1 h nT.os nT.tape nT.output nT.size nT.block
   exact⟨_,β,M,rfl,o1,o2,nT.size,hr _ _ _⟩
  split at hd
  ·rename_i hg
   simp only[Option.some.injEq,Prod.mk.injEq]at hd
   obtain⟨rfl,rfl⟩:=hd
   exact fin none hg rfl rfl fun _ _ _=>by simp[fk,fo]
  ·rename_i hg
   simp only[Option.some.injEq,Prod.mk.injEq]at hd
   obtain⟨rfl,rfl⟩:=hd
   exact fin (some 0) hg rfl rfl fun _ _ _=>by simp[fk,rm]
  ·cases hd
 ·rename_i sp k g0 off len
  simp only[fo,fk]at hv
  obtain⟨u,us,h1,⟨aqY,cap,rfl,hlc,hce⟩,rfl⟩:=hv
  have hc:gw= #[.slice (some ⟨(β sp k g0).blk,(β sp k g0).off+off,none⟩) len cap]:=Array.toList_inj.1 h1
  subst hc
  generalize he:st.get sp k=e0 at hd
  obtain⟨g',ob⟩:=e0
  cases ob with
  |none=>cases hd
  |map _ _ _=>cases hd
  |cells cs wm bx=>
  cases bx with
  |true=>cases hd
  |false=>
  dsimp only at hd
  split at hd
  ·rename_i agS
   obtain⟨rfl,FT,LW⟩:=agS
   split at hd
   ·rename_i ys rr hg
    split at hd
    ·rename_i SN
     obtain⟨SG,ZZ,hy3⟩:=SN
     simp only[Option.some.injEq,Prod.mk.injEq]at hd
     obtain⟨rfl,rfl⟩:=hd
     have An:=h.obj sp k
     rw[he]at An
     unfold jf at An
     obtain⟨c,el,fz,pJ,h2,h3,h4,h5,h6,h7,h8⟩:=An
     dsimp only at pJ h2 h3 h4 h5 h6
     subst h4
     have hlen:((cs.drop off).take len).length=len:=by rw[List.length_take,List.length_drop];omega
     have kg:c.toList.length=c.size:=by simp
     have hpl:PList w M ((cs.drop off).take len) ((c.toList.drop ((β sp k g').off+off)).take len):=by
      have q:=PList.take len (PList.drop off (show PList w M cs ((c.toList.drop (β sp k g').off).take cs.length)from h5))
      rw[List.drop_take,List.take_take,List.drop_drop,Nat.min_eq_left (by omega)]at q
      exact q
     have fu:=tm _ ys rr hg (by rw[hlen];exact SG) w M (β sp k g').blk ((β sp k g').off+off) cap c el _ pJ (by rw[hlen];omega) (by rw[hlen];exact hlc) (by rw[hlen]) hpl
     rw[hlen]at fu
     refine⟨X4 _ _,fu.mono ?_⟩
     rintro e w' ⟨us,rfl,hpu,nT⟩
     have hul:us.length=len:=by rw[←PList.length _ _ hpu];exact SG
     have key:=Av h he g' (Nat.le_refl _) pJ off us (splice cs off ys) FT (by omega) (by rw[iz];exact Nat.le_refl _) (by rw[iz];exact h3) (sA h7 ZZ) (by
      rw[iz]
      have O5:(splice (c.toList.drop (β sp k g').off) off us).take cs.length=splice ((c.toList.drop (β sp k g').off).take cs.length) off us:=by
       apply List.ext_getElem?
       intro j
       rw[List.getElem?_take,jt,jt,List.getElem?_take,List.length_take]
       by_cases hj:j<cs.length
       ·rw[if_pos hj,if_pos hj]
        by_cases hc:off≤j∧j<off+us.length∧j<(c.toList.drop (β sp k g').off).length
        ·rw[if_pos hc,if_pos (by omega)]
        ·rw[if_neg hc,if_neg (by omega)]
       ·rw[if_neg hj,if_neg hj,if_neg (by omega)]
      rw[O5]
      exact PList.splice h5 hpu)
     rw[rM]at key
     have nL:=jL w (β sp k g').blk (.cells (splice c.toList ((β sp k g').off+off) us).toArray el)
     obtain⟨o1,o2⟩:=F1 key.1 nT.os nT.tape nT.output nT.size fun b hb=>nT.block b (by rw[nL]at hb;exact hb)
     refine⟨_,β,M,rfl,o1,key.2.trans o2 (by rw[nL];exact Nat.le_refl _),by rw[←nL];exact nT.size, ?_⟩
     cases rr with
     |none=>simp[Zr,Ka,fk,fo]
     |some n=>
      simp only[Zr,Ka,fk]
      refine⟨?_,cap,rfl, ?_,hce⟩
      ·rw[jH,if_pos ⟨rfl,rfl⟩];exact Nat.le_refl _
      ·simp at hy3;omega
    ·cases hd
   ·cases hd
  ·cases hd
 ·cases hd
theorem L6(hE:sV P E)(hO:wE P E call)(h:fY B st w β M){f:Nat}{targs:List T}{gw:Array Value}(hv:fo β st.gens w M targs gw.toList){r:T}{wF:St}{d:Nat}(hd:gq E call d st f targs=some (r,wF)):
  (callFunc f gw).run P w= .ok (.enter f gw) w∧wF.fr=st.fr∧
  Calls P f gw w fun e w'=> ∃cv fW M',e= .returned cv∧fY B wF w' fW M'∧Tr st w β M wF w' fW M'∧w.heap.size≤w'.heap.size∧fk fW wF.gens w' M' r cv:=by
 unfold gq at hd
 split at hd
 ·rename_i af y7
  obtain⟨hs,fn,hf,uW⟩:=hE.1 f af y7
  have hnb:(fn.name== "runtime.NumGoroutine")=false∧fn.body.isSome=true:=by
   unfold FD at uW
   split at uW
   ·cases uW
   ·rename_i hn
    refine⟨by simpa using hn, ?_⟩
    split at uW
    ·cases uW
    ·rename_i e;rw[e];rfl
  refine⟨sC hf hnb.1 hnb.2 _ _, ?_⟩
  split at hd
  ·rename_i q hq
   obtain⟨ts,us⟩:=q
   obtain⟨M1,q1,q2,q3,q4,q5,q6⟩:=ow (fun t=>yu af.eff st fJ t) targs B st w β M _ ts us _ (Fz.refl st) h hv hq
   split at hd
   ·rename_i sD
    simp only[Option.map_eq_some_iff]at hd
    obtain⟨⟨r',fL⟩,fu,hd⟩:=hd
    simp at hd
    obtain⟨rfl,rfl⟩:=hd
    refine⟨DL st us, ?_⟩
    have oV:af.own=none:=by
     cases ho:af.own with
     |none=>rfl
     |some j=>rw[((hO f af ts (st.ups us).sh r' fL y7 fu).2 j ho).1]at sD;cases sD
    have tm:=(hO f af ts (st.ups us).sh r' fL y7 fu).1 oV
    rw[sD]at q4 tm
    have hx:np true β (bare .nil (st.ups us).sh).gens w M1 ts gw.toList:=by
     intro fW G' p1 p2
     refine q4 fW G' (fun k g hg=>p1 k g ?_) (fun k=>Nat.le_trans (Nat.le_of_eq ?_) (p2 k))
     ·have:(bare .nil (st.ups us).sh).gens .S k=(st.ups us).gens .S k:=rfl
      rw[this,q2.gens];exact hg
     ·have:(bare .nil (st.ups us).sh).gens .S k=(st.ups us).gens .S k:=rfl
      rw[this,q2.gens]
    refine(tm w β M1 gw (TH q1 .nil) hx).mono ?_
    rintro e w' ⟨cv,fW,M',rfl,h',yt,hG,hr⟩
    obtain⟨b1,b2⟩:=ZW q1 h' yt hG
    refine⟨cv,_,M',rfl,b1,(Tr.fz q2 q3).trans b2 (Nat.le_refl _),h'.size, ?_⟩
    exact hr _ _ (fun _ _ _=>rfl) (fun _=>Nat.le_refl _)
   ·rename_i sD
    simp at sD
    split at hd
    ·rename_i r0 fu
     obtain⟨r',fL⟩:=r0
     rw[sD]at q4
     have lU: ∀b,¬jy [] β b:=by rintro b ⟨k,hl,_⟩;simp[gC,fU]at hl;exact hl.elim
     have B4:fY ⟨w,M1,jy [] β⟩ (bare .nil []) w β M1:=by
      have h0:=O7 q1 .nil
      exact⟨h0.obj,h0.dist,h0.mlt,fun k hl=>h0.lblk k hl,fun k hl=>(h0.sblk k hl).imp (fun e=>e.elim) id,rfl,rfl,rfl,Nat.le_refl _,fun _ _ _=>rfl,iW.refl w M1,fun _ _ _ _ hm=>hm⟩
     have plain: ∀(w':World) (cv:Value) (fW:fS) (M':fE) (L7:St),L7=(if scalar r'=true then st else st.ups us)→fY ⟨w,M1,jy [] β⟩ (bare .nil fL) w' fW M'→PRel w' M' r' cv→
       ∃cv2 fW M',Ending.returned cv= .returned cv2∧fY B L7 w' fW M'∧Tr st w β M L7 w' fW M'∧w.heap.size≤w'.heap.size∧fk fW L7.gens w' M' r' cv2:=by
      intro w' cv fW M' L7 DP h' X9
      have hold:=fun b (hb:b<w.heap.size)=>h'.same b hb (lU b)
      by_cases k6:scalar r'=true
      ·rw[if_pos k6]at DP;subst DP
       obtain⟨o1,o2⟩:=F1 h h'.os h'.tape h'.output h'.size hold
       exact⟨cv,β,M,rfl,o1,o2,h'.size,PRel.toV _ _ _ _ (Ib k6 X9)⟩
      ·rw[if_neg k6]at DP;subst DP
       obtain⟨o1,o2⟩:=F1 q1 h'.os h'.tape h'.output h'.size hold
       refine⟨cv,β,M1,rfl,o1,(Tr.fz q2 q3).trans o2 (Nat.le_refl _),h'.size,PRel.toV _ _ _ _ (PRel.mono (iL ?_) _ _ X9)⟩
       intro b x hm
       have hb:=q1.mlt b x hm
       exact h'.msup b x hb (lU b) hm
     cases oV:af.own with
     |none=>
      simp only[oV]at hd
      simp at hd
      obtain⟨rfl,DP⟩:=hd
      have tm:=(hO f af ts [] r' fL y7 fu).1 oV
      rw[sD]at tm
      have Z0:wF.fr=st.fr:=by rw[←DP];split;rfl;exact DL st us
      refine⟨Z0,(tm w β M1 gw B4 q4).mono ?_⟩
      rintro e w' ⟨cv,fW,M',rfl,h',yt,hG,hr⟩
      exact plain w' cv fW M' wF DP.symm h' hr
     |some j=>
      simp only[oV]at hd
      have tm:=((hO f af ts [] r' fL y7 fu).2 j oV).2
      unfold vv at hd
      have Z0:wF.fr=st.fr:=by
       split at hd
       ·simp at hd;obtain⟨_,rfl⟩:=hd;split;rfl;exact DL st us
       ·split at hd
        ·simp at hd;obtain⟨_,rfl⟩:=hd;show(ite _ _ _:St).fr=_;split;rfl;exact DL st us
        ·cases hd
       ·cases hd
      refine⟨Z0,(tm w β M1 gw B4 q4).mono ?_⟩
      rintro e w' ⟨cv,fW,M',rfl,h',hr⟩
      rcases hr with⟨hc,hr⟩|⟨cs,len,hc,S,sz,cap,c,el,s1,s2,s3,s4,s5,s6,s7,s8,s9,s10,s11,s12,s13⟩
      ·rw[hc]at hd
       simp at hd;obtain⟨rfl,DP⟩:=hd
       exact plain w' cv fW M' wF DP.symm h' hr
      ·rw[hc]at hd
       simp only at hd
       split at hd
       ·rename_i BO
        have nL:cs.length/len=sz:=by rw[s8];exact Nat.mul_div_cancel_left _ (Nat.pos_of_ne_zero s9)
        rw[nL]at hd
        have hold:=fun b (hb:b<w.heap.size)=>h'.same b hb (lU b)
        have fin: ∀(L7:St) (M3:fE),fY B L7 w β M3→Tr st w β M L7 w β M3→(∀β G,fk β G w' (F2 M3 S) (gb r' j .nilsl) (tl cv j rm))→
          some (gb r' j (.isl .L d ((L7.get .L d).g+1) 0 len sz),L7.up (.L,d,⟨(L7.get .L d).g+1,.cells cs 0 false⟩))=some (r,wF)→
          ∃cv2 fW M',Ending.returned cv= .returned cv2∧fY B wF w' fW M'∧Tr st w β M wF w' fW M'∧w.heap.size≤w'.heap.size∧fk fW wF.gens w' M' r cv2:=by
         intro L7 M3 h3 t3 hv3 hd
         simp only[Option.some.injEq,Prod.mk.injEq]at hd
         obtain⟨rfl,rfl⟩:=hd
         obtain⟨o1,o2⟩:=ZX h3 h'.os h'.tape h'.output h'.size hold d ((L7.get .L d).g+1) (Nat.lt_succ_self _) S s1 (mH s2) (.cells cs 0 false) (by
          unfold jf
          simp only[gX]
          exact⟨c,el,(0,0),s2,s3,s4,rfl,CE BO.1 s5,fun i _ hi=> .inr ⟨rfl,by omega,by omega⟩,s7,Nat.zero_le _⟩)
         refine⟨cv,_,_,rfl,o1,t3.trans o2 (Nat.le_refl _),h'.size,TI (hv3 _ _) s12 ?_ rfl⟩
         simp only[fk]
         rw[gX]
         exact⟨by simp[jH],cap,rfl,s10,by simpa using s11⟩
        by_cases k6:scalar (gb r' j .nilsl)=true
        ·simp only[k6,if_true]at hd
         exact fin st M h (Tr.refl _ _ _ _) (fun β G=>F4 k6 (s13 β G)) hd
        ·simp only[k6,Bool.false_eq_true,if_false]at hd
         refine fin (st.ups us) M1 q1 (Tr.fz q2 q3) (fun β G=>fk.mono (iL ?_) (fun _ _ _ _=>rfl) (fun _ _=>Nat.le_refl _) _ _ (s13 β G)) hd
         rintro b x (hm|⟨rfl,h1,h2⟩)
         ·exact h'.msup b x (q1.mlt b x hm) (lU b) hm
         ·have:=(s6.resolve_left k6) (x-S.off) (by omega)
          rwa [show S.off+(x-S.off)=x by omega]at this
       ·cases hd
    ·cases hd
  ·cases hd
 ·rename_i g y7 FU
  split at hd
  ·rename_i q hq
   obtain⟨ts,us⟩:=q
   simp only[Option.map_eq_some_iff]at hd
   obtain⟨r',hg,hd⟩:=hd
   simp at hd
   obtain⟨rfl,rfl⟩:=hd
   obtain⟨⟨fn,hf,hn,hb⟩,tm⟩:=hE.2.1 f g y7 FU
   obtain⟨M1,q1,q2,q3,q4,q5,q6⟩:=ow (fun t=>yu false st fJ t) targs B st w β M _ ts us _ (Fz.refl st) h hv hq
   refine⟨sC hf hn hb _ _,rfl,(tm ts r' hg w M1 gw q1.mlt q4).mono ?_⟩
   rintro e w' ⟨cv,rfl,nT,hr⟩
   obtain⟨o1,o2⟩:=F1 h nT.os nT.tape nT.output nT.size nT.block
   exact⟨cv,β,M,rfl,o1,o2,nT.size,PRel.toV _ _ _ _ (PRel.mono (iL (fun b x hm=>h.mlt b x hm)) _ _ hr)⟩
  ·cases hd
 ·rename_i y7 FU
  split at hd
  ·rename_i g hwr
   obtain⟨⟨fn,hf,hn,hb⟩,jW,tm⟩:=hE.2.2 f g y7 FU hwr
   refine⟨sC hf hn hb _ _, ?_⟩
   exact agR h jW tm hv hd
  ·cases hd
variable{ops:Array Oper}{Q:Exit→Act→World→Prop}{n:Nat}{K:Act→World→Prop}
theorem Ic(hf:nl st a w β M n){j d:Nat}(hj:(ops[j]?).bind (·.dst)=some d)(Z1:an st.fr d≠ .any):yielded ops a.tmps j=match an st.fr d with| .b x=>some x|_=>none:=by
 unfold yielded
 rw[hj]
 simp only[Option.bind_some]
 have hs:=hf.slot d
 rw[Array.getD_eq_getD_getElem?]at hs
 cases hx:a.tmps[d]? with
 |none=>
  rw[hx]at hs
  simp only[Option.getD_none]at hs
  generalize an st.fr d=t at*
  cases t
  case any=>exact absurd rfl Z1
  all_goals (simp only[fk,PRel,undef]at hs;simp_all)
 |some cv=>
  rw[hx]at hs
  simp only[Option.getD_some]at hs
  generalize an st.fr d=t at*
  cases t <;> simp only[fk,PRel]at hs
  case b x=>subst hs;rfl
  case any=>exact absurd rfl Z1
  all_goals first
   |(subst hs;rfl)
   |(obtain⟨_,rfl,_⟩:=hs;rfl)
   |(obtain⟨_,_,rfl,_⟩:=hs;rfl)
   |(obtain⟨_,_,_,rfl,_⟩:=hs;rfl)
   |(obtain⟨_,_,_,_,rfl,_⟩:=hs;rfl)
   |(obtain⟨_,rfl⟩:=hs;rfl)
theorem qN(hE:sV P E)(hO:wE P E call){hs:List Nat}{ao:fe}{i:Nat}(hi:ops[i]? =some o)(hc:tC P hs ops o=some ao)(h:fY B st w β M)(hf:nl st a w β M n){gj:St}(he:gh E call n ao st=some gj)
  (hK: ∀a' w' fW M',fY B gj w' fW M'→nl gj a' w' fW M' n→Tr st w β M gj w' fW M'→w.heap.size≤w'.heap.size→K a' w'):wpOp P ops Q i K a w:=by
 have hZ:=OY hf
 unfold wpOp
 rw[hi]
 simp only
 unfold tC at hc
 split at hc
 ·rename_i F0 lY
  have core: ∀gd,ao=⟨o.dst,F0,gd⟩→(match gD st.rho F0 with
    |some (some c)=>match gq E call (o.dst.getD 0) st c.1 c.2 with
     |some r=>(lR st.fr n o.dst r.1).map fun fr=>({r.2 with fr}:St)
     |none=>none
    |some none=>none
    |none=>match(gA (o.dst.getD 0) st.rho F0).run st.get st.sh.length with
     |some (.val v ups)=>(lR st.fr n o.dst v).map fun fr=>({st.ups ups with fr}:St)
     |none=>none)=some gj→o.wp P a w K Q:=by
   intro gd _ wA
   unfold Oper.wp
   split at wA
   ·rename_i c fu
    obtain⟨f,targs⟩:=c
    split at wA
    ·rename_i r hd
     obtain⟨r,wF⟩:=r
     simp only[Option.map_eq_some_iff]at wA
     obtain⟨fr,AA,rfl⟩:=wA
     have j6:=L5 lY fu
     obtain⟨c,ho,j6⟩:=j6
     obtain⟨gw,hx,sZ⟩:=L4 hZ ho j6 fu
     obtain⟨d1,d2,d3⟩:=L6 hE hO h sZ hd
     rw[hx,d1,Oper.upon_enter]
     refine d3.mono ?_
     rintro e w' ⟨cv,fW,M',rfl,k1,k2,k3,k4⟩
     refine hK _ _ fW M' (TJ k1 fr) ?_ (k2.fr fr) k3
     exact Az hf k2 AA k4
    ·cases wA
   ·cases wA
   ·split at wA
    ·rename_i v ups hq
     simp only[Option.map_eq_some_iff]at wA
     obtain⟨fr,AA,rfl⟩:=wA
     obtain⟨nx,cv,w',fW,M',r1,r2,r3,r4,r5,r6⟩:=agL (P:=P) hZ h lY hq
     rw[r1]
     have:=hK (a.put o.dst cv) w' fW M' (TJ r3 fr) (Az hf r4 AA r6) (r4.fr fr) r5
     rcases r2 with rfl|⟨rfl,rfl⟩
     ·exact this
     ·exact this
    ·cases wA
  split at hc
  ·rename_i hg
   simp at hc;subst hc
   have hw:Region.wanted o (yielded ops a.tmps)=true:=by unfold Region.wanted;rw[hg]
   rw[if_pos hw]
   unfold gh at he
   exact .inl (core none rfl he)
  ·rename_i j want hg
   split at hc
   ·rename_i d hd
    simp at hc;subst hc
    unfold gh at he
    simp only at he
    have Z1:an st.fr d≠ .any:=by intro e;rw[e]at he;cases he
    have hy:=Ic (ops:=ops) hf hd Z1
    have Pd:(lR st.fr n o.dst gf).map (fun fr=>({st with fr}:St))=some gj→K (a.put o.dst undef) w:=by
     intro hp
     simp only[Option.map_eq_some_iff]at hp
     obtain⟨fr,AA,rfl⟩:=hp
     exact hK _ _ β M (TJ h fr) (Az hf (Tr.refl _ _ _ _) AA (by simp[fk,gf,undef,fo])) ((Tr.refl _ _ _ _).fr fr) (Nat.le_refl _)
    split at he
    ·rename_i x hx
     rw[hx]at hy
     have hw:Region.wanted o (yielded ops a.tmps)=(x==want):=by unfold Region.wanted;rw[hg];simp[hy]
     split at he
     ·rename_i hxw
      rw[if_pos (by rw[hw];simp[hxw])]
      exact .inl (core _ rfl he)
     ·rename_i hxw
      rw[if_neg (by rw[hw];simp[hxw])]
      exact Pd he
    ·cases he
    ·rename_i hx SO
     have hw:Region.wanted o (yielded ops a.tmps)=false:=by
      unfold Region.wanted;rw[hg];simp only
      rw[hy]
      split
      ·rename_i x Pe;exact absurd Pe (hx x)
      ·rfl
     rw[if_neg (by rw[hw];simp)]
     exact Pd he
   ·cases hc
 ·cases hc
end
end Go.Ev
namespace Go.Ev
open Go
theorem Q.run_congr{α:Type}{h h':Sp→Nat→fg}{nx nx':Nat}: ∀(q:Q α),(∀κ∈q.log h nx,h' κ.1 κ.2=h κ.1 κ.2)→(q.asks h nx=true→nx'=nx)→q.run h' nx'=q.run h nx
 | .ret a,_,_=>rfl
 | .fail,_,_=>rfl
 | .rd sp k f,hl,ha=>by
   have e:h' sp k=h sp k:=hl (sp,k) (by simp[Q.log])
   simp only[Q.run,e]
   exact Q.run_congr (f (h sp k)) (fun κ hk=>hl κ (by simp[Q.log,hk])) (fun hh=>ha (by simp[Q.asks,hh]))
 | .new f,hl,ha=>by
   have e:nx'=nx:=ha rfl
   subst e
   simp only[Q.run]
   exact Q.run_congr (f nx') (fun κ hk=>hl κ (by simp[Q.log,hk])) (fun _=>rfl)
theorem mV(f:T→Q (T×List Up))(h:Sp→Nat→fg)(nx:Nat)(hf: ∀t,(f t).asks h nx=false): ∀ts,(gk f ts).asks h nx=false:=by
 have nv: ∀{α γ:Type} (q:Q α) (g:α→Q γ),q.asks h nx=false→(∀a,(g a).asks h nx=false)→(q.bind g).asks h nx=false:=by
  intro α γ q g hq hg
  induction q with
  |ret a=>exact hg a
  |fail=>rfl
  |rd sp k f ih=>simp only[Q.bind,Q.asks]at hq ⊢; exact ih _ hq
  |new f ih=>simp[Q.asks]at hq
 intro ts
 induction ts with
 |nil=>rfl
 |cons t ts ih=>
  simp only[gk]
  refine nv _ _ (hf t) (fun p=>nv _ _ ih (fun q=>rfl))
theorem Kb(h:Sp→Nat→fg)(nx:Nat): ∀(keep:Bool) (n:Nat) (t:T),(fz keep n t).asks h nx=false:=by
 have nv: ∀{α γ:Type} (q:Q α) (g:α→Q γ),q.asks h nx=false→(∀a,(g a).asks h nx=false)→(q.bind g).asks h nx=false:=by
  intro α γ q g hq hg
  induction q with
  |ret a=>exact hg a
  |fail=>rfl
  |rd sp k f ih=>simp only[Q.bind,Q.asks]at hq ⊢; exact ih _ hq
  |new f ih=>simp[Q.asks]at hq
 intro keep n
 induction n generalizing keep with
 |zero=>intro t;rfl
 |succ n ih=>
  intro t
  cases t <;> simp only[fz] <;> try rfl
  ·split
   ·rfl
   ·simp only[Q.asks];split
    ·split
     ·split <;> rfl
     ·split
      ·exact nv _ _ (mV _ _ _ (fun t=>ih false t) _) (fun _=>rfl)
      ·rfl
     ·rfl
    ·rfl
  ·split
   ·rfl
   ·simp only[Q.asks];split
    ·split
     ·exact nv _ _ (mV _ _ _ (fun t=>ih false t) _) (fun _=>rfl)
     ·rfl
    ·rfl
  ·split
   ·rfl
   ·simp only[Q.asks];split
    ·split <;> rfl
    ·rfl
  ·exact nv _ _ (mV _ _ _ (fun t=>ih keep t) _) (fun _=>nv _ _ (mV _ _ _ (fun t=>ih keep t) _) (fun _=>rfl))
  ·exact nv _ _ (mV _ _ _ (fun t=>ih keep t) _) (fun _=>rfl)
  ·exact nv _ _ (mV _ _ _ (fun t=>ih keep t) _) (fun _=>rfl)
theorem mc{ρ HA:fM→T}{l:List fM}(h: ∀x∈l,HA x=ρ x):l.map HA=l.map ρ:=List.map_congr_left h
theorem pK{ρ HA:fM→T}{d:Nat}{x:Option fM}(h: ∀y∈x.toList,HA y=ρ y):iS HA d x=iS ρ d x:=by
 cases x with
 |none=>rfl
 |some y=>simp only[iS];rw[h y (by simp)]
theorem L8{ρ HA:fM→T}(d:Nat)(op:kG)(h: ∀x∈xF op,HA x=ρ x):gA d HA op=gA d ρ op:=by
 cases op <;> simp only[xF]at h <;> simp only[gA]
 case mv x=>rw[h x (by simp)]
 case pick c a b=>rw[h c (by simp),h a (by simp),h b (by simp)]
 case box x sh=>rw[h x (by simp)]
 case build z ps=>
  have e: ∀p∈ps,HA p.2.2=ρ p.2.2:=fun p hp=>h _ (List.mem_map.2 ⟨p,hp,rfl⟩)
  have e1:(ps.all fun p=>decide ((cellsOf (HA p.2.2)).length=p.2.1)&&noTup (HA p.2.2))=(ps.all fun p=>decide ((cellsOf (ρ p.2.2)).length=p.2.1)&&noTup (ρ p.2.2)):=by
   rw[Bool.eq_iff_iff,List.all_eq_true,List.all_eq_true]
   exact⟨fun hh p hp=>by rw[←e p hp];exact hh p hp,fun hh p hp=>by rw[e p hp];exact hh p hp⟩
  have e2:(ps.map fun p=>(p.1,cellsOf (HA p.2.2)))=(ps.map fun p=>(p.1,cellsOf (ρ p.2.2))):=List.map_congr_left fun p hp=>by rw[e p hp]
  rw[e1,e2]
 case bsl z len ps=>
  have e2:(ps.map fun p=>HA p.2)=(ps.map fun p=>ρ p.2):=List.map_congr_left fun p hp=>h _ (List.mem_map.2 ⟨p,hp,rfl⟩)
  rw[e2]
 case ld x n ag=>rw[h x (by simp)]
 case st x v n=>rw[h x (by simp),h v (by simp)]
 case nck x=>rw[h x (by simp)]
 case bin o x y=>rw[h x (by simp),h y (by simp)]
 case eq n k x y=>rw[h x (by simp),h y (by simp)]
 case un o x=>rw[h x (by simp)]
 case cvi k x=>rw[h x (by simp)]
 case mkfn f a c=>rw[mc (fun x hx=>h x (by simp[hx])),mc (fun x hx=>h x (by simp[hx]))]
 case mksl z b x sh=>rw[h x (by simp)]
 case slS x l hh=>
  rw[h x (by simp),pK (x:=l) (fun y hy=>h y (by simp at hy;simp[hy]))]
  split
  ·rw[pK (x:=hh) (fun y hy=>h y (by simp at hy;simp[hy]))]
  ·rfl
 case slV sz x l hh m=>
  rw[h x (by simp),pK (x:=l) (fun y hy=>h y (by simp at hy;simp[hy]))]
  split
  ·rfl
  ·rw[pK (x:=hh) (fun y hy=>h y (by simp at hy;simp[hy]))]
   split
   ·rfl
   ·rename_i mm _ _;rw[h mm (by simp)]
   ·rfl
 case fa x o=>rw[h x (by simp)]
 case fld x o n ag=>rw[h x (by simp)]
 case ia x y n=>rw[h x (by simp),h y (by simp)]
 case iaA x y l n=>rw[h x (by simp),h y (by simp)]
 case ixS x y=>rw[h x (by simp),h y (by simp)]
 case ixA x y l n ag=>rw[h x (by simp),h y (by simp)]
 case lk k x y z ok=>rw[h x (by simp),h y (by simp)]
 case mu k x y z=>rw[h x (by simp),h y (by simp),h z (by simp)]
 case ext x j=>rw[h x (by simp)]
 case lenS x=>rw[h x (by simp)]
 case lenV x=>rw[h x (by simp)]
 case lenM x=>rw[h x (by simp)]
 case app s b x y sh nm=>rw[h x (by simp),h y (by simp)]
 case mm b as=>rw[mc h]
theorem DQ{ρ HA:fM→T}(op:kG)(h: ∀x∈xF op,HA x=ρ x):gD HA op=gD ρ op:=by
 cases op <;> simp only[xF]at h <;> simp only[gD]
 case callf f as=>rw[mc h]
 case callv f as=>rw[h f (by simp),mc (fun x hx=>h x (by simp[hx]))]
theorem Pf{ρ:fM→T}{op:kG}(hq:quiet op=true)(d:Nat)(h:Sp→Nat→fg)(nx:Nat):gD ρ op=none∧(gA d ρ op).log h nx= []∧(gA d ρ op).asks h nx=false∧ ∀v ups,(gA d ρ op).run h nx=some (.val v ups)→ups= []:=by
 have hval: ∀x:Option T,(Ev.val x).log h nx= []∧(Ev.val x).asks h nx=false∧ ∀v ups,(Ev.val x).run h nx=some (.val v ups)→ups= []:=by
  intro x;cases x <;> simp[Ev.val,Q.log,Q.asks,Q.run]
 cases op <;> simp[quiet]at hq <;> refine⟨rfl, ?_⟩ <;> simp only[gA]
 case slV sz x l hh m=>
  split
  ·simp[Q.log,Q.asks,Q.run]
  ·split
   ·unfold yq
    split
    ·split <;> simp[Q.bind,Q.log,Q.asks,Q.run]
    ·split <;> simp[Q.bind,Q.log,Q.asks,Q.run]
    ·split <;> simp[Q.bind,Q.log,Q.asks,Q.run]
    ·simp[Q.bind,Q.log,Q.asks,Q.run]
   ·split
    ·split <;> simp[Q.log,Q.asks,Q.run]
    ·split <;> simp[Q.log,Q.asks,Q.run]
    ·simp[Q.log,Q.asks,Q.run]
   ·simp[Q.log,Q.asks,Q.run]
 all_goals first
  |exact hval _
  |(simp[Q.log,Q.asks,Q.run];done)
  |(repeat' split
    all_goals first
     |exact hval _
     |(simp[Q.log,Q.asks,Q.run];done))
end Go.Ev
namespace Go.Ev
open Go
theorem F5{us:List Up}{sp:Sp}{k:Nat}:mM us sp k=true↔(sp,k)∈iB us:=by
 unfold mM iB
 rw[List.any_eq_true,List.mem_map]
 constructor
 ·rintro⟨⟨a,b,c⟩,h1,h2⟩
  simp at h2;obtain⟨rfl,rfl⟩:=h2
  exact⟨_,h1,rfl⟩
 ·rintro⟨⟨a,b,c⟩,h1,h2⟩
  simp at h2;obtain⟨rfl,rfl⟩:=h2
  exact⟨_,h1,by simp⟩
theorem F6(s p:St): ∀(us:List Up) (sp:Sp) (k:Nat),mM us sp k=true→(s.ups us).get sp k=(p.ups us).get sp k:=by
 intro us
 induction us generalizing s p with
 |nil=>intro sp k h;simp[mM]at h
 |cons u us ih=>
  intro sp k h
  simp only[St.ups]
  by_cases h2:mM us sp k=true
  ·exact ih _ _ sp k h2
  ·simp at h2
   rw[nq _ us sp k h2,nq _ us sp k h2]
   obtain⟨a,b,c⟩:=u
   have:(a==sp&&b==k)=true:=by
    simp only[mM,List.any_cons]at h h2
    simpa[h2]using h
   simp at this;obtain⟨rfl,rfl⟩:=this
   rw[jK,jK];simp
theorem wG(s p:St)(us:List Up)(sp:Sp)(k:Nat):(s.ups us).get sp k=if(sp,k)∈iB us then(p.ups us).get sp k else s.get sp k:=by
 split
 ·rename_i h;exact F6 s p us sp k (F5.2 h)
 ·rename_i h
  refine nq s us sp k ?_
  cases hh:mM us sp k with
  |false=>rfl
  |true=>exact absurd (F5.1 hh) h
theorem Ie(s p:St)(hs:s.sh=p.sh): ∀us,(s.ups us).sh=(p.ups us).sh:=by
 intro us
 induction us generalizing s p with
 |nil=>exact hs
 |cons u us ih=>
  simp only[St.ups]
  refine ih _ _ ?_
  obtain⟨a,b,c⟩:=u
  cases a
  ·exact hs
  ·simp[St.up,hs]
theorem DR(s:St): ∀us,(∀u∈us,u.1= .S→u.2.1<s.sh.length)→(s.ups us).sh.length=s.sh.length:=by
 intro us
 induction us generalizing s with
 |nil=>intro _;rfl
 |cons u us ih=>
  intro h
  obtain⟨a,b,c⟩:=u
  simp only[St.ups]
  have hlen:(s.up (a,b,c)).sh.length=s.sh.length:=by
   cases a with
   |L=>rfl
   |S=>simp[St.up,tE _ _ _ (h (.S,b,c) (by simp) rfl)]
  rw[ih _ (fun u hu e=>by rw[hlen];exact h u (by simp[hu]) e),hlen]
theorem If{s p:St}{us:List Up}(h:uk p us=true)(he: ∀sp k,(sp,k)∈iB us→s.get sp k=p.get sp k): ∀u∈us,u.1= .S→u.2.1<s.sh.length:=by
 intro u hu e
 unfold uk at h
 rw[List.all_eq_true]at h
 have h1:=h u hu
 obtain⟨a,b,c⟩:=u
 dsimp only at e;subst e
 simp at h1
 have h2:=he .S b (by unfold iB;exact List.mem_map.2 ⟨_,hu,rfl⟩)
 refine JY (st:=s) ?_
 rw[h2]
 unfold Ab at h1
 unfold live
 generalize (p.get .S b).ob=ob at*
 cases ob <;> simp_all
theorem DS{fr SP:Fr}{n:Nat}{d:Option Nat}{v:T}{g:Fr}(h:lR fr n d v=some g): ∃g2,lR SP n d v=some g2∧ ∀t,an g2 t=if d=some t then an g t else an SP t:=by
 cases d with
 |none=>exact⟨SP,rfl,fun t=>by simp⟩
 |some d=>
  simp only[lR]at h ⊢
  split at h
  ·rename_i hd
   simp at h;subst h
   refine⟨iG SP d v,by rw[if_pos hd],fun t=> ?_⟩
   have e1:an (iG SP d v) t=if t=d then v else an SP t:=od SP d v t
   have e2:an (iG fr d v) t=if t=d then v else an fr t:=od fr d v t
   rw[e1,e2]
   by_cases ht:t=d
   ·subst ht;simp
   ·rw[if_neg ht,if_neg (fun e=>ht (by simpa using e.symm))]
  ·cases h
def wrote(fp:FP)(sp:Sp)(k:Nat):Prop:=(sp,k)∈fp.w∨(fp.all=true∧sp= .S)
structure TK (ao:fe) (fp:FP) (s s' p':St):Prop where
 slot: ∀t,an s'.fr t=if ao.d=some t then an p'.fr t else an s.fr t
 key: ∀sp k,(wrote fp sp k→s'.get sp k=p'.get sp k)∧(¬wrote fp sp k→s'.get sp k=s.get sp k)
 len:(fp.all=true→s'.sh.length=p'.sh.length)∧(fp.all=false→s'.sh.length=s.sh.length)
variable{E:Env}{call:qz}{n:Nat}
theorem L9{s p:St}{ao:fe}(h: ∀t∈looks ao,an s.fr t=an p.fr t): ∀x∈xF ao.op,s.rho x=p.rho x:=by
 intro x hx
 cases x with
 |t m=>
  refine h m ?_
  unfold looks
  rw[List.mem_append];left
  unfold tmpsOf
  rw[List.mem_filterMap]
  exact⟨.t m,hx,rfl⟩
 |c v=>rfl
theorem TL{s p:St}{d j:Nat}{r r':T}{us:List Up}{p2:St}(hd:vv d j r p us=some (r',p2))(h: ∀sp k,(sp,k)∈(Sp.L,d)::iB us→s.get sp k=p.get sp k)(hl:(s.ups us).sh.length=s.sh.length):
  ∃s2,vv d j r s us=some (r',s2)∧(∀sp k,((sp,k)∈(Sp.L,d)::iB us→s2.get sp k=p2.get sp k)∧((sp,k)∉(Sp.L,d)::iB us→s2.get sp k=s.get sp k))∧s2.sh.length=s.sh.length:=by
 have base: ∀(c:Bool) (sp:Sp) (k:Nat),((sp,k)∈(Sp.L,d)::iB us→(if c=true then s else s.ups us).get sp k=(if c=true then p else p.ups us).get sp k)∧((sp,k)∉(Sp.L,d)::iB us→(if c=true then s else s.ups us).get sp k=s.get sp k):=by
  intro c sp k
  cases c with
  |true=>simp only[if_true];exact⟨h sp k,fun _=>trivial⟩
  |false=>
   simp only[Bool.false_eq_true,if_false]
   have g1:=wG s p us sp k
   have g2:=wG p p us sp k
   refine⟨fun hm=> ?_,fun hm=> ?_⟩
   ·by_cases hk:(sp,k)∈iB us
    ·rw[if_pos hk]at g1;exact g1
    ·rw[if_neg hk]at g1 g2;rw[g1,g2];exact h sp k hm
   ·rw[if_neg (fun e=>hm (List.mem_cons_of_mem _ e))]at g1;exact g1
 have len: ∀c:Bool,(if c=true then s else s.ups us).sh.length=s.sh.length:=by
  intro c;cases c
  ·simpa using hl
  ·simp
 unfold vv at hd ⊢
 split at hd
 ·rename_i hc
  simp only[Option.some.injEq,Prod.mk.injEq]at hd ⊢
  obtain⟨rfl,rfl⟩:=hd
  exact⟨_,⟨rfl,rfl⟩,base _,len _⟩
 ·rename_i cs LV ex hc
  split at hd
  ·rename_i BO
   rw[if_pos BO]
   simp only[Option.some.injEq,Prod.mk.injEq]at hd ⊢
   obtain⟨rfl,rfl⟩:=hd
   have hg:=(base (scalar (gb r j .nilsl)) .L d).1 (List.mem_cons_self ..)
   rw[hg]
   refine⟨_,⟨rfl,rfl⟩,fun sp k=>⟨fun hm=> ?_,fun hm=> ?_⟩, ?_⟩
   ·rw[jK,jK]
    split
    ·rfl
    ·exact(base _ sp k).1 hm
   ·rw[jK,if_neg (by rintro⟨rfl,rfl⟩;exact hm (List.mem_cons_self ..))]
    exact(base _ sp k).2 hm
   ·exact len _
  ·cases hd
 ·cases hd
theorem F7{ao:fe}{fp:FP}{s p p':St}(he:gh E call n ao p=some p')(iJ:gK E call ao p=some fp)(h1: ∀t∈looks ao,an s.fr t=an p.fr t)(h2: ∀sp k,(sp,k)∈fp.r∨(sp,k)∈fp.w→s.get sp k=p.get sp k)(h3:fp.all=true→s.sh=p.sh):
  ∃s',gh E call n ao s=some s'∧TK ao fp s s' p':=by
 have agU:=L9 h1
 have Pd:(lR p.fr n ao.d gf).map (fun fr=>({p with fr}:St))=some p'→fp=mL→ ∃s',(lR s.fr n ao.d gf).map (fun fr=>({s with fr}:St))=some s'∧TK ao fp s s' p':=by
  intro hp hn
  subst hn
  simp only[Option.map_eq_some_iff]at hp
  obtain⟨g,hg,rfl⟩:=hp
  obtain⟨g2,e1,e2⟩:=DS (SP:=s.fr) hg
  refine⟨{s with fr:=g2},by rw[e1];rfl,e2,fun sp k=>⟨fun hw=> ?_,fun _=>rfl⟩,⟨(fun hh=>by cases hh),fun _=>rfl⟩⟩
  rcases hw with hw|hw
  ·simp[mL]at hw
  ·cases hw.1
 have core:(match gD p.rho ao.op with
       |some (some c)=>match gq E call (ao.d.getD 0) p c.1 c.2 with
        |some r=>(lR p.fr n ao.d r.1).map fun fr=>({r.2 with fr}:St)
        |none=>none
       |some none=>none
       |none=>match(gA (ao.d.getD 0) p.rho ao.op).run p.get p.sh.length with
        |some (.val v ups)=>(lR p.fr n ao.d v).map fun fr=>({p.ups ups with fr}:St)
        |none=>none)=some p'→(match gD p.rho ao.op with
       |some (some c)=>jJ E call (ao.d.getD 0) p c.1 c.2
       |some none=>none
       |none=>
        let q:=gA (ao.d.getD 0) p.rho ao.op
        match q.run p.get p.sh.length with
        |some (.val _ ups)=>if q.asks p.get p.sh.length||uk p ups then some (⟨q.asks p.get p.sh.length,q.log p.get p.sh.length,iB ups⟩:FP)else none
        |none=>none)=some fp→
   ∃s',(match gD s.rho ao.op with
    |some (some c)=>match gq E call (ao.d.getD 0) s c.1 c.2 with
     |some r=>(lR s.fr n ao.d r.1).map fun fr=>({r.2 with fr}:St)
     |none=>none
    |some none=>none
    |none=>match(gA (ao.d.getD 0) s.rho ao.op).run s.get s.sh.length with
     |some (.val v ups)=>(lR s.fr n ao.d v).map fun fr=>({s.ups ups with fr}:St)
     |none=>none)=some s'∧TK ao fp s s' p':=by
  intro wA hf
  rw[DQ ao.op agU]
  split at wA
  ·rename_i c hc
   obtain⟨f,args⟩:=c
   rw[hc]at hf
   simp only[hc]at hf ⊢
   split at wA
   ·rename_i r hd
    obtain⟨r,p2⟩:=r
    simp only[Option.map_eq_some_iff]at wA
    obtain⟨g,hg,rfl⟩:=wA
    obtain⟨g2,e1,e2⟩:=DS (SP:=s.fr) hg
    suffices hs: ∃s2,gq E call (ao.d.getD 0) s f args=some (r,s2)∧(∀sp k,(wrote fp sp k→s2.get sp k=p2.get sp k)∧(¬wrote fp sp k→s2.get sp k=s.get sp k))∧(fp.all=true→s2.sh.length=p2.sh.length)∧(fp.all=false→s2.sh.length=s.sh.length)by
     obtain⟨s2,d1,d2,d3⟩:=hs
     refine⟨{s2 with fr:=g2},by rw[d1];simp[e1],e2,d2,d3⟩
    unfold jJ at hf
    unfold gq at hd ⊢
    split at hd
    ·rename_i af y7
     simp only[y7]at hf ⊢
     cases hq:(gk (fz af.eff fJ) args).run p.get p.sh.length with
     |none=>simp[hq]at hd
     |some q=>
      obtain⟨ts,us⟩:=q
      simp only[hq]at hd hf
      split at hf
      ·cases hf
      ·rename_i Ma
       simp at Ma
       have Ai: ∀κ∈(gk (fz af.eff fJ) args).log p.get p.sh.length,κ∈fp.r:=by
        intro κ hk
        split at hf
        ·simp at hf;subst hf;exact hk
        ·split at hf
         ·split at hf
          ·simp at hf;subst hf;exact hk
          ·simp at hf;subst hf;exact List.mem_cons_of_mem _ hk
         ·cases hf
       have yZ:(gk (fz af.eff fJ) args).run s.get s.sh.length=some (ts,us):=by
        rw[←hq]
        refine Q.run_congr _ (fun κ hk=>h2 _ _ (.inl (Ai κ hk))) (fun hh=> ?_)
        rw[mV _ _ _ (fun t=>Kb _ _ _ _ t)]at hh;cases hh
       rw[yZ]
       simp only
       split at hd
       ·rename_i sD
        simp only[sD,if_true]at hf ⊢
        simp at hf;subst hf
        simp only[Option.map_eq_some_iff]at hd
        obtain⟨⟨r',fL⟩,fu,hd⟩:=hd
        simp at hd;obtain⟨rfl,rfl⟩:=hd
        have jh:=h3 rfl
        have amo:=Ie s p jh us
        refine⟨{s.ups us with sh:=fL},by rw[amo,fu];rfl,fun sp k=> ?_,fun _=>rfl,(fun hh=>by cases hh)⟩
        cases sp with
        |S=>exact⟨fun _=>rfl,fun hw=>absurd (.inr ⟨rfl,rfl⟩) hw⟩
        |L=>
         have:=wG s p us .L k
         refine⟨fun hw=> ?_,fun hw=> ?_⟩
         ·rcases hw with hw|hw
          ·rw[if_pos hw]at this;exact this
          ·cases hw.2
         ·rw[if_neg (fun e=>hw (.inl e))]at this;exact this
       ·rename_i sD
        simp only[sD,Bool.false_eq_true,if_false]at hf ⊢
        split at hd
        ·rename_i r0 fu
         simp only[fu]at hf ⊢
         cases oV:af.own with
         |some j=>
          simp only[oV]at hf hd ⊢
          simp at hf;subst hf
          obtain⟨s2,g1,g2,g3⟩:=TL (s:=s) hd (fun sp k hk=>h2 sp k (.inr hk)) (DR s us (If Ma (fun sp k hk=>h2 sp k (.inr (List.mem_cons_of_mem _ hk)))))
          refine⟨s2,g1,fun sp k=>⟨fun hw=> ?_,fun hw=>(g2 sp k).2 (fun e=>hw (.inl e))⟩,(fun hh=>by cases hh),fun _=>g3⟩
          rcases hw with hw|hw
          ·exact(g2 sp k).1 hw
          ·cases hw.1
         |none=>
         simp only[oV]at hf hd ⊢
         simp at hf;subst hf
         simp at hd;obtain⟨rfl,rfl⟩:=hd
         by_cases k6:scalar r0.1=true
         ·simp only[k6,if_true]
          refine⟨s,rfl,fun sp k=>⟨fun hw=> ?_,fun _=>rfl⟩,(fun hh=>by cases hh),fun _=>rfl⟩
          rcases hw with hw|hw
          ·simp at hw
          ·cases hw.1
         ·simp only[k6,Bool.false_eq_true,if_false]
          refine⟨s.ups us,rfl,fun sp k=> ?_,(fun hh=>by cases hh),fun _=> ?_⟩
          ·have:=wG s p us sp k
           refine⟨fun hw=> ?_,fun hw=> ?_⟩
           ·rcases hw with hw|hw
            ·rw[if_pos hw]at this;exact this
            ·cases hw.1
           ·rw[if_neg (fun e=>hw (.inl e))]at this;exact this
          ·exact DR s us (If Ma (fun sp k hk=>h2 sp k (.inr (by simpa[k6]using hk))))
        ·cases hd
    ·rename_i g' y7 FU
     simp only[y7,FU]at hf ⊢
     simp at hf;subst hf
     cases hq:(gk (fz false fJ) args).run p.get p.sh.length with
     |none=>simp[hq]at hd
     |some q=>
      simp only[hq]at hd
      have yZ:(gk (fz false fJ) args).run s.get s.sh.length=some q:=by
       rw[←hq]
       refine Q.run_congr _ (fun κ hk=>h2 _ _ (.inl hk)) (fun hh=> ?_)
       rw[mV _ _ _ (fun t=>Kb _ _ _ _ t)]at hh;cases hh
      rw[yZ]
      simp only[Option.map_eq_some_iff]at hd ⊢
      obtain⟨r',X6,hd⟩:=hd
      simp at hd;obtain⟨rfl,rfl⟩:=hd
      refine⟨s,⟨r',X6,rfl⟩,fun sp k=>⟨fun hw=> ?_,fun _=>rfl⟩,(fun hh=>by cases hh),fun _=>rfl⟩
      rcases hw with hw|hw
      ·simp at hw
      ·cases hw.1
    ·rename_i y7 FU
     simp only[y7,FU]at hf
     cases hf
   ·cases wA
  ·cases wA
  ·rename_i hc
   simp only[hc]at hf ⊢
   rw[L8 _ ao.op agU]
   split at wA
   ·rename_i v ups hq
    simp only[hq]at hf
    split at hf
    ·rename_i Ma
     simp at hf;subst hf
     simp only[Option.map_eq_some_iff]at wA
     obtain⟨g,hg,rfl⟩:=wA
     obtain⟨g2,e1,e2⟩:=DS (SP:=s.fr) hg
     have yZ:(gA (ao.d.getD 0) p.rho ao.op).run s.get s.sh.length=some (.val v ups):=by
      rw[←hq]
      exact Q.run_congr _ (fun κ hk=>h2 _ _ (.inl hk)) (fun hh=>by rw[h3 hh])
     rw[yZ]
     refine⟨{s.ups ups with fr:=g2},by simp[e1],e2,fun sp k=> ?_, ?_⟩
     ·have:=wG s p ups sp k
      refine⟨fun hw=> ?_,fun hw=> ?_⟩
      ·by_cases hm:(sp,k)∈iB ups
       ·rw[if_pos hm]at this;exact this
       ·rcases hw with hw|hw
        ·exact absurd hw hm
        ·obtain⟨ha,rfl⟩:=hw
         have jh:=Ie s p (h3 ha) ups
         show gC (s.ups ups).sh k=gC (p.ups ups).sh k
         rw[jh]
      ·rw[if_neg (fun e=>hw (.inl e))]at this;exact this
     ·refine⟨fun ha=> ?_,fun ha=> ?_⟩
      ·have jh:=Ie s p (h3 ha) ups
       show(s.ups ups).sh.length=(p.ups ups).sh.length
       rw[jh]
      ·rw[show(gA (ao.d.getD 0) p.rho ao.op).asks p.get p.sh.length=false from ha,Bool.false_or]at Ma
       exact DR s ups (If Ma (fun sp k hk=>h2 sp k (.inr hk)))
    ·cases hf
   ·cases wA
 unfold gh at he ⊢
 unfold gK at iJ
 cases hgd:ao.gd with
 |none=>
  simp only[hgd]at he iJ ⊢
  exact core he iJ
 |some g=>
  obtain⟨j,want⟩:=g
  simp only[hgd]at he iJ ⊢
  have hj:an s.fr j=an p.fr j:=h1 j (by unfold looks;rw[hgd];simp)
  rw[hj]
  cases hgv:an p.fr j with
  |b x=>
   simp only[hgv]at he iJ ⊢
   by_cases hxw:x=want
   ·simp only[hxw,if_true]at he iJ ⊢
    exact core he iJ
   ·simp only[hxw,if_false]at he iJ ⊢
    exact Pd he (by simpa using iJ.symm)
  |any=>simp only[hgv]at he;cases he
  |_=>
   simp only[hgv]at he iJ ⊢
   exact Pd he (by simpa using iJ.symm)
end Go.Ev
namespace Go.Ev
open Go
theorem F8(acc:List Nat): ∀(ps:List Nat) (m0 i:Nat),(ps.foldl (fun m p=>m ||| 2 ^ p ||| fU 0 acc p) m0).testBit i=true↔m0.testBit i=true∨ ∃p∈ps,p=i∨(fU 0 acc p).testBit i=true
 | [],m0,i=>by simp
 |p::ps,m0,i=>by
  simp only[List.foldl_cons]
  rw[F8 acc ps]
  simp only[Nat.testBit_or,Bool.or_eq_true,Nat.testBit_two_pow,decide_eq_true_eq,List.mem_cons,exists_eq_or_imp]
  constructor
  ·rintro((((h|h)|h))|⟨q,h1,h2⟩)
   ·exact .inl h
   ·exact .inr (.inl (.inl h))
   ·exact .inr (.inl (.inr h))
   ·exact .inr (.inr ⟨q,h1,h2⟩)
  ·rintro(h|((h|h)|⟨q,h1,h2⟩))
   ·exact .inl (.inl (.inl h))
   ·exact .inl (.inl (.inr h))
   ·exact .inl (.inr h)
   ·exact .inr ⟨q,h1,h2⟩
theorem Ig(acc ps:List Nat)(i:Nat):(Ag acc ps).testBit i=true↔ ∃p∈ps,p=i∨(fU 0 acc p).testBit i=true:=by
 unfold Ag;rw[F8];simp
theorem oK{α:Type}(d:α): ∀(l l':List α) (k:Nat),k<l.length→fU d (l++l') k=fU d l k
 | [],l',k,h=>by simp at h
 |x::xs,l',0,h=>rfl
 |x::xs,l',k+1,h=>by simp only[List.cons_append,fU];exact oK d xs l' k (by simpa using h)
theorem uv{α:Type}(d:α): ∀(l:List α) (x:α),fU d (l++ [x]) l.length=x
 | [],x=>rfl
 |y::ys,x=>by simp only[List.cons_append,List.length_cons,fU];exact uv d ys x
theorem AB: ∀(rn:List (List Nat)) (acc:List Nat),(qf rn acc).length=acc.length+rn.length∧(∀k,k<acc.length→fU 0 (qf rn acc) k=fU 0 acc k)∧
  ∀j ps,rn[j]? =some ps→ ∀i,(fU 0 (qf rn acc) (acc.length+j)).testBit i=true↔ ∃p∈ps,p=i∨((if p<acc.length+j then fU 0 (qf rn acc) p else 0).testBit i=true)
 | [],acc=>by simp[qf]
 |ps::rn,acc=>by
  obtain⟨h1,h2,h3⟩:=AB rn (acc++ [Ag acc ps])
  simp only[qf]
  refine⟨by rw[h1];simp;omega,fun k hk=> ?_,fun j qs hq i=> ?_⟩
  ·rw[h2 k (by simp;omega),oK _ _ _ _ hk]
  ·cases j with
   |zero=>
    simp at hq;subst hq
    rw[Nat.add_zero,h2 acc.length (by simp),uv,Ig]
    constructor
    ·rintro⟨p,hp,e⟩
     refine⟨p,hp,e.imp id fun e=> ?_⟩
     by_cases jm:p<acc.length
     ·rw[if_pos jm,h2 p (by simp;omega),oK _ _ _ _ jm];exact e
     ·exfalso
      have: ∀(l:List Nat) (k:Nat),l.length≤k→fU 0 l k=0:=by
       intro l
       induction l with
       |nil=>intro k _;rfl
       |cons x xs ih=>intro k hk;cases k with|zero=>simp at hk|succ k=>exact ih k (by simpa using hk)
      rw[this acc p (by omega)]at e;simp at e
    ·rintro⟨p,hp,e⟩
     refine⟨p,hp,e.imp id fun e=> ?_⟩
     by_cases jm:p<acc.length
     ·rw[if_pos jm,h2 p (by simp;omega),oK _ _ _ _ jm]at e;exact e
     ·rw[if_neg jm]at e;simp at e
   |succ j=>
    have:=h3 j qs (by simpa using hq) i
    rw[show(acc++ [Ag acc ps]).length+j=acc.length+(j+1)by simp;omega]at this
    exact this
theorem wH: ∀(rn:List (List Nat)) (i0:Nat),wa i0 rn=true→ ∀j ps,rn[j]? =some ps→ ∀p∈ps,p<i0+j
 | [],i0,h,j,ps,hj,p,hp=>by simp at hj
 |q::rn,i0,h,j,ps,hj,p,hp=>by
  simp only[wa,Bool.and_eq_true,List.all_eq_true]at h
  cases j with
  |zero=>simp at hj;subst hj;simpa using h.1 p hp
  |succ j=>
   have:=wH rn (i0+1) h.2 j ps (by simpa using hj) p hp
   omega
theorem AD{m:Nat}{as:List fe}{k:Nat}{a:fe}:(k,a)∈Ah m as↔as[k]? =some a∧m.testBit k=false:=by
 unfold Ah
 rw[List.mem_filter,List.mem_map]
 constructor
 ·rintro⟨⟨p,hp,e⟩,h2⟩
  simp at e;obtain⟨rfl,rfl⟩:=e
  rw[List.mem_zipIdx_iff_getElem?]at hp
  exact⟨hp,by simpa using h2⟩
 ·rintro⟨h1,h2⟩
  exact⟨⟨(a,k),List.mem_zipIdx_iff_getElem?.2 h1,rfl⟩,by simpa using h2⟩
theorem wI: ∀(rest before:List fe) (ms:List Nat),wb ms before rest=true→ ∀j a,rest[j]? =some a→ ∀m,ms[j]? =some m→ ∀k a',k<before.length+j→(before++rest)[k]? =some a'→m.testBit k=false→kq a' a=true
 | [],before,ms,h,j,a,hj,m,hm,k,a',hk,ha,hb=>by simp at hj
 |r::rest,before,[],h,j,a,hj,m,hm,k,a',hk,ha,hb=>by simp at hm
 |r::rest,before,m0::ms,h,j,a,hj,m,hm,k,a',hk,ha,hb=>by
  simp only[wb,Bool.and_eq_true,List.all_eq_true]at h
  cases j with
  |zero=>
   simp at hj hm;subst hj;subst hm
   have:before[k]? =some a':=by rw[List.getElem?_append_left (by omega)]at ha;exact ha
   exact h.1 (k,a') (AD.2 ⟨this,hb⟩)
  |succ j=>
   exact wI rest (before++ [r]) ms h.2 j a (by simpa using hj) m (by simpa using hm) k a' (by simp;omega) (by simpa using ha) hb
variable{E:Env}{call:qz}{n:Nat}
theorem AE: ∀(rest before:List fe) (ms:List Nat) (g8:List FP) (st stN:St),g8.length=before.length→ms.length=rest.length→fN E call n (rL ms before rest) g8 st=some stN→
  ∃(pre:Nat→St) (fp:Nat→FP),pre 0=st∧pre rest.length=stN∧ ∀j a m,rest[j]? =some a→ms[j]? =some m→gh E call n a (pre j)=some (pre (j+1))∧gK E call a (pre j)=some (fp j)∧
   ∀k a',k<before.length+j→(before++rest)[k]? =some a'→m.testBit k=false→quiet a.op=false→quiet a'.op=false→apart (if k<before.length then fU ⟨true,[],[]⟩ g8 k else fp (k-before.length)) (fp j)=true
 | [],before,ms,g8,st,stN,hl,hm,h=>by
   cases ms with
   |cons _ _=>simp at hm
   |nil=>simp[rL,fN]at h;subst h;exact⟨fun _=>st,fun _=>mL,rfl,rfl,by simp⟩
 |r::rest,before,[],g8,st,stN,hl,hm,h=>by simp at hm
 |r::rest,before,m0::ms,g8,st,stN,hl,hm,h=>by
  simp only[rL,fN]at h
  cases hf:gK E call r st with
  |none=>simp[hf]at h
  |some fp0=>
   simp only[hf]at h
   generalize hu:(if quiet r.op=true then []else((Ah m0 before).filter fun p=> !quiet p.2.op).map (·.1))=uno at h
   split at h
   ·rename_i gz
    cases he:gh E call n r st with
    |none=>simp[he]at h
    |some jS=>
     simp only[he]at h
     obtain⟨pre,fp,p1,p2,p3⟩:=AE rest (before++ [r]) ms (g8++ [fp0]) jS stN (by simp[hl]) (by simpa using hm) h
     refine⟨fun j=>match j with|0=>st|j+1=>pre j,fun j=>match j with|0=>fp0|j+1=>fp j,rfl,p2,fun j a m hj Pg=> ?_⟩
     cases j with
     |zero=>
      simp at hj Pg;subst hj;subst Pg
      refine⟨by simp only;rw[he,p1],hf,fun k a' hk ha hb xt wJ=> ?_⟩
      have hkb:k<before.length:=by omega
      rw[if_pos hkb]
      have tr:before[k]? =some a':=by rw[List.getElem?_append_left hkb]at ha;exact ha
      rw[List.all_eq_true]at gz
      refine gz k ?_
      rw[←hu,if_neg (by rw[xt];simp)]
      exact List.mem_map.2 ⟨(k,a'),List.mem_filter.2 ⟨AD.2 ⟨tr,hb⟩,by simp[wJ]⟩,rfl⟩
     |succ j=>
      obtain⟨e1,e2,e3⟩:=p3 j a m (by simpa using hj) (by simpa using Pg)
      refine⟨e1,e2,fun k a' hk ha hb xt wJ=> ?_⟩
      have:=e3 k a' (by simp;omega) (by simpa using ha) hb xt wJ
      by_cases h1:k<before.length
      ·rw[if_pos h1]
       rw[if_pos (by simp;omega),oK _ _ _ _ (by omega)]at this
       exact this
      ·rw[if_neg h1]
       by_cases h2:k=before.length
       ·subst h2
        rw[if_pos (by simp),←hl,uv]at this
        simpa using this
       ·rw[if_neg (by simp;omega)]at this
        obtain⟨x,hx⟩: ∃x,k-before.length=x+1:=⟨k-before.length-1,by omega⟩
        rw[hx]
        simp only
        have SO:k-(before++ [r]).length=x:=by simp;omega
        rw[SO]at this
        exact this
   ·cases h
theorem F9{a:fe}{p:St}{fp:FP}(hq:quiet a.op=true)(h:gK E call a p=some fp):fp.all=false∧fp.r= []∧fp.w= []:=by
 obtain⟨q1,q2,q3,q4⟩:=Pf (ρ:=p.rho) hq (a.d.getD 0) p.get p.sh.length
 have core:(match gD p.rho a.op with
       |some (some c)=>jJ E call (a.d.getD 0) p c.1 c.2
       |some none=>none
       |none=>
        let q:=gA (a.d.getD 0) p.rho a.op
        match q.run p.get p.sh.length with
        |some (.val _ ups)=>if q.asks p.get p.sh.length||uk p ups then some (⟨q.asks p.get p.sh.length,q.log p.get p.sh.length,iB ups⟩:FP)else none
        |none=>none)=some fp→fp.all=false∧fp.r= []∧fp.w= []:=by
  intro hh
  rw[q1]at hh
  simp only at hh
  split at hh
  ·rename_i v ups hr
   have:=q4 v ups hr;subst this
   split at hh
   ·simp at hh;subst hh;exact⟨q3,q2,rfl⟩
   ·cases hh
  ·cases hh
 unfold gK at h
 cases hg:a.gd with
 |none=>simp only[hg]at h;exact core h
 |some g=>
  simp only[hg]at h
  split at h
  ·split at h
   ·exact core h
   ·simp at h;subst h;exact⟨rfl,rfl,rfl⟩
  ·simp at h;subst h;exact⟨rfl,rfl,rfl⟩
theorem Ph: ∀(a b:List fg),(∀k,gC a k=gC b k)→a.length=b.length→a=b
 | [],[],_,_=>rfl
 | [],y::ys,_,h=>by simp at h
 |x::xs,[],_,h=>by simp at h
 |x::xs,y::ys,h,hl=>by
  have h0:x=y:=h 0
  rw[h0,Ph xs ys (fun k=>h (k+1)) (by simpa using hl)]
end Go.Ev
namespace Go.Ev
open Go
variable{E:Env}{call:qz}{n:Nat}
structure oy (E:Env) (call:qz) (n:Nat) (as:List fe) (rn:List (List Nat)) (bit:Nat→Nat→Bool) (pre:Nat→St) (fp:Nat→FP):Prop where
 len:rn.length=as.length
 edges: ∀(j:Nat) (ps:List Nat),rn[j]? =some ps→ ∀p∈ps,p<j
 bits: ∀(j:Nat) (ps:List Nat),rn[j]? =some ps→ ∀i,bit j i=true↔ ∃p∈ps,p=i∨bit p i=true
 run: ∀(j:Nat) (a:fe),as[j]? =some a→gh E call n a (pre j)=some (pre (j+1))∧gK E call a (pre j)=some (fp j)
 slots: ∀(j:Nat) (a:fe) (k:Nat) (a':fe),as[j]? =some a→as[k]? =some a'→k<j→bit j k=false→kq a' a=true
 apart: ∀(j:Nat) (a:fe) (k:Nat) (a':fe),as[j]? =some a→as[k]? =some a'→k<j→bit j k=false→quiet a.op=false→quiet a'.op=false→Ev.apart (fp k) (fp j)=true
variable{as:List fe}{rn:List (List Nat)}{bit:Nat→Nat→Bool}{pre:Nat→St}{fp:Nat→FP}
def AF(rn:List (List Nat))(L:Nat→Prop):Prop:= ∀(j:Nat) (ps:List Nat),rn[j]? =some ps→L j→ ∀p∈ps,L p
theorem yD(R:oy E call n as rn bit pre fp){L:Nat→Prop}(hc:AF rn L): ∀(j:Nat) (ps:List Nat),rn[j]? =some ps→(∀p∈ps,L p)→ ∀i,bit j i=true→L i:=by
 intro j
 induction j using Nat.strongRecOn with
 |_ j ih=>
  intro ps hj hp i hb
  obtain⟨p,h1,h2⟩:=(R.bits j ps hj i).1 hb
  rcases h2 with rfl|h2
  ·exact hp p h1
  ·have jm:=R.edges j ps hj p h1
   have hpl:p<rn.length:=Nat.lt_trans jm (List.getElem?_eq_some_iff.1 hj).1
   have yE:rn[p]? =some rn[p]:=List.getElem?_eq_getElem hpl
   exact ih p jm _ yE (hc p _ yE (hp p h1)) i h2
theorem qO(R:oy E call n as rn bit pre fp){L:Nat→Prop}(hc:AF rn L){i j:Nat}(hi:i<as.length)(hj:j<as.length)(Z2: ¬L i)(hpi: ∀ps,rn[i]? =some ps→ ∀p∈ps,L p)(ho:i=j∨(j<i∧bit i j=true)∨(i<j∧bit j i=true)):L j↔j<i:=by
 rcases ho with rfl|⟨h1,h2⟩|⟨h1,h2⟩
 ·exact⟨fun h=>absurd h Z2,fun h=>absurd h (Nat.lt_irrefl _)⟩
 ·refine⟨fun _=>h1,fun _=> ?_⟩
  have qP:i<rn.length:=by rw[R.len];exact hi
  have yE:rn[i]? =some rn[i]:=List.getElem?_eq_getElem qP
  exact yD R hc i _ yE (hpi _ yE) j h2
 ·refine⟨fun hL=>absurd ?_ Z2,fun h=>by omega⟩
  have rN:j<rn.length:=by rw[R.len];exact hj
  have yE:rn[j]? =some rn[j]:=List.getElem?_eq_getElem rN
  exact yD R hc j _ yE (hc j _ yE hL) i h2
structure Inv (as:List fe) (pre:Nat→St) (fp:Nat→FP) (L:Nat→Prop) (s:St):Prop where
 slot: ∀t i,i≤as.length→(∀(j:Nat) (a:fe),as[j]? =some a→a.d=some t→(L j↔j<i))→an s.fr t=an (pre i).fr t
 key: ∀sp k i,i≤as.length→(∀j,j<as.length→wrote (fp j) sp k→(L j↔j<i))→s.get sp k=(pre i).get sp k
 len: ∀i,i≤as.length→(∀j,j<as.length→(fp j).all=true→(L j↔j<i))→s.sh.length=(pre i).sh.length
theorem AG(R:oy E call n as rn bit pre fp){j:Nat}{a:fe}(hj:as[j]? =some a):TK a (fp j) (pre j) (pre (j+1)) (pre (j+1)):=by
 obtain⟨h1,h2⟩:=R.run j a hj
 obtain⟨s',e1,e2⟩:=F7 (s:=pre j) h1 h2 (fun _ _=>rfl) (fun _ _ _=>rfl) (fun _=>rfl)
 rw[h1]at e1;simp at e1;subst e1
 exact e2
theorem Ga(R:oy E call n as rn bit pre fp)(t i:Nat): ∀i',i≤i'→i'≤as.length→(∀(j:Nat) (a:fe),as[j]? =some a→i≤j→j<i'→a.d≠some t)→an (pre i').fr t=an (pre i).fr t:=by
 intro i' h1
 induction i' with
 |zero=>intro _ _;have:i=0:=by omega
        subst this;rfl
 |succ m ih=>
  intro h2 h3
  by_cases he:i=m+1
  ·subst he;rfl
  ·have TM:m<as.length:=by omega
   have ha:as[m]? =some as[m]:=List.getElem?_eq_getElem TM
   have hl:=(AG R ha).slot t
   rw[if_neg (h3 m _ ha (by omega) (by omega))]at hl
   rw[hl];exact ih (by omega) (by omega) (fun j a b c d=>h3 j a b c (by omega))
theorem Kc(R:oy E call n as rn bit pre fp)(sp:Sp)(k i:Nat): ∀i',i≤i'→i'≤as.length→(∀j,i≤j→j<i'→ ¬wrote (fp j) sp k)→(pre i').get sp k=(pre i).get sp k:=by
 intro i' h1
 induction i' with
 |zero=>intro _ _;have:i=0:=by omega
        subst this;rfl
 |succ m ih=>
  intro h2 h3
  by_cases he:i=m+1
  ·subst he;rfl
  ·have TM:m<as.length:=by omega
   have ha:as[m]? =some as[m]:=List.getElem?_eq_getElem TM
   have hl:=((AG R ha).key sp k).2 (h3 m (by omega) (by omega))
   rw[hl];exact ih (by omega) (by omega) (fun j a b=>h3 j a (by omega))
theorem Kd(R:oy E call n as rn bit pre fp)(i:Nat): ∀i',i≤i'→i'≤as.length→(∀j,i≤j→j<i'→(fp j).all=false)→(pre i').sh.length=(pre i).sh.length:=by
 intro i' h1
 induction i' with
 |zero=>intro _ _;have:i=0:=by omega
        subst this;rfl
 |succ m ih=>
  intro h2 h3
  by_cases he:i=m+1
  ·subst he;rfl
  ·have TM:m<as.length:=by omega
   have ha:as[m]? =some as[m]:=List.getElem?_eq_getElem TM
   have hl:=(AG R ha).len.2 (h3 m (by omega) (by omega))
   rw[hl];exact ih (by omega) (by omega) (fun j a b=>h3 j a (by omega))
theorem either(R:oy E call n as rn bit pre fp){i j:Nat}{a a':fe}(hi:as[i]? =some a)(hj:as[j]? =some a')(jC:i≠j):
  ((j<i∧bit i j=true)∨(i<j∧bit j i=true))∨((kq a a'=true∨kq a' a=true)∧(quiet a.op=true∨quiet a'.op=true∨Ev.apart (fp i) (fp j)=true∨Ev.apart (fp j) (fp i)=true)):=by
 rcases Nat.lt_or_gt_of_ne jC with h|h
 ·cases hb:bit j i with
  |true=>exact .inl (.inr ⟨h,rfl⟩)
  |false=>
   refine .inr ⟨.inl (R.slots j a' i a hj hi h hb), ?_⟩
   cases h1:quiet a.op
   ·cases h2:quiet a'.op
    ·exact .inr (.inr (.inl (R.apart j a' i a hj hi h hb h2 h1)))
    ·exact .inr (.inl rfl)
   ·exact .inl rfl
 ·cases hb:bit i j with
  |true=>exact .inl (.inl ⟨h,rfl⟩)
  |false=>
   refine .inr ⟨.inr (R.slots i a j a' hi hj h hb), ?_⟩
   cases h1:quiet a.op
   ·cases h2:quiet a'.op
    ·exact .inr (.inr (.inr (R.apart i a j a' hi hj h hb h1 h2)))
    ·exact .inr (.inl rfl)
   ·exact .inl rfl
theorem B5{x y:fe}(h:kq x y=true∨kq y x=true){t:Nat}:(x.d=some t→t∉looks y∧y.d≠some t):=by
 intro hx
 rcases h with h|h
 ·unfold kq at h
  rw[hx]at h
  simp at h
  exact⟨h.1.1,fun e=>h.1.2 e⟩
 ·unfold kq at h
  rw[hx]at h
  simp at h
  refine⟨h.2,fun e=> ?_⟩
  rw[e]at h
  simp at h
theorem uw{xs ys:List (Sp×Nat)}(h:lq xs ys=true){κ:Sp×Nat}(h1:κ∈xs)(h2:κ∈ys):False:=by
 unfold lq at h
 rw[List.all_eq_true]at h
 have:=h κ h1
 simp at this
 exact this h2
theorem xL{xs:List (Sp×Nat)}(h:Hz xs=true){k:Nat}(h1:(Sp.S,k)∈xs):False:=by
 unfold Hz at h
 rw[List.all_eq_true]at h
 have:=h _ h1
 simp at this
theorem Pj{x y:FP}(h:Ev.apart x y=true∨Ev.apart y x=true){sp:Sp}{k:Nat}(hw:wrote y sp k):(sp,k)∉x.r∧(sp,k)∉x.w∧ ¬(x.all=true∧sp= .S):=by
 rcases h with h|h <;> unfold Ev.apart at h <;> simp only[Bool.and_eq_true,Bool.or_eq_true,Bool.not_eq_true']at h <;> obtain⟨⟨⟨⟨a1,a2⟩,a3⟩,a4⟩,a5⟩:=h
 ·rcases hw with hw|⟨hw,rfl⟩
  ·refine⟨fun e=>uw a3 e hw,fun e=>uw a2 e hw,fun e=> ?_⟩
   obtain⟨e1,rfl⟩:=e
   rcases a4 with a4|a4
   ·rw[e1]at a4;cases a4
   ·exact xL a4.2 hw
  ·rcases a5 with a5|a5
   ·rw[hw]at a5;cases a5
   ·refine⟨fun e=>xL a5.1 e,fun e=>xL a5.2 e,fun e=> ?_⟩
    rcases a4 with a4|a4
    ·rw[e.1]at a4;cases a4
    ·rw[hw]at a4;simp at a4
 ·rcases hw with hw|⟨hw,rfl⟩
  ·refine⟨fun e=>uw a1 hw e,fun e=>uw a2 hw e,fun e=> ?_⟩
   obtain⟨e1,rfl⟩:=e
   rcases a5 with a5|a5
   ·rw[e1]at a5;cases a5
   ·exact xL a5.2 hw
  ·rcases a4 with a4|a4
   ·rw[hw]at a4;cases a4
   ·refine⟨fun e=>xL a4.1.2 e,fun e=>xL a4.2 e,fun e=> ?_⟩
    rw[e.1]at a4;simp at a4
theorem Pk(R:oy E call n as rn bit pre fp){L:Nat→Prop}(hc:AF rn L){s:St}(I:Inv as pre fp L s){i:Nat}{a:fe}(hi:as[i]? =some a)(Z2: ¬L i)(hpi: ∀ps,rn[i]? =some ps→ ∀p∈ps,L p):
  ∃s',gh E call n a s=some s'∧Inv as pre fp (fun j=>L j∨j=i) s':=by
 have qP:i<as.length:=(List.getElem?_eq_some_iff.1 hi).1
 obtain⟨r1,r2⟩:=R.run i a hi
 have Ke: ∀t,(t∈looks a∨a.d=some t)→ ∀(j:Nat) (a':fe),as[j]? =some a'→a'.d=some t→(L j↔j<i):=by
  intro t ht j a' hj hd
  have rN:=(List.getElem?_eq_some_iff.1 hj).1
  by_cases hij:i=j
  ·subst hij;exact qO R hc qP rN Z2 hpi (.inl rfl)
  ·rcases either R hi hj hij with h|⟨h,_⟩
   ·exact qO R hc qP rN Z2 hpi (.inr h)
   ·exfalso
    have:=B5 (Or.symm h) hd
    rcases ht with ht|ht
    ·exact this.1 ht
    ·exact this.2 ht
 have DT: ∀sp k,((sp,k)∈(fp i).r∨(sp,k)∈(fp i).w∨((fp i).all=true∧sp= .S))→ ∀j,j<as.length→wrote (fp j) sp k→(L j↔j<i):=by
  intro sp k ht j rN hw
  have hj:as[j]? =some as[j]:=List.getElem?_eq_getElem rN
  by_cases hij:i=j
  ·subst hij;exact qO R hc qP rN Z2 hpi (.inl rfl)
  ·rcases either R hi hj hij with h|⟨_,h⟩
   ·exact qO R hc qP rN Z2 hpi (.inr h)
   ·exfalso
    rcases h with h|h|h
    ·obtain⟨q1,q2,q3⟩:=F9 h r2
     rcases ht with ht|ht|ht
     ·rw[q2]at ht;simp at ht
     ·rw[q3]at ht;simp at ht
     ·rw[q1]at ht;cases ht.1
    ·obtain⟨q1,q2,q3⟩:=F9 h (R.run j _ hj).2
     rcases hw with hw|hw
     ·rw[q3]at hw;simp at hw
     ·rw[q1]at hw;cases hw.1
    ·obtain⟨z1,z2,z3⟩:=Pj h hw
     rcases ht with ht|ht|ht
     ·exact z1 ht
     ·exact z2 ht
     ·exact z3 ht
 have Pl:(fp i).all=true→ ∀j,j<as.length→(fp j).all=true→(L j↔j<i):=by
  intro ha j rN Ya
  exact DT .S 0 (.inr (.inr ⟨ha,rfl⟩)) j rN (.inr ⟨Ya,rfl⟩)
 obtain⟨s',e1,e2⟩:=F7 (s:=s) r1 r2 (fun t ht=>I.slot t i (Nat.le_of_lt qP) (fun j a' hj hd=>Ke t (.inl ht) j a' hj hd))
  (fun sp k ht=>I.key sp k i (Nat.le_of_lt qP) (fun j rN hw=>DT sp k (ht.elim .inl fun h=> .inr (.inl h)) j rN hw))
  (fun ha=>Ph _ _ (fun k=>I.key .S k i (Nat.le_of_lt qP) (fun j rN hw=>DT .S k (.inr (.inr ⟨ha,rfl⟩)) j rN hw)) (I.len i (Nat.le_of_lt qP) (Pl ha)))
 refine⟨s',e1,fun t i' Cz hh=> ?_,fun sp k i' Cz hh=> ?_,fun i' Cz hh=> ?_⟩
 ·rw[e2.slot t]
  split
  ·rename_i hd
   have hii:i<i':=(hh i a hi hd).1 (.inr rfl)
   rw[Ga R t (i+1) i' hii Cz]
   intro j a' hj h1 h2 hd'
   have hL:=(hh j a' hj hd').2 h2
   have:=Ke t (.inr hd) j a' hj hd'
   rcases hL with hL|hL
   ·have:=this.1 hL;omega
   ·omega
  ·rename_i hd
   exact I.slot t i' Cz (fun j a' hj hd'=>by
    have:=hh j a' hj hd'
    constructor
    ·exact fun hL=>this.1 (.inl hL)
    ·intro jm
     rcases this.2 jm with hL|hL
     ·exact hL
     ·subst hL;rw[hi]at hj;simp at hj;subst hj;exact absurd hd' hd)
 ·by_cases hw:wrote (fp i) sp k
  ·have hii:i<i':=(hh i qP hw).1 (.inr rfl)
   rw[(e2.key sp k).1 hw,Kc R sp k (i+1) i' hii Cz]
   intro j h1 h2 Yb
   have rN:j<as.length:=by omega
   have hL:=(hh j rN Yb).2 h2
   have:=DT sp k (hw.elim (fun e=> .inr (.inl e)) fun e=> .inr (.inr e)) j rN Yb
   rcases hL with hL|hL
   ·have:=this.1 hL;omega
   ·omega
  ·rw[(e2.key sp k).2 hw]
   exact I.key sp k i' Cz (fun j rN Yb=>by
    have:=hh j rN Yb
    constructor
    ·exact fun hL=>this.1 (.inl hL)
    ·intro jm
     rcases this.2 jm with hL|hL
     ·exact hL
     ·subst hL;exact absurd Yb hw)
 ·cases ha:(fp i).all with
  |true=>
   have hii:i<i':=(hh i qP ha).1 (.inr rfl)
   rw[e2.len.1 ha,Kd R (i+1) i' hii Cz]
   intro j h1 h2
   cases Ya:(fp j).all with
   |false=>rfl
   |true=>
    have rN:j<as.length:=by omega
    have hL:=(hh j rN Ya).2 h2
    have:=Pl ha j rN Ya
    rcases hL with hL|hL
    ·have:=this.1 hL;omega
    ·omega
  |false=>
   rw[e2.len.2 ha]
   exact I.len i' Cz (fun j rN Ya=>by
    have:=hh j rN Ya
    constructor
    ·exact fun hL=>this.1 (.inl hL)
    ·intro jm
     rcases this.2 jm with hL|hL
     ·exact hL
     ·subst hL;rw[ha]at Ya;cases Ya)
end Go.Ev
namespace Go.Ev
open Go
section
variable{P:Program}{E:Env}{call:qz}{n:Nat}{hs:List Nat}{ops:Array Oper}
theorem oz: ∀{os:List Oper} {as:List fe},iU P hs ops os=some as→as.length=os.length∧ ∀(j:Nat) (o:Oper),os[j]? =some o→ ∃a,as[j]? =some a∧tC P hs ops o=some a
 | [],as,h=>by simp[iU]at h;subst h;simp
 |o::os,as,h=>by
  simp only[iU]at h
  split at h
  ·rename_i a as' h1 h2
   simp at h;subst h
   obtain⟨e1,e2⟩:=oz h2
   refine⟨by simp[e1],fun j o' hj=> ?_⟩
   cases j with
   |zero=>simp at hj;subst hj;exact⟨a,rfl,h1⟩
   |succ j=>obtain⟨x,y1,y2⟩:=e2 j o' (by simpa using hj);exact⟨x,by simpa using y1,y2⟩
  ·cases h
theorem Pm(hE:sV P E)(hO:wE P E call){Q:Exit→Act→World→Prop}: ∀(k i:Nat) (as:List fe),i+k=ops.size→iU P hs ops (ops.toList.drop i)=some as→
  ∀{B:jR} {st gj:St} {a:Act} {w:World} {β:fS} {M:fE},fY B st w β M→nl st a w β M n→fi E call n as st=some gj→
  (∀a' w' fW M',fY B gj w' fW M'→nl gj a' w' fW M' n→Tr st w β M gj w' fW M'→w.heap.size≤w'.heap.size→Q .normal a' w')→wpOps P ops Q (List.range' i k) a w
 |0,i,as,H5,hc,B,st,gj,a,w,β,M,h,hf,he,hq=>by
  have hd:ops.toList.drop i= []:=List.drop_eq_nil_of_le (by simp;omega)
  rw[hd]at hc
  simp[iU]at hc;subst hc
  simp[fi]at he;subst he
  simp only[List.range',wpOps]
  exact hq a w β M h hf (Tr.refl _ _ _ _) (Nat.le_refl _)
 |k+1,i,as,H5,hc,B,st,gj,a,w,β,M,h,hf,he,hq=>by
  have hi:i<ops.toList.length:=by simp;omega
  rw[List.drop_eq_getElem_cons hi]at hc
  simp only[iU]at hc
  split at hc
  ·rename_i ao as' h1 h2
   simp at hc;subst hc
   simp only[fi]at he
   split at he
   ·rename_i jS Al
    rw[List.range'_succ,wpOps_cons]
    refine qN hE hO (o:=ops.toList[i]) (by simp at hi ⊢) h1 h hf Al ?_
    intro a' w' fW M' r1 r2 r3 r4
    exact Pm hE hO k (i+1) as' (by omega) h2 r1 r2 he (fun a2 w2 Pn M2 s1 s2 s3 s4=>hq a2 w2 Pn M2 s1 s2 (r3.trans s3 r4) (Nat.le_trans r4 s4))
   ·cases he
  ·cases hc
theorem Yc{B:jR}{s s':St}{w:World}{β:fS}{M:fE}(hg: ∀sp k,s'.get sp k=s.get sp k)(h:fY B s w β M):fY B s' w β M:=by
 have B6:s'.gens=s.gens:=by funext sp k;show(s'.get sp k).g=_;rw[hg]
 refine⟨fun sp k=>by rw[hg,B6];exact h.obj sp k,fun sp k iy k' l1 l2 e=> ?_,h.mlt,fun k hl=> ?_,fun k hl=> ?_,h.os,h.tape,h.output,h.size,h.same,h.keep,h.msup⟩
 ·rw[hg]at l1 l2;rw[B6]at e;exact h.dist sp k iy k' l1 l2 e
 ·rw[hg]at hl;rw[B6];exact h.lblk k hl
 ·rw[hg]at hl;rw[B6];exact h.sblk k hl
theorem Yd{s s':St}{a:Act}{w:World}{β:fS}{M:fE}(hg: ∀sp k,s'.get sp k=s.get sp k)(hf: ∀t,an s'.fr t=an s.fr t)(h:nl s a w β M n):nl s' a w β M n:=by
 have B6:s'.gens=s.gens:=by funext sp k;show(s'.get sp k).g=_;rw[hg]
 exact⟨h.size,h.defers,fun t=>by rw[B6,hf];exact h.slot t⟩
theorem Po{st s s':St}{w w':World}{β fW:fS}{M M':fE}(hg: ∀sp k,s'.get sp k=s.get sp k)(h:Tr st w β M s w' fW M'):Tr st w β M s' w' fW M':=by
 have B6:s'.gens=s.gens:=by funext sp k;show(s'.get sp k).g=_;rw[hg]
 exact⟨h.keep,h.beta,by rw[B6];exact h.gens⟩
theorem Z3(hE:sV P E)(hO:wE P E call){Q:Exit→Act→World→Prop}{as:List fe}{bit:Nat→Nat→Bool}{pre:Nat→St}{fp:Nat→FP}(hc:iU P hs ops ops.toList=some as)
  (R:oy E call n as (ops.toList.map gR) bit pre fp) {B:jR} {st:St} {w:World} {β:fS} {M:fE}:
  ∀(fuel:Nat) (gV:Array Bool) (s:St) (a:Act) (w1:World) (DU:fS) (M1:fE),gV.size=ops.size→((List.range ops.size).filter fun i=> !gV.getD i true).length≤fuel→AF (ops.toList.map gR) (fun j=>gV.getD j false=true)→
   Inv as pre fp (fun j=>gV.getD j false=true) s→fY B s w1 DU M1→nl s a w1 DU M1 n→Tr st w β M s w1 DU M1→w.heap.size≤w1.heap.size→
   (∀a' w' fW M',fY B (pre as.length) w' fW M'→nl (pre as.length) a' w' fW M' n→Tr st w β M (pre as.length) w' fW M'→w.heap.size≤w'.heap.size→Q .normal a' w')→
   wpAny P .any ops Q fuel gV a w1:=by
 obtain⟨hlen,Gb⟩:=oz hc
 have Gc:as.length=ops.size:=by simpa using hlen
 have done: ∀(gV:Array Bool) (s:St) (a:Act) (w1:World) (DU:fS) (M1:fE),gV.size=ops.size→AF (ops.toList.map gR) (fun j=>gV.getD j false=true)→Inv as pre fp (fun j=>gV.getD j false=true) s→fY B s w1 DU M1→nl s a w1 DU M1 n→Tr st w β M s w1 DU M1→w.heap.size≤w1.heap.size→
   (∀a' w' fW M',fY B (pre as.length) w' fW M'→nl (pre as.length) a' w' fW M' n→Tr st w β M (pre as.length) w' fW M'→w.heap.size≤w'.heap.size→Q .normal a' w')→Region.ready .any ops gV= []→Q .normal a w1:=by
  intro gV s a w1 DU M1 hls kg I h hf ht nL hq hr
  have all: ∀j,j<ops.size→gV.getD j false=true:=by
   intro j
   induction j using Nat.strongRecOn with
   |_ j ih=>
    intro hj
    cases hb:gV.getD j false with
    |true=>rfl
    |false=>
     exfalso
     have:j∈Region.ready .any ops gV:=by
      unfold Region.ready
      rw[List.mem_filter]
      refine⟨List.mem_range.2 hj, ?_⟩
      have h1:gV.getD j true=false:=by
       have rN:j<gV.size:=by omega
       simp[Array.getD_eq_getD_getElem?,Array.getElem?_eq_getElem rN]at hb ⊢; exact hb
      rw[h1]
      simp only[Bool.not_false,Bool.true_and]
      have ho:ops[j]? =some ops[j]:=Array.getElem?_eq_getElem hj
      rw[ho]
      simp only[Option.map_some,Option.getD_some]
      rw[←Array.all_toList,List.all_eq_true]
      intro e he
      cases tI:Region.binds .any e with
      |false=>rfl
      |true=>
       simp only[Bool.not_true,Bool.false_or]
       have Z4:e.on∈gR ops[j]:=by
        unfold gR
        exact List.mem_map.2 ⟨e,List.mem_filter.2 ⟨he,tI⟩,rfl⟩
       have hpj:(ops.toList.map gR)[j]? =some (gR ops[j]):=by simp[ho]
       have jm:=R.edges j _ hpj e.on Z4
       exact ih e.on jm (by omega)
     rw[hr]at this;simp at this
  have cond: ∀j,j<as.length→(gV.getD j false=true↔j<as.length):=fun j hj=>⟨fun _=>hj,fun _=>all j (by omega)⟩
  have g1: ∀sp k,(pre as.length).get sp k=s.get sp k:=fun sp k=>(I.key sp k as.length (Nat.le_refl _) (fun j hj _=>cond j hj)).symm
  have g2: ∀t,an (pre as.length).fr t=an s.fr t:=fun t=>(I.slot t as.length (Nat.le_refl _) (fun j a hj _=>cond j (List.getElem?_eq_some_iff.1 hj).1)).symm
  exact hq a w1 DU M1 (Yc g1 h) (Yd g1 g2 hf) (Po g1 ht) nL
 intro fuel
 induction fuel with
 |zero=>
  intro gV s a w1 DU M1 hls agZ kg I h hf ht nL hq
  have hr:Region.ready .any ops gV= []:=by
   have h0:(List.range ops.size).filter (fun i=> !gV.getD i true)= []:=List.eq_nil_of_length_eq_zero (Nat.le_zero.1 agZ)
   unfold Region.ready
   rw[List.filter_eq_nil_iff]at h0 ⊢
   intro x hx hh
   simp only[Bool.and_eq_true]at hh
   exact h0 x hx hh.1
  exact⟨hr,done gV s a w1 DU M1 hls kg I h hf ht nL hq hr⟩
 |succ fuel ih=>
  intro gV s a w1 DU M1 hls agZ kg I h hf ht nL hq
  refine⟨done gV s a w1 DU M1 hls kg I h hf ht nL hq,fun i hi=> ?_⟩
  unfold Region.ready at hi
  rw[List.mem_filter]at hi
  obtain⟨hir,Pp⟩:=hi
  have qP:i<ops.size:=List.mem_range.1 hir
  have ho:ops[i]? =some ops[i]:=Array.getElem?_eq_getElem qP
  rw[ho]at Pp
  simp only[Bool.and_eq_true,Bool.not_eq_true',Option.map_some,Option.getD_some]at Pp
  obtain⟨hn1,hn2⟩:=Pp
  have Z5:i<gV.size:=by omega
  have FZ: ¬(gV.getD i false=true):=by
   simp[Array.getD_eq_getD_getElem?,Array.getElem?_eq_getElem Z5]at hn1 ⊢; exact hn1
  have ag0: ∀ps,(ops.toList.map gR)[i]? =some ps→ ∀p∈ps,gV.getD p false=true:=by
   intro ps yE p hp
   simp[ho]at yE;subst yE
   unfold gR at hp
   obtain⟨e,he,rfl⟩:=List.mem_map.1 hp
   obtain⟨Al,Nw⟩:=List.mem_filter.1 he
   rw[←Array.all_toList,List.all_eq_true]at hn2
   have:=hn2 e Al
   simpa[Nw]using this
  obtain⟨ao,hao,AH⟩:=Gb i ops[i] (by simp)
  obtain⟨s',he,I'⟩:=Pk R kg I hao FZ ag0
  refine qN hE hO ho AH h hf he ?_
  intro a' w' fW M' r1 r2 r3 r4
  have FX: ∀j,(gV.setIfInBounds i true).getD j false=true↔(gV.getD j false=true∨j=i):=by
   intro j
   simp only[Array.getD_eq_getD_getElem?,Array.getElem?_setIfInBounds]
   by_cases hj:i=j
   ·subst hj;simp[Z5]
   ·rw[if_neg hj]
    exact⟨.inl,fun e=>e.resolve_right (fun e=>hj e.symm)⟩
  refine ih (gV.setIfInBounds i true) s' a' w' fW M' (by simp[hls]) ?_ ?_ ?_ r1 r2 (ht.trans r3 nL) (Nat.le_trans nL r4) hq
  ·have hfe:(List.range ops.size).filter (fun j=> !(gV.setIfInBounds i true).getD j true)=((List.range ops.size).filter (fun j=> !gV.getD j true)).filter (fun j=>decide (j≠i)):=by
    rw[List.filter_filter]
    apply List.filter_congr
    intro j hj
    simp only[Array.getD_eq_getD_getElem?,Array.getElem?_setIfInBounds]
    by_cases hji:i=j
    ·subst hji;simp[Z5]
    ·have: ¬j=i:=fun e=>hji e.symm
     rw[if_neg hji];simp[this]
   rw[hfe]
   have jm:(((List.range ops.size).filter (fun j=> !gV.getD j true)).filter (fun j=>decide (j≠i))).length<((List.range ops.size).filter (fun j=> !gV.getD j true)).length:=by
    rw[List.length_filter_lt_length_iff_exists]
    exact⟨i,List.mem_filter.2 ⟨hir,by rw[hn1];rfl⟩,by simp⟩
   omega
  ·intro j ps yE hj p hp
   rw[FX]at hj ⊢
   rcases hj with hj|hj
   ·exact .inl (kg j ps yE hj p hp)
   ·subst hj;exact .inl (ag0 ps yE p hp)
  ·have:(fun j=>(gV.setIfInBounds i true).getD j false=true)=(fun j=>gV.getD j false=true∨j=i):=by funext j;exact propext (FX j)
   rw[this];exact I'
end
end Go.Ev
namespace Go.Ev
open Go
def Z6:Out→Exit
 | .nrm=> .normal
 | .ext id=> .exit id
 | .ret=> .ret
section
variable{P:Program}{E:Env}{call:qz}{n:Nat}{hs:List Nat}
theorem Pq{l:List Nat}{j:Nat}(h:j<l.length):l[j]? =some (fU 0 l j):=by
 induction l generalizing j with
 |nil=>simp at h
 |cons x xs ih=>
  cases j with
  |zero=>rfl
  |succ j=>simp only[fU];simpa using ih (by simpa using h)
theorem Pr(hE:sV P E)(hO:wE P E call)(hm:P.follows .mixedOrders=true){id:Nat}{ops:Array Oper}{as:List fe}(hc:iU P hs ops ops.toList=some as)(Al:wa 0 (ops.toList.map gR)=true)(Nw:wb (qf (ops.toList.map gR) []) [] as=true)
  {B:jR} {st gj:St} {a:Act} {w:World} {β:fS} {M:fE} (h:fY B st w β M) (hf:nl st a w β M n) (Z7:fN E call n (rL (qf (ops.toList.map gR) []) [] as) [] st=some gj) {Q:Exit→Act→World→Prop}
  (hq: ∀a' w' fW M',fY B gj w' fW M'→nl gj a' w' fW M' n→Tr st w β M gj w' fW M'→w.heap.size≤w'.heap.size→Q .normal a' w'):(Code.region id ops true).wp P Q a w:=by
 obtain⟨hlen,Gb⟩:=oz hc
 obtain⟨m1,m2,m3⟩:=AB (ops.toList.map gR) []
 have TM:(qf (ops.toList.map gR) []).length=as.length:=by rw[m1,hlen];simp
 obtain⟨pre,fp,p1,p2,p3⟩:=AE as [] _ [] st gj rfl TM Z7
 have hmj: ∀j,j<as.length→(qf (ops.toList.map gR) [])[j]? =some (fU 0 (qf (ops.toList.map gR) []) j):=fun j hj=>Pq (by rw[TM];exact hj)
 have hed:=wH _ 0 Al
 have R:oy E call n as (ops.toList.map gR) (fun j i=>(fU 0 (qf (ops.toList.map gR) []) j).testBit i) pre fp:=by
  refine⟨by rw[hlen];simp,fun j ps hj p hp=>by have:=hed j ps hj p hp;omega,fun j ps hj i=> ?_,fun j a' hj=> ?_,fun j a1 k a2 hj hk jm hb=> ?_,fun j a1 k a2 hj hk jm hb xt wJ=> ?_⟩
  ·have:=m3 j ps hj i
   simp only[List.length_nil,Nat.zero_add]at this
   rw[this]
   constructor
   ·rintro⟨p,hp,e⟩
    refine⟨p,hp,e.imp (fun x=>x) fun e=> ?_⟩
    rw[if_pos (by have:=hed j ps hj p hp;omega)]at e;exact e
   ·rintro⟨p,hp,e⟩
    refine⟨p,hp,e.imp (fun x=>x) fun e=> ?_⟩
    rw[if_pos (by have:=hed j ps hj p hp;omega)];exact e
  ·obtain⟨e1,e2,_⟩:=p3 j a' _ hj (hmj j (List.getElem?_eq_some_iff.1 hj).1)
   exact⟨e1,e2⟩
  ·exact wI as [] _ Nw j a1 hj _ (hmj j (List.getElem?_eq_some_iff.1 hj).1) k a2 (by simpa using jm) (by simpa using hk) hb
  ·obtain⟨_,_,e3⟩:=p3 j a1 _ hj (hmj j (List.getElem?_eq_some_iff.1 hj).1)
   have:=e3 k a2 (by simpa using jm) (by simpa using hk) hb xt wJ
   simpa using this
 obtain⟨d1,d2⟩:=DJ h (w.drawn+1)
 refine wp_region_any hm ?_
 have ag1: ∀j,((Array.replicate ops.size false).getD j false=true)↔False:=by
  intro j
  simp only[Array.getD_eq_getD_getElem?,Array.getElem?_replicate]
  split <;> simp
 have hI:Inv as pre fp (fun j=>(Array.replicate ops.size false).getD j false=true) st:=by
  have amu:(fun j=>(Array.replicate ops.size false).getD j false=true)=fun _=>False:=by funext j;exact propext (ag1 j)
  rw[amu]
  refine⟨fun t i hi hh=> ?_,fun sp k i hi hh=> ?_,fun i hi hh=> ?_⟩
  ·rw[Ga R t 0 i (Nat.zero_le _) hi (fun j a' hj _ jm hd=>(hh j a' hj hd).2 jm),p1]
  ·rw[Kc R sp k 0 i (Nat.zero_le _) hi (fun j _ jm hw=>(hh j (by omega) hw).2 jm),p1]
  ·rw[Kd R 0 i (Nat.zero_le _) hi (fun j _ jm=>by
    cases FR:(fp j).all with
    |false=>rfl
    |true=>exact((hh j (by omega) FR).2 jm).elim),p1]
 refine Z3 (st:=st) (w:=w) (β:=β) (M:=M) hE hO hc R ops.size _ st a _ β M (by simp) ?_ ?_ hI d1 ⟨hf.size,hf.defers,fun t=>d2.val (hf.slot t)⟩ d2 (Nat.le_refl _) ?_
 ·exact Nat.le_trans (List.length_filter_le _ _) (by simp)
 ·intro j ps _ hj
  exact((ag1 j).1 hj).elim
 ·intro a' w' fW M' r1 r2 r3 r4
  rw[p2]at r1 r2 r3
  exact hq a' w' fW M' r1 r2 r3 r4
theorem jX{ops:Array Oper}{L:Array Bool}{i:Nat}(hi:i<ops.size):i∈Region.ready .any ops L↔L.getD i true=false∧ ∀p∈gR ops[i],L.getD p false=true:=by
 have ho:ops[i]? =some ops[i]:=Array.getElem?_eq_getElem hi
 unfold Region.ready
 rw[List.mem_filter,List.mem_range,ho]
 simp only[Bool.and_eq_true,Bool.not_eq_true',Option.map_some,Option.getD_some,hi,true_and]
 refine and_congr_right fun _=> ?_
 rw[←Array.all_toList,List.all_eq_true]
 constructor
 ·intro h p hp
  unfold gR at hp
  obtain⟨e,he,rfl⟩:=List.mem_map.1 hp
  obtain⟨Al,Nw⟩:=List.mem_filter.1 he
  have:=h e Al
  simpa[Nw]using this
 ·intro h e he
  cases tI:Region.binds .any e with
  |false=>rfl
  |true=>
   simp only[Bool.not_true,Bool.false_or]
   exact h e.on (List.mem_map.2 ⟨e,List.mem_filter.2 ⟨he,tI⟩,rfl⟩)
theorem rO{ops:Array Oper}{L:Array Bool}{i:Nat}(h:i∈Region.ready .any ops L):i<ops.size:=by
 unfold Region.ready at h
 exact List.mem_range.1 (List.mem_filter.1 h).1
theorem ki{o:fe}{os:List fe}{st s:St}(h:fi E call n (o::os) st=some s): ∃t,gh E call n o st=some t∧fi E call n os t=some s:=by
 simp only[fi]at h
 split at h
 ·rename_i t ht;exact⟨t,ht,h⟩
 ·cases h
theorem TN(hE:sV P E)(hO:wE P E call)(hm:P.follows .mixedOrders=true){id:Nat}{ops:Array Oper}{o0 o1 o2 o3:fe}(hc:iU P hs ops ops.toList=some [o0,o1,o2,o3])(hp:DI (ops.toList.map gR)=true)
  {B:jR} {st s1 s2:St} {a:Act} {w:World} {β:fS} {M:fE} (h:fY B st w β M) (hf:nl st a w β M n) (e1:fi E call n [o0,o1,o2,o3] st=some s1) (e2:fi E call n [o0,o2,o1,o3] st=some s2) {Q:Exit→Act→World→Prop}
  (q1: ∀a' w' fW M',fY B s1 w' fW M'→nl s1 a' w' fW M' n→Tr st w β M s1 w' fW M'→w.heap.size≤w'.heap.size→Q .normal a' w')
  (q2: ∀a' w' fW M',fY B s2 w' fW M'→nl s2 a' w' fW M' n→Tr st w β M s2 w' fW M'→w.heap.size≤w'.heap.size→Q .normal a' w'):(Code.region id ops true).wp P Q a w:=by
 obtain⟨hlen,Gb⟩:=oz hc
 have nL:ops.size=4:=by simpa using hlen.symm
 obtain⟨t0,f0,e1⟩:=ki e1
 obtain⟨t1,f1,e1⟩:=ki e1
 obtain⟨t2,f2,e1⟩:=ki e1
 obtain⟨t3,f3,e1⟩:=ki e1
 simp only[fi,Option.some.injEq]at e1
 subst e1
 obtain⟨t0',g0,e2⟩:=ki e2
 obtain⟨u1,g1,e2⟩:=ki e2
 obtain⟨u2,g2,e2⟩:=ki e2
 obtain⟨u3,g3,e2⟩:=ki e2
 simp only[fi,Option.some.injEq]at e2
 subst e2
 rw[f0]at g0
 injection g0 with g0
 subst g0
 have mW: ∀j (hj:j<ops.size) (ao:fe),[o0,o1,o2,o3][j]? =some ao→tC P hs ops ops[j]=some ao:=by
  intro j hj ao hao
  obtain⟨x,hx,hy⟩:=Gb j ops[j] (by simp)
  rw[hao]at hx
  injection hx with hx
  subst hx;exact hy
 have yE: ∃p1 p2 p3,ops.toList.map gR= [[],p1,p2,p3]∧0∈p1∧0∈p2∧(∀x∈p1,x<1)∧(∀x∈p2,x<1)∧1∈p3∧2∈p3∧ ∀x∈p3,x<3:=by
  unfold DI at hp
  split at hp
  ·rename_i p1 p2 p3 heq
   simp only[Bool.and_eq_true,List.contains_iff_mem,List.all_eq_true,decide_eq_true_eq]at hp
   exact⟨p1,p2,p3,heq,hp.1.1.1.1.1.1,hp.1.1.1.1.1.2,hp.1.1.1.1.2,hp.1.1.1.2,hp.1.1.2,hp.1.2,hp.2⟩
  ·cases hp
 obtain⟨p1,p2,p3,amv,a1,a2,b1,b2,c1,c2,c3⟩:=yE
 have hpr: ∀j (hj:j<ops.size) (ps:List Nat),[[],p1,p2,p3][j]? =some ps→gR ops[j]=ps:=by
  intro j hj ps hq
  have:(ops.toList.map gR)[j]? =some (gR ops[j]):=by simp[Array.getElem?_eq_getElem hj]
  rw[amv,hq]at this
  injection this with this
  exact this.symm
 have h0s:0<ops.size:=by omega
 have Z8:1<ops.size:=by omega
 have h2s:2<ops.size:=by omega
 have h3s:3<ops.size:=by omega
 have r0:=hpr 0 h0s [] rfl
 have r1:=hpr 1 Z8 p1 rfl
 have r2:=hpr 2 h2s p2 rfl
 have r3:=hpr 3 h3s p3 rfl
 obtain⟨d1,d2⟩:=DJ h (w.drawn+1)
 refine wp_region_any hm ?_
 rw[nL]
 have base:nl st a {w with drawn:=w.drawn+1} β M n:=⟨hf.size,hf.defers,fun t=>d2.val (hf.slot t)⟩
 have sz0:w.heap.size≤{w with drawn:=w.drawn+1}.heap.size:=Nat.le_refl _
 have last: ∀(t s:St),gh E call n o3 t=some s→(∀a' w' fW M',fY B s w' fW M'→nl s a' w' fW M' n→Tr st w β M s w' fW M'→w.heap.size≤w'.heap.size→Q .normal a' w')→
   ∀a' w' fW M',fY B t w' fW M'→nl t a' w' fW M' n→Tr st w β M t w' fW M'→w.heap.size≤w'.heap.size→wpAny P .any ops Q 1 #[true,true,true,false] a' w':=by
  intro t s he hq a' w' fW M' x1 x2 x3 x4
  refine⟨fun hr=> ?_,fun i hi=> ?_⟩
  ·have:3∈Region.ready .any ops #[true,true,true,false]:=(jX h3s).2 ⟨rfl,fun p hp=>by
    rw[r3]at hp
    have:=c3 p hp
    have:p=0∨p=1∨p=2:=by omega
    rcases this with rfl|rfl|rfl <;> rfl⟩
   rw[hr]at this;cases this
  ·have qP:=rO hi
   obtain⟨y1,_⟩:=(jX qP).1 hi
   have:i=0∨i=1∨i=2∨i=3:=by omega
   rcases this with rfl|rfl|rfl|rfl
   ·cases y1
   ·cases y1
   ·cases y1
   ·refine qN hE hO (o:=ops[3]) (Array.getElem?_eq_getElem h3s) (mW 3 h3s o3 rfl) x1 x2 he ?_
    intro a2 w2 Pn M2 z1 z2 z3 z4
    have hr0:Region.ready .any ops (#[true,true,true,false].setIfInBounds 3 true)= []:=by
     rw[List.eq_nil_iff_forall_not_mem]
     intro i hi
     have qP:=rO hi
     obtain⟨y1,_⟩:=(jX qP).1 hi
     have:i=0∨i=1∨i=2∨i=3:=by omega
     rcases this with rfl|rfl|rfl|rfl <;> cases y1
    exact⟨hr0,hq a2 w2 Pn M2 z1 z2 (x3.trans z3 x4) (Nat.le_trans x4 z4)⟩
 refine⟨fun hr=> ?_,fun i hi=> ?_⟩
 ·have:0∈Region.ready .any ops (Array.replicate 4 false):=(jX h0s).2 ⟨rfl,fun p hp=>by rw[r0]at hp;cases hp⟩
  rw[hr]at this;cases this
 ·have qP:=rO hi
  obtain⟨y1,y2⟩:=(jX qP).1 hi
  have:i=0∨i=1∨i=2∨i=3:=by omega
  rcases this with rfl|rfl|rfl|rfl
  ·refine qN hE hO (o:=ops[0]) (Array.getElem?_eq_getElem h0s) (mW 0 h0s o0 rfl) d1 base f0 ?_
   intro a' w' fW M' x1 x2 x3 x4
   have x3':Tr st w β M t0 w' fW M':=d2.trans x3 sz0
   show wpAny P .any ops Q 3 #[true,false,false,false] a' w'
   refine⟨fun hr=> ?_,fun i hi=> ?_⟩
   ·have:1∈Region.ready .any ops #[true,false,false,false]:=(jX Z8).2 ⟨rfl,fun p hp=>by
     rw[r1]at hp
     have:=b1 p hp
     have:p=0:=by omega
     subst this;rfl⟩
    rw[hr]at this;cases this
   ·have qP:=rO hi
    obtain⟨y1,y2⟩:=(jX qP).1 hi
    have:i=0∨i=1∨i=2∨i=3:=by omega
    rcases this with rfl|rfl|rfl|rfl
    ·cases y1
    ·refine qN hE hO (o:=ops[1]) (Array.getElem?_eq_getElem Z8) (mW 1 Z8 o1 rfl) x1 x2 f1 ?_
     intro a2 w2 Pn M2 z1 z2 z3 z4
     have z3':=x3'.trans z3 x4
     show wpAny P .any ops Q 2 #[true,true,false,false] a2 w2
     refine⟨fun hr=> ?_,fun i hi=> ?_⟩
     ·have:2∈Region.ready .any ops #[true,true,false,false]:=(jX h2s).2 ⟨rfl,fun p hp=>by
       rw[r2]at hp
       have:=b2 p hp
       have:p=0:=by omega
       subst this;rfl⟩
      rw[hr]at this;cases this
     ·have qP:=rO hi
      obtain⟨y1,y2⟩:=(jX qP).1 hi
      have:i=0∨i=1∨i=2∨i=3:=by omega
      rcases this with rfl|rfl|rfl|rfl
      ·cases y1
      ·cases y1
      ·refine qN hE hO (o:=ops[2]) (Array.getElem?_eq_getElem h2s) (mW 2 h2s o2 rfl) z1 z2 f2 ?_
       intro a3 w3 β3 M3 v1 v2 v3 v4
       exact last t2 t3 f3 q1 a3 w3 β3 M3 v1 v2 (z3'.trans v3 (Nat.le_trans x4 z4)) (Nat.le_trans x4 (Nat.le_trans z4 v4))
      ·have:=y2 2 (by rw[r3];exact c2);cases this
    ·refine qN hE hO (o:=ops[2]) (Array.getElem?_eq_getElem h2s) (mW 2 h2s o2 rfl) x1 x2 g1 ?_
     intro a2 w2 Pn M2 z1 z2 z3 z4
     have z3':=x3'.trans z3 x4
     show wpAny P .any ops Q 2 #[true,false,true,false] a2 w2
     refine⟨fun hr=> ?_,fun i hi=> ?_⟩
     ·have:1∈Region.ready .any ops #[true,false,true,false]:=(jX Z8).2 ⟨rfl,fun p hp=>by
       rw[r1]at hp
       have:=b1 p hp
       have:p=0:=by omega
       subst this;rfl⟩
      rw[hr]at this;cases this
     ·have qP:=rO hi
      obtain⟨y1,y2⟩:=(jX qP).1 hi
      have:i=0∨i=1∨i=2∨i=3:=by omega
      rcases this with rfl|rfl|rfl|rfl
      ·cases y1
      ·refine qN hE hO (o:=ops[1]) (Array.getElem?_eq_getElem Z8) (mW 1 Z8 o1 rfl) z1 z2 g2 ?_
       intro a3 w3 β3 M3 v1 v2 v3 v4
       exact last u2 u3 g3 q2 a3 w3 β3 M3 v1 v2 (z3'.trans v3 (Nat.le_trans x4 z4)) (Nat.le_trans x4 (Nat.le_trans z4 v4))
      ·cases y1
      ·have:=y2 1 (by rw[r3];exact c1);cases this
    ·have:=y2 1 (by rw[r3];exact c1);cases this
  ·have:=y2 0 (by rw[r1];exact a1);cases this
  ·have:=y2 0 (by rw[r2];exact a2);cases this
  ·have:=y2 1 (by rw[r3];exact c1);cases this
theorem rP(ks:List Nat)(f:Fr)(j:Nat):an (v5 ks f) j=if j∈ks then .any else an f j:=by
 induction ks with
 |nil=>simp[v5]
 |cons k ks ih=>
  rw[v5,od,ih]
  by_cases h:j=k
  ·simp[h]
  ·rw[if_neg h];simp[h]
theorem CF(ks:List Nat)(l l':fC fg)(j:Nat):fC.get jq (Ac ks l l') j=if j∈ks then⟨max (fC.get jq l j).g (fC.get jq l' j).g,.none⟩else fC.get jq l j:=by
 induction ks with
 |nil=>simp[Ac]
 |cons k ks ih=>
  rw[Ac,fC.get_set,ih]
  by_cases h:j=k
  ·subst h;simp
  ·rw[if_neg h];simp[h]
theorem tJ(ks:List Nat)(s t:St)(sp:Sp)(k:Nat):(rH ks s t).get sp k=if sp= .L∧k∈ks then⟨max (s.get sp k).g (t.get sp k).g,.none⟩else s.get sp k:=by
 cases sp with
 |S=>rw[if_neg (by simp)];rfl
 |L=>
  show fC.get jq (Ac ks s.lh t.lh) k=_
  rw[CF]
  by_cases h:k∈ks
  ·rw[if_pos h,if_pos ⟨rfl,h⟩];rfl
  ·rw[if_neg h,if_neg (by simp[h])];rfl
theorem xM(ks:List Nat)(s t:St)(sp:Sp)(k:Nat):s.gens sp k≤(rH ks s t).gens sp k:=by
 show(s.get sp k).g≤((rH ks s t).get sp k).g
 rw[tJ]
 split
 ·exact Nat.le_max_left _ _
 ·exact Nat.le_refl _
theorem rQ{ks:List Nat}{s t:St}{sp:Sp}{k:Nat}(h:live ((rH ks s t).get sp k)):(rH ks s t).get sp k=s.get sp k∧live (s.get sp k):=by
 rw[tJ]at h ⊢
 split at h
 ·exact h.elim
 ·rename_i hn;rw[if_neg hn];exact⟨rfl,h⟩
theorem sE{ks:List Nat}{s t:St}{sp:Sp}{k:Nat}(h:live ((rH ks s t).get sp k)):(rH ks s t).gens sp k=s.gens sp k:=by
 show((rH ks s t).get sp k).g=(s.get sp k).g
 rw[(rQ h).1]
theorem Ps(ks:List Nat)(t:St){B:jR}{s:St}{w:World}{β:fS}{M:fE}(h:fY B s w β M):fY B (rH ks s t) w β M:=by
 refine⟨fun sp k=> ?_,fun sp k iy k' l1 l2 e=> ?_,h.mlt,fun k hl=> ?_,fun k hl=> ?_,h.os,h.tape,h.output,h.size,h.same,h.keep,h.msup⟩
 ·rw[tJ]
  split
  ·unfold jf;trivial
  ·exact jf.mono (iW.refl w M) (fun _ _ _ _=>rfl) (xM ks s t) (Nat.le_refl _) (fun _=>rfl) (fun _ _ h=>h) (h.obj sp k)
 ·rw[sE l1,sE l2]at e;exact h.dist sp k iy k' (rQ l1).2 (rQ l2).2 e
 ·rw[sE hl];exact h.lblk k (rQ hl).2
 ·rw[sE hl];exact h.sblk k (rQ hl).2
theorem Pt(ks:List Nat)(t:St){s:St}{a:Act}{w:World}{β:fS}{M:fE}(h:nl s a w β M n):nl (rH ks s t) a w β M n:=by
 refine⟨h.size,h.defers,fun i=> ?_⟩
 show fk β (rH ks s t).gens w M (an (v5 ks s.fr) i) _
 rw[rP]
 split
 ·simp only[fk]
 ·exact fk.mono (iW.refl w M) (fun _ _ _ _=>rfl) (xM ks s t) _ _ (h.slot i)
theorem Pu(ks:List Nat)(t:St){st s:St}{w w':World}{β fW:fS}{M M':fE}(h:Tr st w β M s w' fW M'):Tr st w β M (rH ks s t) w' fW M':=⟨h.keep,h.beta,fun sp k=>Nat.le_trans (h.gens sp k) (xM ks s t sp k)⟩
theorem AI{ks:List Nat}{s t:St}(h:Ad ks s t)(sp:Sp)(k:Nat):(rH ks s t).get sp k=(rH ks t s).get sp k:=by
 obtain⟨h1,_,h4⟩:=h
 cases sp with
 |S=>show gC s.sh k=gC t.sh k;rw[h1]
 |L=>
  rw[tJ,tJ]
  by_cases hk:k∈ks
  ·rw[if_pos ⟨rfl,hk⟩,if_pos ⟨rfl,hk⟩,Nat.max_comm]
  ·rw[if_neg (by simp[hk]),if_neg (by simp[hk])]
   exact h4 k hk
theorem TO{ks:List Nat}{s t:St}(h:Ad ks s t)(k:Nat):an (rH ks s t).fr k=an (rH ks t s).fr k:=by
 show an (v5 ks s.fr) k=an (v5 ks t.fr) k
 rw[rP,rP]
 split
 ·rfl
 ·rename_i hk;exact h.2.1 k hk
theorem vw{ks:List Nat}{r1 r2:Option (Out×St)}{o:Out}{s:St}(h:JS ks r1 r2=some (o,s)): ∃t1 t2,r1=some (o,t1)∧r2=some (o,t2)∧Ad ks t1 t2∧s=rH ks t1 t2:=by
 unfold JS at h
 split at h
 ·rename_i o1 t1 o2 t2
  split at h
  ·rename_i hc
   obtain⟨rfl,hs⟩:=hc
   simp only[Option.some.injEq,Prod.mk.injEq]at h
   obtain⟨rfl,rfl⟩:=h
   exact⟨t1,t2,rfl,rfl,hs,rfl⟩
  ·cases h
 ·cases h
theorem Ge(a:Code)(a' b':fm):JU P hs a a' b'= .seq a' b'∨ ∃id ops o0 o1 o2 o3,a= .region id ops true∧iU P hs ops ops.toList=some [o0,o1,o2,o3]∧DI (ops.toList.map gR)=true∧JU P hs a a' b'= .fork [o0,o1,o2,o3] [o0,o2,o1,o3] b':=by
 unfold JU
 split
 ·rename_i id ops
  split
  ·rename_i o0 o1 o2 o3 hc
   split
   ·rename_i hf
    rw[Bool.and_eq_true]at hf
    exact .inr ⟨id,ops,o0,o1,o2,o3,rfl,hc,hf.1,rfl⟩
   ·exact .inl rfl
  ·exact .inl rfl
 ·exact .inl rfl
theorem Z9(hE:sV P E)(hO:wE P E call)(hm:P.follows .mixedOrders=true)(fl:Nat): ∀(c:Code) (ac:fm),lL P hs c=some ac→
  ∀{B:jR} {st gj:St} {a:Act} {w:World} {β:fS} {M:fE} {o:Out},fY B st w β M→nl st a w β M n→la E call fl n ac st=some (o,gj)→ ∀{Q:Exit→Act→World→Prop},
  (∀a' w' fW M',fY B gj w' fW M'→nl gj a' w' fW M' n→Tr st w β M gj w' fW M'→w.heap.size≤w'.heap.size→Q (Z6 o) a' w')→c.wp P Q a w:=by
 intro c
 induction c with
 |skip=>
  intro ac hc B st gj a w β M o h hf he Q hq
  simp[lL]at hc;subst hc
  simp[la]at he;obtain⟨rfl,rfl⟩:=he
  exact wp_skip (hq a w β M h hf (Tr.refl _ _ _ _) (Nat.le_refl _))
 |region id ops draw=>
  intro ac hc B st gj a w β M o h hf he Q hq
  cases draw with
  |false=>
   simp only[lL,Option.map_eq_some_iff]at hc
   obtain⟨as,h1,rfl⟩:=hc
   simp only[la,Option.map_eq_some_iff]at he
   obtain⟨jS,h2,h3⟩:=he
   simp at h3;obtain⟨rfl,rfl⟩:=h3
   refine wp_region ?_
   rw[List.range_eq_range']
   exact Pm hE hO ops.size 0 as (by omega) (by simpa using h1) h hf h2 hq
  |true=>
   simp only[lL]at hc
   split at hc
   ·rename_i as h1
    split at hc
    ·rename_i j6
     simp only[Bool.and_eq_true]at j6
     simp at hc;subst hc
     simp only[la,Option.map_eq_some_iff]at he
     obtain⟨jS,h2,h3⟩:=he
     simp at h3;obtain⟨rfl,rfl⟩:=h3
     exact Pr hE hO hm h1 j6.1 j6.2 h hf h2 hq
    ·cases hc
   ·cases hc
 |seq x y ihx Pv=>
  intro ac hc B st gj a w β M o h hf he Q hq
  simp only[lL]at hc
  split at hc
  ·rename_i ax ay h1 h2
   simp only[Option.some.injEq]at hc
   rcases Ge (P:=P) (hs:=hs) x ax ay with hj|⟨id,ops,o0,o1,o2,o3,rfl,AH,Kf,hj⟩
   rotate_left
   ·rw[hj]at hc
    subst hc
    simp only[la]at he
    split at he
    ·rename_i s1 s2 e1 e2
     obtain⟨t1,t2,g1,g2,oh,rfl⟩:=vw he
     refine wp_seq ?_
     refine TN hE hO hm AH Kf h hf e1 e2 ?_ ?_
     ·intro a' w' fW M' r1 r2 r3 r4
      exact Pv ay h2 r1 r2 g1 (fun a2 w2 Pn M2 z1 z2 z3 z4=>hq a2 w2 Pn M2 (Ps _ _ z1) (Pt _ _ z2) (Pu _ _ (r3.trans z3 r4)) (Nat.le_trans r4 z4))
     ·intro a' w' fW M' r1 r2 r3 r4
      exact Pv ay h2 r1 r2 g2 (fun a2 w2 Pn M2 z1 z2 z3 z4=>hq a2 w2 Pn M2 (Yc (AI oh) (Ps _ _ z1)) (Yd (AI oh) (TO oh) (Pt _ _ z2)) (Po (AI oh) (Pu _ _ (r3.trans z3 r4))) (Nat.le_trans r4 z4))
    ·cases he
   rw[hj]at hc
   subst hc
   simp only[la]at he
   refine wp_seq ?_
   cases hx:la E call fl n ax st with
   |none=>simp[hx]at he
   |some p=>
    obtain⟨ox,jS⟩:=p
    cases ox with
    |nrm=>
     simp only[hx]at he
     refine ihx ax h1 h hf hx ?_
     intro a' w' fW M' r1 r2 r3 r4
     exact Pv ay h2 r1 r2 he (fun a2 w2 Pn M2 s1 s2 s3 s4=>hq a2 w2 Pn M2 s1 s2 (r3.trans s3 r4) (Nat.le_trans r4 s4))
    |ext id=>
     simp[hx]at he;obtain⟨rfl,rfl⟩:=he
     exact ihx ax h1 h hf hx hq
    |ret=>
     simp[hx]at he;obtain⟨rfl,rfl⟩:=he
     exact ihx ax h1 h hf hx hq
  ·cases hc
 |cond c x y ihx Pv=>
  intro ac hc B st gj a w β M o h hf he Q hq
  simp only[lL]at hc
  split at hc
  ·rename_i c' ax ay h0 h1 h2
   simp at hc;subst hc
   simp only[la]at he
   have vc:=OY hf c c' h0
   split at he
   ·rename_i e
    rw[e]at vc
    exact wp_cond_true vc.bool (ihx ax h1 h hf he hq)
   ·rename_i e
    rw[e]at vc
    exact wp_cond_false vc.bool (Pv ay h2 h hf he hq)
   ·cases he
  ·cases hc
 |block id x ih=>
  intro ac hc B st gj a w β M o h hf he Q hq
  simp only[lL,Option.map_eq_some_iff]at hc
  obtain⟨ax,h1,rfl⟩:=hc
  simp only[la]at he
  refine wp_block ?_
  cases hx:la E call fl n ax st with
  |none=>simp[hx]at he
  |some p=>
   obtain⟨ox,jS⟩:=p
   cases ox with
   |nrm=>simp[hx]at he;obtain⟨rfl,rfl⟩:=he;exact ih ax h1 h hf hx hq
   |ret=>simp[hx]at he;obtain⟨rfl,rfl⟩:=he;exact ih ax h1 h hf hx hq
   |ext JT=>
    simp only[hx]at he
    by_cases hid:JT=id
    ·simp only[hid,if_true,Option.some.injEq,Prod.mk.injEq]at he
     obtain⟨rfl,rfl⟩:=he
     refine ih ax h1 h hf hx ?_
     intro a' w' fW M' r1 r2 r3 r4
     show Exit.inBlock id Q (.exit JT) a' w'
     simp only[Exit.inBlock,hid,if_true]
     exact hq a' w' fW M' r1 r2 r3 r4
    ·simp only[hid,if_false,Option.some.injEq,Prod.mk.injEq]at he
     obtain⟨rfl,rfl⟩:=he
     refine ih ax h1 h hf hx ?_
     intro a' w' fW M' r1 r2 r3 r4
     show Exit.inBlock id Q (.exit JT) a' w'
     simp only[Exit.inBlock,hid,if_false]
     exact hq a' w' fW M' r1 r2 r3 r4
 |loop x ih=>
  intro ac hc B st gj a w β M o h hf he Q hq
  simp only[lL,Option.map_eq_some_iff]at hc
  obtain⟨ax,h1,rfl⟩:=hc
  simp only[la]at he
  have key: ∀(m:Nat) (jS:St) (a1:Act) (w1:World) (DU:fS) (M1:fE),fY B jS w1 DU M1→nl jS a1 w1 DU M1 n→Tr st w β M jS w1 DU M1→w.heap.size≤w1.heap.size→iter (la E call fl n ax) m jS=some (o,gj)→Code.rounds P x Q m a1 w1:=by
   intro m
   induction m with
   |zero=>intro jS a1 w1 DU M1 _ _ _ _ hi;simp[iter]at hi
   |succ m ihm=>
    intro jS a1 w1 DU M1 g1 g2 g3 g4 hi
    rw[rounds_succ]
    simp only[iter]at hi
    cases hx:la E call fl n ax jS with
    |none=>simp[hx]at hi
    |some p=>
     obtain⟨ox,wF⟩:=p
     cases ox with
     |nrm=>
      simp only[hx]at hi
      refine ih ax h1 g1 g2 hx ?_
      intro a' w' fW M' r1 r2 r3 r4
      exact ihm wF a' w' fW M' r1 r2 (g3.trans r3 g4) (Nat.le_trans g4 r4) hi
     |ext id=>
      simp[hx]at hi;obtain⟨rfl,rfl⟩:=hi
      refine ih ax h1 g1 g2 hx ?_
      intro a' w' fW M' r1 r2 r3 r4
      exact hq a' w' fW M' r1 r2 (g3.trans r3 g4) (Nat.le_trans g4 r4)
     |ret=>
      simp[hx]at hi;obtain⟨rfl,rfl⟩:=hi
      refine ih ax h1 g1 g2 hx ?_
      intro a' w' fW M' r1 r2 r3 r4
      exact hq a' w' fW M' r1 r2 (g3.trans r3 g4) (Nat.le_trans g4 r4)
  exact wp_loop_rounds fl (key fl st a w β M h hf (Tr.refl _ _ _ _) (Nat.le_refl _) he)
 |exit id=>
  intro ac hc B st gj a w β M o h hf he Q hq
  simp[lL]at hc;subst hc
  simp[la]at he;obtain⟨rfl,rfl⟩:=he
  exact wp_exit (hq a w β M h hf (Tr.refl _ _ _ _) (Nat.le_refl _))
 |ret=>
  intro ac hc B st gj a w β M o h hf he Q hq
  simp[lL]at hc;subst hc
  simp[la]at he;obtain⟨rfl,rfl⟩:=he
  exact wp_ret (hq a w β M h hf (Tr.refl _ _ _ _) (Nat.le_refl _))
 |rangeFunc _ _ _ _=>intro ac hc;simp[lL]at hc
 |scope _=>intro ac hc;simp[lL]at hc
 |label _=>intro ac hc;simp[lL]at hc
 |goto _=>intro ac hc;simp[lL]at hc
 |refuse _=>intro ac hc;simp[lL]at hc
end
end Go.Ev
namespace Go.Ev
open Go
theorem Mb{keep:Bool}{n:Nat}{t t':T}{g:Sp→Nat→fg}{nx:Nat}{us:List Up}(h:(fz keep n t).run g nx=some (t',us))(ht:t≠ .any):t'≠ .any:=by
 cases n with
 |zero=>simp[fz,Q.run]at h
 |succ n=>
  rintro rfl
  cases t with
  |any=>exact ht rfl
  |fn f a c=>
   simp only[fz,Q.run_bind]at h
   cases h3:(gk (fz keep n) a).run g nx with
   |none=>simp[h3]at h
   |some p=>
    simp only[h3,Option.bind_some]at h
    cases h4:(gk (fz keep n) c).run g nx with
    |none=>simp[h4]at h
    |some q=>simp[h4,Q.run]at h
  |agg cs=>
   simp only[fz,Q.run_bind]at h
   cases h3:(gk (fz keep n) cs).run g nx with
   |none=>simp[h3]at h
   |some p=>simp[h3,Q.run]at h
  |tup cs=>
   simp only[fz,Q.run_bind]at h
   cases h3:(gk (fz keep n) cs).run g nx with
   |none=>simp[h3]at h
   |some p=>simp[h3,Q.run]at h
  |isl sp k g' off len sz=>
   simp only[fz]at h
   split at h
   ·simp[Q.run]at h
   ·simp only[Q.run]at h
    split at h
    ·split at h
     ·split at h <;> simp[Q.run]at h
     ·split at h
      ·simp only[Q.run_bind]at h
       rename_i cs _ _ _
       cases h3:(gk (fz false n) ((cs.drop off).take (len*sz))).run g nx with
       |none=>simp[h3]at h
       |some p=>simp[h3,Q.run]at h
      ·simp[Q.run]at h
     ·simp[Q.run]at h
    ·simp[Q.run]at h
  |mp sp k g'=>
   simp only[fz]at h
   split at h
   ·simp[Q.run]at h
   ·simp only[Q.run]at h
    split at h
    ·split at h <;> simp[Q.run]at h
    ·simp[Q.run]at h
  |ptr sp k g' off=>
   simp only[fz]at h
   split at h
   ·simp[Q.run]at h
   ·simp only[Q.run]at h
    split at h
    ·split at h
     ·simp only[Q.run_bind]at h
      rename_i cs _ _ _
      cases h3:(gk (fz false n) (cs.drop off)).run g nx with
      |none=>simp[h3]at h
      |some p=>simp[h3,Q.run]at h
     ·simp[Q.run]at h
    ·simp[Q.run]at h
  |_=>simp[fz,Q.run]at h
theorem Ih{r y:T}{j:Nat}(h:kK r j=some y):gb r j .nilsl≠ .any:=by
 cases r <;> simp[gb,kK]at h ⊢
section
variable{P:Program}{E:Env}{n:Nat}
def DV(ts:Array Value)(r:ResultVar):Sem Value:=
 match r with
 | .tmp t=>pure (ts.getD t undef)
 | .cell ad t=>do loadVar t (←asAddr (ts.getD ad undef))
theorem Ii(fn:Func)(ts:Array Value):results fn ts=(do
  let vs ←(List.toArray <$> fn.results.toList.mapM (DV ts))
  pure (if h:vs.size=1 then vs[0]else .tuple vs)):=by
 unfold results
 rw[Array.mapM_eq_mapM_toList]
 congr 2
theorem vz{B:jR}{st:St}{a:Act}{w:World}{β:fS}{M:fE}(h:fY B st w β M)(hf:nl st a w β M n): ∀(rs:List ResultVar) (Ye:List rF) (vs:List T),su P rs=some Ye→nk st Ye=some vs→
  ∃vP:List Value,(rs.mapM (DV a.tmps)).run P w=Result.ok vP w∧fo β st.gens w M vs vP
 | [],Ye,vs,hc,hr=>by
   simp[su]at hc;subst hc
   simp[nk]at hr;subst hr
   exact⟨[],by simp,by simp[fo]⟩
 | .tmp t::rs,Ye,vs,hc,hr=>by
   simp only[su,Option.map_eq_some_iff]at hc
   obtain⟨aaa,h1,rfl⟩:=hc
   simp only[nk,FC]at hr
   split at hr
   ·rename_i v uL e1 e2
    simp at hr e1;subst hr;subst e1
    obtain⟨vP,r1,r2⟩:=vz h hf rs aaa uL h1 e2
    refine⟨a.tmps.getD t undef::vP, ?_, ?_⟩
    ·rw[List.mapM_cons]
     simp only[DV,Sem.run_bind,Sem.run_pure,Result.andThen_ok,r1]
    ·simp only[fo];exact⟨_,_,rfl,hf.slot t,r2⟩
   ·cases hr
 | .cell ad t::rs,Ye,vs,hc,hr=>by
   simp only[su]at hc
   split at hc
   ·rename_i sz ag aaa h1 h2 h3
    simp at hc;subst hc
    simp only[nk,FC]at hr
    split at hr
    ·rename_i v uL e1 e2
     simp at hr;subst hr
     obtain⟨vP,r1,r2⟩:=vz h hf rs aaa uL h3 e2
     obtain⟨ad',cv,q1,q2,q3⟩:=FJ (P:=P) h h1 h2 (hf.slot ad) e1
     refine⟨cv::vP, ?_, ?_⟩
     ·rw[List.mapM_cons]
      simp only[DV,Sem.run_bind,q1,asAddr,Sem.run_pure,Result.andThen_ok,q2,r1]
     ·simp only[fo];exact⟨_,_,rfl,q3,r2⟩
    ·cases hr
   ·cases hc
theorem Mc{β:fS}{G:Sp→Nat→Nat}{w:World}{M:fE}{args:List T}{gw:Array Value}(hl:fo β G w M args gw.toList)(k:Nat)(t:Nat):fk β G w M (an (pG args) t) ((gw++Array.replicate k undef).getD t undef):=by
 have hlen:=fo.length _ _ hl
 by_cases ht:t<args.length
 ·have hg:args[t]? =some args[t]:=List.getElem?_eq_getElem ht
  obtain⟨cv,c1,c2⟩:=hl.get hg
  have e1:an (pG args) t=args[t]:=by
   rw[Cu]
   have: ∀(l:List T) (j:Nat) (hj:j<l.length),fU gf l j=l[j]:=by
    intro l
    induction l with
    |nil=>intro j hj;simp at hj
    |cons x xs ih=>intro j hj;cases j with|zero=>rfl|succ j=>exact ih j (by simpa using hj)
   exact this args t ht
  have SE:gw[t]? =some cv:=by simpa using c1
  have uI:t<gw.size:=by simp at hlen;omega
  have e2:(gw++Array.replicate k undef).getD t undef=cv:=by
   rw[Array.getD_eq_getD_getElem?,Array.getElem?_append_left uI,SE];rfl
  rw[e1,e2];exact c2
 ·have e1:an (pG args) t=gf:=by
   rw[Cu]
   have: ∀(l:List T) (j:Nat),l.length≤j→fU gf l j=gf:=by
    intro l
    induction l with
    |nil=>intro j _;rfl
    |cons x xs ih=>intro j hj;cases j with|zero=>simp at hj|succ j=>exact ih j (by simpa using hj)
   exact this args t (by omega)
  have e2:(gw++Array.replicate k undef).getD t undef=undef:=by
   rw[Array.getD_eq_getD_getElem?,Array.getElem?_append_right (by simp at hlen;omega),Array.getElem?_replicate]
   split <;> rfl
  rw[e1,e2]
  simp[fk,gf,undef,fo]
def pack:List T→T
 | [v]=>v
 |vs=> .tup vs
theorem Pw{keep:Bool}{n:Nat}:fz keep (n+1) .nilsl= .ret (.nilsl,[]):=rfl
theorem AJ{f:T→Q (T×List Up)}{h:Sp→Nat→fg}{nx:Nat}(hf:f .nilsl= .ret (.nilsl,[])): ∀(ts:List T) {j:Nat} {q:List T×List Up},(gk f ts).run h nx=some q→ts[j]? =some .nilsl→q.1[j]? =some .nilsl
 | [],j,q,_,hj=>by simp at hj
 |t::ts,j,q,hq,hj=>by
  simp only[gk,Q.run_bind]at hq
  cases h1:(f t).run h nx with
  |none=>simp[h1]at hq
  |some p=>
   simp only[h1,Option.bind_some]at hq
   cases h2:(gk f ts).run h nx with
   |none=>simp[h2]at hq
   |some q2=>
    simp only[h2,Option.bind_some,Q.run,Option.some.injEq]at hq
    subst hq
    cases j with
    |zero=>
     simp at hj;subst hj
     rw[hf]at h1;simp[Q.run]at h1;subst h1;rfl
    |succ j=>simpa using AJ hf ts h2 (by simpa using hj)
theorem TP{r t:T}{us:List Up}{h:Sp→Nat→fg}{nx j:Nat}(hz:(fz false fJ r).run h nx=some (t,us))(hc:kK r j=some .nilsl):kK t j=some .nilsl:=by
 cases r
 case tup vs=>
  have hz:((gk (fz false 7) vs).bind fun q=>Q.ret (T.tup q.1,q.2)).run h nx=some (t,us):=hz
  rw[Q.run_bind]at hz
  cases h1:(gk (fz false 7) vs).run h nx with
  |none=>simp[h1]at hz
  |some q=>
   simp only[h1,Option.bind_some,Q.run,Option.some.injEq,Prod.mk.injEq]at hz
   obtain⟨rfl,rfl⟩:=hz
   exact AJ Pw vs h1 hc
 case agg vs=>
  have hz:((gk (fz false 7) vs).bind fun q=>Q.ret (T.agg q.1,q.2)).run h nx=some (t,us):=hz
  rw[Q.run_bind]at hz
  cases h1:(gk (fz false 7) vs).run h nx with
  |none=>simp[h1]at hz
  |some q=>
   simp only[h1,Option.bind_some,Q.run,Option.some.injEq,Prod.mk.injEq]at hz
   obtain⟨rfl,rfl⟩:=hz
   exact AJ Pw vs h1 hc
 all_goals
  simp only[kK,Option.some.injEq]at hc
  try (cases hc;done)
 simp[fJ,fz,Q.run]at hz
 obtain⟨rfl,rfl⟩:=hz
 rfl
theorem AK(hE:sV P E)(hm:P.follows .mixedOrders=true){m:Nat}(hO:wE P E (iw E m)){f:Nat}{af:fv}{args:List T}{sh:List fg}{r:T}{fL:List fg}(y7:E.fn f=some af)(fu:iw E (m+1) f args sh=some (r,fL))
  {w:World} {β:fS} {M:fE} {gw:Array Value} (mR:fY ⟨w,M,jy sh β⟩ (bare .nil sh) w β M) (hV0:fo β (bare .nil sh).gens w M args gw.toList) {Q:Ending→World→Prop}
  (hQ: ∀jS vs w' fW M' v,fY ⟨w,M,jy sh β⟩ jS w' fW M'→um af.own af.eff vs jS=some (r,fL)→fk fW jS.gens w' M' (pack vs) v→Tr (bare (pG args) sh) w β M jS w' fW M'→Q (.returned v) w'):Calls P f gw w Q:=by
  obtain⟨hs,fn,hf,uW⟩:=hE.1 f af y7
  simp only[iw,y7]at fu
  split at fu
  ·cases fu
  ·rename_i hlen
   unfold FD at uW
   split at uW
   ·cases uW
   ·split at uW
    ·cases uW
    ·rename_i code ag3
     split at uW
     ·rename_i ac Ye h1 h2
      simp at uW
      have hV:fo β (bare (pG args) sh).gens w M args gw.toList:=hV0
      have kg:=fo.length _ _ hV
      have hn:fn.ntmps=af.n:=by rw[←uW]
      have ag4:af.code=ac:=by rw[←uW]
      have wz:af.res=Ye:=by rw[←uW]
      rw[ag4]at fu
      cases Z7:la E (iw E m) m af.n ac {fr:=pG args,lh:= .nil,sh}with
      |none=>simp[Z7]at fu
      |some p=>
       obtain⟨o,jS⟩:=p
       have L2:o≠ .nrm→o≠ .ret→False:=by
        intro n1 n2
        cases o with
        |nrm=>exact n1 rfl
        |ret=>exact n2 rfl
        |ext id=>simp[Z7]at fu
       have Ij: ∃vs,nk jS af.res=some vs∧um af.own af.eff vs jS=some (r,fL):=by
        cases o with
        |nrm=>
         simp only[Z7]at fu
         split at fu
         ·rename_i vs hv
          exact⟨vs,hv,fu⟩
         ·cases fu
        |ret=>
         simp only[Z7]at fu
         split at fu
         ·rename_i vs hv
          exact⟨vs,hv,fu⟩
         ·cases fu
        |ext id=>exact(L2 (by simp) (by simp)).elim
       obtain⟨vs0,amy,Ij⟩:=Ij
       have hF:nl (bare (pG args) sh) {tmps:=gw++Array.replicate (fn.ntmps-gw.size) undef,defers:= []} w β M af.n:=by
        refine⟨by simp at kg ⊢; omega,rfl,fun t=>Mc hV _ t⟩
       refine calls_of_wp hf ag3 ?_
       refine Z9 (n:=af.n) hE hO hm m code ac h1 (B:=⟨w,M,jy sh β⟩) (st:=bare (pG args) sh) (TJ mR (pG args)) hF Z7 ?_
       intro a' w' fW M' r1 r2 r3 r4
       have post:a'.defers= []∧ ∃v,(results fn a'.tmps).run P w'= .ok v w'∧Q (.returned v) w':=by
        refine⟨r2.defers, ?_⟩
        have hra:=amy
        rw[wz]at hra
        obtain⟨vP,q1,q2⟩:=vz (P:=P) r1 r2 fn.results.toList Ye vs0 h2 hra
        have ag5:(results fn a'.tmps).run P w'= .ok (if hh:vP.toArray.size=1 then vP.toArray[0]else .tuple vP.toArray) w':=by
         rw[Ii]
         simp only[Sem.run_bind,Sem.run_map,q1,Result.andThen_ok,Sem.run_pure]
        have Px:fk fW jS.gens w' M' (pack vs0) (if hh:vP.toArray.size=1 then vP.toArray[0]else .tuple vP.toArray):=by
         have SF:=fo.length _ _ q2
         cases vs0 with
         |nil=>
          simp only[fo]at q2;subst q2
          simp[pack,fk,fo]
         |cons v vs=>
          cases vs with
          |nil=>
           simp only[fo]at q2
           obtain⟨u,us,rfl,k1,rfl⟩:=q2
           simpa[pack]using k1
          |cons v2 vs=>
           have:vP.toArray.size≠1:=by simp at SF ⊢; omega
           rw[dif_neg this]
           simp only[pack,fk]
           exact⟨_,rfl,by simpa using q2⟩
        exact⟨_,ag5,hQ jS vs0 w' fW M' _ r1 Ij Px r3⟩
       cases o with
       |nrm=>exact post
       |ret=>exact post
       |ext id=>exact(L2 (by simp) (by simp)).elim
     ·cases uW
theorem yF(eff:Bool)(vs:List T)(st:St):answer eff vs st=match(fz eff fJ (pack vs)).run st.get st.sh.length with
 |some p=>some (p.1,(st.ups p.2).sh)
 |none=>none:=by
 cases vs with
 |nil=>rfl
 |cons v vs=>cases vs <;> rfl
theorem DW(j:Nat)(vs:List T)(st:St):zp j vs st=match kK (pack vs) j with
 |some .nilsl=>answer false vs st
 |some (.isl .L k g 0 len sz)=>
  (match(fz false fJ (gb (pack vs) j .nilsl)).run st.get st.sh.length with
  |some p=>(match(st.ups p.2).get .L k with
   |⟨g',.cells cs wm false⟩=>if g'=g∧cs.length=len*sz∧len≠0∧(wm=0∨scalar (gb p.1 j .nilsl)=true)then some (gb p.1 j (.sl cs len false),(st.ups p.2).sh)else none
   |_=>none)
  |none=>none)
 |_=>none:=by
 cases vs with
 |nil=>rfl
 |cons v vs=>cases vs <;> rfl
theorem CG{B:jR}{jS:St}{vs:List T}{w':World}{fW:fS}{M':fE}{v:Value}{eff:Bool}{r:T}{fL:List fg}(r1:fY B jS w' fW M')(ha:answer eff vs jS=some (r,fL))(Px:fk fW jS.gens w' M' (pack vs) v):
  ∃M2 us,fY B (jS.ups us) w' fW M2∧(jS.ups us).gens=jS.gens∧fL=(jS.ups us).sh∧sw eff fW jS.gens w' M2 r v:=by
 rw[yF]at ha
 split at ha
 ·rename_i p hz
  obtain⟨t',us⟩:=p
  simp at ha
  obtain⟨rfl,rfl⟩:=ha
  obtain⟨M2,z1,z2,z3,z4,z5⟩:=yu eff jS fJ _ _ jS w' fW M' _ t' us _ (Fz.refl jS) r1 Px hz
  exact⟨M2,us,z1,z2.gens,rfl,z4⟩
 ·cases ha
theorem Gf(hE:sV P E)(hm:P.follows .mixedOrders=true): ∀m,wE P E (iw E m)
 |0=>by
  intro f af args sh r fL y7 hc
  simp[iw]at hc
 |m+1=>by
  have hO:=Gf hE hm m
  intro f af args sh r fL y7 fu
  refine⟨fun oV=> ?_,fun j oV=> ?_⟩
  ·intro w β M gw mR hargs
   refine AK hE hm hO y7 fu mR (np.toV hargs) ?_
   intro jS vs w' fW M' v r1 ha hv r3
   rw[oV]at ha
   obtain⟨M2,us,z1,z2,rfl,z4⟩:=CG r1 ha hv
   refine⟨v,fW,M2,rfl,DN z1 .nil,fun k g hg=>r3.beta .S k g hg,fun k=> ?_, ?_⟩
   ·have e1:(gC (jS.ups us).sh k).g=(jS.ups us).gens .S k:=rfl
    rw[e1,z2]
    exact r3.gens .S k
   ·have hg2: ∀k,(bare .nil (jS.ups us).sh).gens .S k=jS.gens .S k:=by
     intro k
     have e1:(bare .nil (jS.ups us).sh).gens .S k=(jS.ups us).gens .S k:=rfl
     rw[e1,z2]
    cases sD:af.eff with
    |false=>rw[sD]at z4;exact z4
    |true=>
     rw[sD]at z4
     intro b g p q
     exact z4 b g (fun k x hx=>p k x (by rw[hg2];exact hx)) (fun k=>by rw[←hg2];exact q k)
  ·have sD:af.eff=false:=by
    cases he:af.eff with
    |false=>rfl
    |true=>
     exfalso
     simp only[iw,y7]at fu
     split at fu
     ·cases fu
     ·split at fu
      ·cases fu
      ·split at fu
       ·simp[um,oV,he]at fu
       ·cases fu
      ·cases fu
   refine⟨sD, ?_⟩
   intro w β M gw mR hargs
   refine AK hE hm hO y7 fu mR (np.toV hargs) ?_
   intro jS vs w' fW M' v r1 ha hv r3
   rw[oV,sD]at ha
   have ha:zp j vs jS=some (r,fL):=by simpa[um]using ha
   rw[DW]at ha
   split at ha
   ·rename_i hc
    obtain⟨M2,us,z1,z2,rfl,z4⟩:=CG r1 ha hv
    refine⟨v,fW,M2,rfl,DN z1 .nil,.inl ⟨?_,z4⟩⟩
    rw[yF]at ha
    split at ha
    ·rename_i p hz
     simp at ha
     obtain⟨rfl,_⟩:=ha
     exact TP hz hc
    ·cases ha
   ·rename_i k g len sz hc
    split at ha
    ·rename_i p hz
     obtain⟨t',us⟩:=p
     have hn:fk fW jS.gens w' M' .nilsl rm:=by simp only[fk]
     obtain⟨⟨x,hx,hvx⟩,JZ⟩:=O9 hv hc hn rfl
     obtain⟨M2,z1,z2,z3,z4,z5⟩:=yu false jS fJ _ _ jS w' fW M' _ t' us _ (Fz.refl jS) r1 JZ hz
     dsimp only at ha
     split at ha
     ·rename_i g' cs wm B4
      split at ha
      ·rename_i BO
       obtain⟨rfl,kg,hl0,FT⟩:=BO
       simp at ha
       obtain⟨rfl,rfl⟩:=ha
       simp only[fk]at hvx
       obtain⟨aq7,cap,rfl,hlc,hcx⟩:=hvx
       have ho:=z1.obj .L k
       rw[B4]at ho
       unfold jf at ho
       obtain⟨c,el,fzz,o1,o2,o3,o4,o5,o6,o7,o8⟩:=ho
       dsimp only at o1 o2 o3 o4 o5 o6
       subst o4
       have ag6:=fun(b:fS) (G:Sp→Nat→Nat)=>Pb (cs:=cs) (len:=len) (ex:=false) (Mb hz (Ih hc)) (PRel.toV b G _ _ z4) hx
       have Cv:live ((jS.ups us).get .L k):=by rw[B4];trivial
       have B6:(jS.ups us).gens .L k=g':=by show((jS.ups us).get .L k).g=g';rw[B4]
       have ag7:=z1.lblk k Cv
       rw[B6]at ag7
       refine⟨v,fW,M2,rfl,DN z1 .nil,.inr ⟨cs,len,(ag6 fW jS.gens).1,fW .L k g',sz,cap,c,el,ag7,o1,o2,o3,o5, ?_,o7,kg,hl0,hlc,by simpa using hcx,hx,fun b G=>(ag6 b G).2⟩⟩
       rcases FT with rfl|FT
       ·exact .inr fun i hi=>o6 i (Nat.zero_le _) hi
       ·exact .inl (by rw[Ia _ _ _ _ rfl];exact FT)
      ·cases ha
     ·cases ha
    ·cases ha
   ·cases ha
end
theorem pure_call{P:Program}{E:Env}(hE:sV P E)(hm:P.follows .mixedOrders=true){m f:Nat}{af:fv}(y7:E.fn f=some af)(sD:af.eff=false)(oV:af.own=none){args:List T}{r:T}{fL:List fg}(hc:iw E m f args []=some (r,fL))(w:World)(gw:Array Value)
  (hargs:PList w (fun _ _=>False) args gw.toList):Calls P f gw w fun e w'=> ∃cv,e= .returned cv∧RowKit.Below w.heap.size w w'∧PRel w' (fun _ _=>False) r cv:=by
 have tm:=(Gf hE hm m f af args [] r fL y7 hc).1 oV
 rw[sD]at tm
 let β:fS:=fun _ _ _=>⟨0,0,0⟩
 have lU: ∀b,¬jy [] β b:=by rintro b ⟨k,hl,_⟩;simp[gC,fU]at hl;exact hl.elim
 have mR:fY ⟨w,fun _ _=>False,jy [] β⟩ (bare .nil []) w β (fun _ _=>False):=by
  have e: ∀sp k,(bare .nil []).get sp k=jq:=by intro sp k;cases sp <;> simp[bare,St.get,gC,fU,fC.get_nil]
  refine⟨fun sp k=> ?_,fun sp k iy k' l1 _ _=> ?_,fun _ _ h=>h.elim,fun k hl=> ?_,fun k hl=> ?_,rfl,rfl,rfl,Nat.le_refl _,fun _ _ _=>rfl,iW.refl _ _,fun _ _ _ _ hm=>hm⟩
  ·rw[e];unfold jf jq;trivial
  ·rw[e]at l1;exact l1.elim
  ·rw[e]at hl;exact hl.elim
  ·rw[e]at hl;exact hl.elim
 refine(tm w β _ gw mR hargs).mono ?_
 rintro e w' ⟨cv,fW,M',rfl,h',_,_,hr⟩
 refine⟨cv,rfl,⟨h'.os,h'.tape,h'.output,h'.size,fun b hb=>h'.same b hb (lU b)⟩, ?_⟩
 exact PRel.mono (iL (fun _ _ h=>h.elim)) _ _ hr
end Go.Ev
namespace Go.Ev
open Go
inductive Cl where
 |nil
 |nd (l:Cl) (k:Nat) (v:fv) (r:Cl)
def Cl.find:Cl→Nat→Option fv
 | .nil,_=>none
 | .nd l k v r,f=>bif Nat.beq f k then some v else bif Nat.ble f k then l.find f else r.find f
def Cl.All(p:Nat→fv→Prop):Cl→Prop
 | .nil=>True
 | .nd l k v r=>Cl.All p l∧p k v∧Cl.All p r
theorem Cl.all_find{p:Nat→fv→Prop}{f:Nat}{v:fv}: ∀{t:Cl},Cl.All p t→t.find f=some v→p f v
 | .nil,_,h=>by simp[Cl.find]at h
 | .nd l k u r,ha,h=>by
   obtain⟨h1,h2,h3⟩:=ha
   simp only[Cl.find]at h
   cases hb:Nat.beq f k with
   |true=>
    rw[hb,cond_true]at h
    have:f=k:=Nat.eq_of_beq_eq_true hb
    subst this
    cases h;exact h2
   |false=>
    rw[hb,cond_false]at h
    cases hc:Nat.ble f k with
    |true=>rw[hc,cond_true]at h;exact Cl.all_find h1 h
    |false=>rw[hc,cond_false]at h;exact Cl.all_find h3 h
def ft(P:Program)(f:Nat)(af:fv):Prop:= ∃hs fn,P.funcs[f]? =some fn∧FD P hs af.eff fn=some af
theorem codeOk{P:Program}{f:Nat}{af:fv}{hs:List Nat}{fn:Func}(h:P.funcs[f]? =some fn)(k:FD P hs af.eff fn=some af):ft P f af:=⟨hs,fn,h,k⟩
def NN(P:Program)(f:Nat)(g:List T→Option T):Prop:=
 (∃fn,P.funcs[f]? =some fn∧(fn.name== "runtime.NumGoroutine")=false∧fn.body.isSome=true)∧
   ∀args r,g args=some r→ ∀(w:World) (M:fE) (gw:Array Value),(∀b o,M b o→b<w.heap.size)→PList w M args gw.toList→
    Calls P f gw w fun e w'=> ∃cv,e= .returned cv∧RowKit.Below w.heap.size w w'∧PRel w' (fun b _=>b<w.heap.size) r cv
theorem afm{P:Program}{t:Cl}{x:Nat→Option (List T→Option T)}{y:Nat→Option (List T→Option (List T×Option Nat))}(h:Cl.All (ft P) t)(hx: ∀f g,x f=some g→NN P f g)
  (hy: ∀f g,y f=some g→(∃fn,P.funcs[f]? =some fn∧(fn.name== "runtime.NumGoroutine")=false∧fn.body.isSome=true)∧agQ P f g):sV P ⟨t.find,x,y⟩:=
 ⟨fun f af hf=>Cl.all_find h hf,fun f g _ hg=>hx f g hg,fun f g _ _ hg=>hy f g hg⟩
end Go.Ev
namespace Go.Ev
open Go
noncomputable abbrev Yf(E:Env)(m f:Nat)(args:List T)(sh:List fg):Option (T×List fg):=iw E m f args sh
theorem gE{E:Env}{m f:Nat}{args:List T}{sh:List fg}{r:Option (T×List fg)}(h:Yf E m f args sh=r):iw E m f args sh=r:=h
theorem ag8{E:Env}{m f:Nat}{args:List T}{sh:List fg}:Yf E m f args sh=iw E m f args sh:=rfl
end Go.Ev
