/- A tree evaluator over the model, proved against it (part D): where it answers, the call returns that answer. Conditions: none beyond its theorems' own. -/
import Derived.Test.YtfenhjpkomldcaaGreatEvC
set_option linter.unusedSimpArgs false
set_option linter.unusedVariables false
namespace Go.Ev
open Go
def bare(fr:Fr)(sh:List aA):St:={fr,lh:= .nil,sh}
theorem rB(fr:Fr)(sh:List aA)(k:Nat):(bare fr sh).get .L k=gO:=by simp[bare,St.get,ch,aV,aQ.get_nil]
theorem YE(fr:Fr)(sh:List aA)(k:Nat):(bare fr sh).get .S k=ch sh k:=rfl
theorem dg.shared{β be:aS}{G G':Sp→Nat→Nat}{w:World}{M:aI}{k:Nat}{e:aA}(pJ: ∀n g,g≤G .S n→be .S n g=β .S n g)(hG: ∀n,G .S n≤G' .S n)(hg:e.g≤G .S k)(h:dg β G w M .S k e):dg be G' w M .S k e:=by
 unfold dg at h ⊢
 rw[pJ k _ hg]
 obtain⟨g,ob⟩:=e
 cases ob with
 |none=>trivial
 |cells cs wm bx=>
  obtain⟨c,el,fz,h1,h2,h3,h4,h5,h6,h7⟩:=h
  refine⟨c,el,fz,h1,h2,h3,h4, ?_,h6,h7⟩
  cases bx
  ·exact h5
  ·exact nu.mono (c9.refl w M) pJ hG h5
 |map ks vs fz=>exact h
theorem uW{B:dP}{st:St}{w:World}{β:aS}{M:aI}(h:bf B st w β M)(fr:Fr):bf B (bare fr st.sh) w β M:=by
 refine⟨fun sp k=> ?_,fun sp k cu k' l1 l2 he=> ?_,h.mlt,fun k hl=> ?_,fun k hl=>h.sblk k hl,h.os,h.tape,h.output,h.size,h.same,h.keep,h.msup⟩
 ·cases sp with
  |L=>rw[rB];unfold dg gO;trivial
  |S=>exact dg.shared (G:=st.gens) (β:=β) (fun _ _ _=>rfl) (fun _=>Nat.le_refl _) (Nat.le_refl _) (h.obj .S k)
 ·cases sp with
  |L=>rw[rB]at l1;exact l1.elim
  |S=>
   cases cu with
   |L=>rw[rB]at l2;exact l2.elim
   |S=>exact h.dist .S k .S k' l1 l2 he
 ·rw[rB]at hl;exact hl.elim
def dn(sh:List aA)(β:aS)(b:Nat):Prop:= ∃k,live (ch sh k)∧(β .S k (ch sh k).g).blk=b
theorem Jj{B:dP}{st:St}{w:World}{β:aS}{M:aI}(h:bf B st w β M)(fr:Fr):bf ⟨w,M,dn st.sh β⟩ (bare fr st.sh) w β M:=by
 have hd:=uW h fr
 refine⟨hd.obj,hd.dist,h.mlt,fun k hl=> ?_,fun k hl=> .inl ⟨k,hl,rfl⟩,rfl,rfl,rfl,Nat.le_refl _,fun _ _ _=>rfl,c9.refl w M,fun _ _ _ _ hm=>hm⟩
 rw[rB]at hl;exact hl.elim
theorem FD{B:dP}{st:St}{w:World}{β:aS}{M:aI}(h:bf B st w β M)(fr:Fr):bf ⟨w,M,fun _=>False⟩ (bare fr []) w β M:=by
 have e: ∀sp k,(bare fr []).get sp k=gO:=by intro sp k;cases sp <;> simp[bare,St.get,ch,aV,aQ.get_nil]
 refine⟨fun sp k=> ?_,fun sp k cu k' l1 _ _=> ?_,h.mlt,fun k hl=> ?_,fun k hl=> ?_,rfl,rfl,rfl,Nat.le_refl _,fun _ _ _=>rfl,c9.refl w M,fun _ _ _ _ hm=>hm⟩
 ·rw[e];unfold dg gO;trivial
 ·rw[e]at l1;exact l1.elim
 ·rw[e]at hl;exact hl.elim
 ·rw[e]at hl;exact hl.elim
theorem xe{B:dP}{st:St}{w w':World}{β:aS}{M:aI}(h:bf B st w β M)(YF:w'.os=w.os)(YG:w'.tape=w.tape)(CM:w'.output=w.output)(kW:w.heap.size≤w'.heap.size)(hb: ∀b,b<w.heap.size→w'.heap[b]? =w.heap[b]?):
  bf B st w' β M∧Tr st w β M st w' β M:=by
 have hk:c9 w M w' M:=⟨fun b o v hv _=>by rw[fQ (w:=w) (hb b (ns hv))];exact hv,fun b es c hv _=>by rw[hb b (eN hv)];exact hv,fun _ _ _ h=>h⟩
 refine⟨⟨fun sp k=> ?_,h.dist,fun b o hm=>Nat.lt_of_lt_of_le (h.mlt b o hm) kW,h.lblk,h.sblk,YF.trans h.os,YG.trans h.tape,CM.trans h.output,Nat.le_trans h.size kW,fun b h1 h2=>(hb b (Nat.lt_of_lt_of_le h1 h.size)).trans (h.same b h1 h2),h.keep.trans hk h.size,h.msup⟩,hk,fun _ _ _ _=>rfl,fun _ _=>Nat.le_refl _⟩
 exact dg.mono hk (fun _ _ _ _=>rfl) (fun _ _=>Nat.le_refl _) (Nat.le_refl _) (fun hl=>hb _ (h.lt hl)) (fun _ _ hm=>hm) (h.obj sp k)
theorem Ph{B:dP}{st:St}{w w':World}{β be:aS}{M M':aI}{cq:List aA}(h:bf B st w β M)(h':bf ⟨w,M,dn st.sh β⟩ (bare .nil cq) w' be M')(pJ: ∀n g,g≤st.gens .S n→be .S n g=β .S n g)(hG: ∀n,st.gens .S n≤(ch cq n).g):
  bf B {st with sh:=cq} w' (fun sp k g=>match sp with| .L=>β .L k g| .S=>be .S k g) M'∧Tr st w β M {st with sh:=cq} w' (fun sp k g=>match sp with| .L=>β .L k g| .S=>be .S k g) M':=by
 have aap: ∀k,({st with sh:=cq}:St).get .L k=st.get .L k:=fun k=>rfl
 have aaq: ∀k,({st with sh:=cq}:St).get .S k=ch cq k:=fun k=>rfl
 have Bi: ∀sp k g,g≤st.gens sp k→(fun(sp:Sp) k g=>match sp with| .L=>β .L k g| .S=>be .S k g:aS) sp k g=β sp k g:=by
  intro sp k g hle
  cases sp with
  |L=>rfl
  |S=>exact pJ k g hle
 have Bj: ∀sp k,st.gens sp k≤({st with sh:=cq}:St).gens sp k:=by
  intro sp k
  cases sp with
  |L=>exact Nat.le_refl _
  |S=>exact hG k
 have notS: ∀k,live (st.get .L k)→ ¬dn st.sh β (β .L k (st.gens .L k)).blk:=by
  rintro k hl ⟨k',IX,he⟩
  have:=h.dist .S k' .L k IX hl he
  cases this.1
 have sB: ∀b,dn st.sh β b→B.SB b∨B.w.heap.size≤b:=by
  rintro b ⟨k,hl,rfl⟩
  exact h.sblk k hl
 have To: ∀k,live (ch cq k)→B.SB (be .S k (ch cq k).g).blk∨B.w.heap.size≤(be .S k (ch cq k).g).blk:=by
  intro k hl
  rcases h'.sblk k hl with e|e
  ·exact sB _ e
  ·exact .inr (Nat.le_trans h.size e)
 refine⟨⟨fun sp k=> ?_,fun sp k cu k' l1 l2 he=> ?_,h'.mlt,fun k hl=>h.lblk k hl,fun k hl=>To k hl,h'.os.trans h.os,h'.tape.trans h.tape,h'.output.trans h.output,Nat.le_trans h.size h'.size,fun b h1 h2=> ?_,h.keep.trans h'.keep h.size,fun b o h1 h2 h3=> ?_⟩,h'.keep,Bi,Bj⟩
 ·cases sp with
  |L=>
   refine dg.mono h'.keep Bi Bj (Nat.le_refl _) (fun hl=> ?_) (fun hl o hm=> ?_) (h.obj .L k)
   ·exact h'.same _ (h.lt hl) (notS k hl)
   ·exact h'.msup _ o (h.lt hl) (notS k hl) hm
  |S=>exact dg.shared (G:=(bare .nil cq).gens) (β:=be) (fun _ _ _=>rfl) (fun _=>Nat.le_refl _) (Nat.le_refl _) (h'.obj .S k)
 ·cases sp with
  |L=>
   cases cu with
   |L=>exact h.dist .L k .L k' l1 l2 he
   |S=>
    exfalso
    have Jf:(β .L k (st.gens .L k)).blk=(be .S k' (ch cq k').g).blk:=he
    rcases h'.sblk k' l2 with e|e
    ·exact notS k l1 (by rw[Jf];exact e)
    ·have:=h.lt (sp:= .L) (k:=k) l1
     have e':w.heap.size≤(be .S k' (ch cq k').g).blk:=e
     omega
  |S=>
   cases cu with
   |L=>
    exfalso
    have Jf:(be .S k (ch cq k).g).blk=(β .L k' (st.gens .L k')).blk:=he
    rcases h'.sblk k l1 with e|e
    ·exact notS k' l2 (by rw[←Jf];exact e)
    ·have:=h.lt (sp:= .L) (k:=k') l2
     have e':w.heap.size≤(be .S k (ch cq k).g).blk:=e
     omega
   |S=>exact h'.dist .S k .S k' l1 l2 he
 ·have hn: ¬dn st.sh β b:=fun hs=>by
   rcases sB b hs with e|e
   ·exact h2 e
   ·omega
  exact(h'.same b (Nat.lt_of_lt_of_le h1 h.size) hn).trans (h.same b h1 h2)
 ·have hn: ¬dn st.sh β b:=fun hs=>by
   rcases sB b hs with e|e
   ·exact h2 e
   ·omega
  exact h'.msup b o (Nat.lt_of_lt_of_le h1 h.size) hn (h.msup b o h1 h2 h3)
def xf(M:aI)(S:wO):aI:=fun b x=>M b x∨(b=S.blk∧S.off≤x∧x<S.off+S.ext)
theorem Pj{B:dP}{st:St}{w w':World}{β:aS}{M:aI}(h:bf B st w β M)(YF:w'.os=w.os)(YG:w'.tape=w.tape)(CM:w'.output=w.output)(kW:w.heap.size≤w'.heap.size)(Bk: ∀b,b<w.heap.size→w'.heap[b]? =w.heap[b]?)
  (k g:Nat) (hg:st.gens .L k<g) (S:wO) (hS:w.heap.size≤S.blk) (hS2:S.blk<w'.heap.size) (ob:Ob)
  (ho:dg (fg β .L k g S) (st.up (.L,k,⟨g,ob⟩)).gens w' (xf M S) .L k ⟨g,ob⟩):
  bf B (st.up (.L,k,⟨g,ob⟩)) w' (fg β .L k g S) (xf M S)∧Tr st w β M (st.up (.L,k,⟨g,ob⟩)) w' (fg β .L k g S) (xf M S):=by
 have hk:c9 w M w' (xf M S):=⟨fun b o v hv _=>by rw[fQ (w:=w) (Bk b (ns hv))];exact hv,fun b es c hv _=>by rw[Bk b (eN hv)];exact hv,fun b x hb hm=>hm.resolve_right (fun e=>by have:=e.1;omega)⟩
 have hb: ∀cu k' g',g'≤st.gens cu k'→fg β .L k g S cu k' g'=β cu k' g':=by
  intro cu k' g' hle
  refine nv _ _ _ _ _ ?_
  rintro⟨rfl,rfl,rfl⟩
  omega
 have hG: ∀cu k',st.gens cu k'≤(st.up (.L,k,⟨g,ob⟩)).gens cu k':=by
  intro cu k'
  rw[du]
  split
  ·rename_i e;obtain⟨rfl,rfl⟩:=e;exact Nat.le_of_lt hg
  ·exact Nat.le_refl _
 have jw: ∀cu k',(fg β .L k g S cu k' ((st.up (.L,k,⟨g,ob⟩)).gens cu k'))=if cu= .L∧k'=k then S else β cu k' (st.gens cu k'):=by
  intro cu k'
  rw[du]
  split
  ·rename_i e;obtain⟨rfl,rfl⟩:=e;exact bN _ _ _ _ _
  ·exact hb _ _ _ (Nat.le_refl _)
 refine⟨⟨fun cu k'=> ?_,fun VR k1 VS k2 l1 l2 he=> ?_,fun b x hm=> ?_,fun k' hl=> ?_,fun k' hl=> ?_,YF.trans h.os,YG.trans h.tape,CM.trans h.output,Nat.le_trans h.size kW,fun b hb hn=> ?_,h.keep.trans hk h.size,fun b x h1 h2 h3=> .inl (h.msup b x h1 h2 h3)⟩,hk,hb,hG⟩
 ·rw[dz]
  split
  ·rename_i e;obtain⟨rfl,rfl⟩:=e;exact ho
  ·exact dg.mono hk hb hG (Nat.le_refl _) (fun hl=>Bk _ (h.lt hl)) (fun _ _ hm=> .inl hm) (h.obj cu k')
 ·rw[jw,jw]at he
  rw[dz]at l1 l2
  by_cases e1:VR= .L∧k1=k <;> by_cases e2:VS= .L∧k2=k
  ·exact⟨e1.1.trans e2.1.symm,e1.2.trans e2.2.symm⟩
  ·rw[if_pos e1,if_neg e2]at he;rw[if_neg e2]at l2
   have:=h.lt l2;omega
  ·rw[if_neg e1,if_pos e2]at he;rw[if_neg e1]at l1
   have:=h.lt l1;omega
  ·rw[if_neg e1,if_neg e2]at he;rw[if_neg e1]at l1;rw[if_neg e2]at l2
   exact h.dist _ _ _ _ l1 l2 he
 ·rcases hm with hm|hm
  ·exact Nat.lt_of_lt_of_le (h.mlt b x hm) kW
  ·rw[hm.1];exact hS2
 ·rw[jw];rw[dz]at hl
  split
  ·exact Nat.le_trans h.size hS
  ·rename_i e;rw[if_neg e]at hl;exact h.lblk k' hl
 ·rw[jw];rw[dz]at hl
  rw[if_neg (by rintro⟨e,_⟩;cases e)]at hl ⊢
  exact h.sblk k' hl
 ·have:=h.size
  rw[Bk b (by omega)];exact h.same b hb hn
theorem tG{w w':World}{M M':aI}: ∀{cs:List T} {vs:List Value},cs.all q7=true→PList w M cs vs→PList w' M' cs vs
 | [],vs,_,h=>by simpa only[PList]using h
 |t::ts,vs,hs,h=>by
  simp only[List.all_cons,Bool.and_eq_true]at hs
  simp only[PList]at h ⊢
  obtain⟨u,us,rfl,h1,h2⟩:=h
  refine⟨u,us,rfl, ?_,tG hs.2 h2⟩
  have ht:=hs.1
  cases t <;> simp[q7]at ht <;> simpa only[PRel]using h1
def FE:Value→Nat→Option Value
 | .tuple a,j=>a[j]?
 | .agg a,j=>a[j]?
 |v,_=>some v
def lb:Value→Nat→Value→Value
 | .tuple a,j,x=> .tuple (a.setIfInBounds j x)
 | .agg a,j,x=> .agg (a.setIfInBounds j x)
 |_,_,x=>x
abbrev jK:Value:= .slice none 0 0
section
variable{β:aS}{G:Sp→Nat→Nat}{w:World}{M:aI}
theorem av.set: ∀{ts:List T} {vs:List Value} (j:Nat) {t:T} {v:Value},av β G w M ts vs→au β G w M t v→av β G w M (ts.set j t) (vs.set j v)
 | [],vs,j,t,v,h,_=>by simp only[av]at h;subst h;simp[av]
 |t::ts,vs,0,t',v',h,h'=>by
  simp only[av]at h;obtain⟨u,us,rfl,h1,h2⟩:=h
  simp only[List.set_cons_zero,av]
  exact⟨_,_,rfl,h',h2⟩
 |t::ts,vs,j+1,t',v',h,h'=>by
  simp only[av]at h;obtain⟨u,us,rfl,h1,h2⟩:=h
  simp only[List.set_cons_succ,av]
  exact⟨_,_,rfl,h1,av.set j h2 h'⟩
theorem uX{cs:List T}{j:Nat}{t:T}(h:cs.all single=true)(ht:single t=true):(cs.set j t).all single=true:=by
 rw[List.all_eq_true]at h ⊢
 intro x hx
 rcases List.mem_or_eq_of_mem_set hx with h1|h1
 ·exact h x h1
 ·rw[h1];exact ht
theorem zw{cs:List T}{j:Nat}{t u:T}(h:(cs.set j u).all single=true)(ht:single t=true):(cs.set j t).all single=true:=by
 have:=uX (j:=j) h ht
 rwa [List.set_set]at this
theorem FF{r y t:T}{v u:Value}{j:Nat}(h:au β G w M r v)(hj:eB r j=some y)(ht:au β G w M t u)(hs:single t=true):
  (∃x,FE v j=some x∧au β G w M y x)∧au β G w M (bh r j t) (lb v j u):=by
 cases r
 case tup vs=>
  simp only[au]at h;obtain⟨a,rfl,hl⟩:=h
  simp only[eB]at hj
  obtain⟨x,h1,h2⟩:=hl.get hj
  refine⟨⟨x,by simpa[FE]using h1,h2⟩, ?_⟩
  simp only[bh,lb,au]
  exact⟨_,rfl,by simpa using av.set j hl ht⟩
 case agg cs=>
  simp only[au]at h;obtain⟨a,rfl,hl,Tp⟩:=h
  simp only[eB]at hj
  obtain⟨x,h1,h2⟩:=hl.get hj
  refine⟨⟨x,by simpa[FE]using h1,h2⟩, ?_⟩
  simp only[bh,lb,au]
  exact⟨_,rfl,by simpa using av.set j hl ht,uX Tp hs⟩
 all_goals
  simp only[eB,Option.some.injEq]at hj;subst hj
  refine⟨⟨v, ?_,h⟩, ?_⟩
  ·simp only[au,PRel]at h
   first
    |(subst h;rfl)
    |(obtain⟨_,rfl,_⟩:=h;rfl)
    |(obtain⟨_,_,rfl,_⟩:=h;rfl)
    |(obtain⟨_,_,_,rfl,_⟩:=h;rfl)
    |(obtain⟨_,_,_,_,rfl,_⟩:=h;rfl)
    |(obtain⟨_,rfl⟩:=h;rfl)
  ·simp only[au,PRel]at h
   first
    |(subst h;exact ht)
    |(obtain⟨_,rfl,_⟩:=h;exact ht)
    |(obtain⟨_,_,rfl,_⟩:=h;exact ht)
    |(obtain⟨_,_,_,rfl,_⟩:=h;exact ht)
    |(obtain⟨_,_,_,_,rfl,_⟩:=h;exact ht)
    |(obtain⟨_,rfl⟩:=h;exact ht)
theorem xg{a:Array Value}{j:Nat}{x y:Value}(h:a[j]? =some x):(a.toList.set j y).set j x=a.toList:=by
 rw[List.set_set]
 have h':a.toList[j]? =some x:=by simpa using h
 obtain⟨hl,he⟩:=List.getElem?_eq_some_iff.1 h'
 rw[←he];exact List.set_getElem_self hl
theorem rC{v:Value}{j:Nat}(h: ∀a,lb v j jK≠ .tuple a)(h': ∀a,lb v j jK≠ .agg a):lb v j jK=jK∧FE v j=some v:=by
 cases v <;> first|exact⟨rfl,rfl⟩|exact absurd rfl (h _)|exact absurd rfl (h' _)
theorem Jk{r t:T}{cv x:Value}{j:Nat}(h:au β G w M (bh r j .nilsl) (lb cv j jK))(hx:FE cv j=some x)(ht:au β G w M t x)(hs:single t=true):au β G w M (bh r j t) cv:=by
 cases r
 case tup vs=>
  simp only[bh,au]at h ⊢
  obtain⟨a,ha,hl⟩:=h
  cases cv <;> simp[lb]at ha
  rename_i a0
  subst ha
  simp only[FE]at hx
  refine⟨a0,rfl, ?_⟩
  have:=av.set j hl ht
  rw[List.set_set,Array.toList_setIfInBounds,xg hx]at this
  exact this
 case agg cs=>
  simp only[bh,au]at h ⊢
  obtain⟨a,ha,hl,Tp⟩:=h
  cases cv <;> simp[lb]at ha
  rename_i a0
  subst ha
  simp only[FE]at hx
  refine⟨a0,rfl, ?_,zw Tp hs⟩
  have:=av.set j hl ht
  rw[List.set_set,Array.toList_setIfInBounds,xg hx]at this
  exact this
 all_goals
  simp only[bh,au]at h ⊢
  obtain⟨h1,h2⟩:=rC (v:=cv) (j:=j) (fun a e=>by rw[e]at h;cases h) (fun a e=>by rw[e]at h;cases h)
  rw[h2]at hx
  cases hx
  exact ht
theorem FG{p:T}{v x:Value}{j:Nat}{cs:List T}{len:Nat}{ex:Bool}(h:au β G w M p (lb v j jK))(hx:FE v j=some x):
  eB (bh p j (.sl cs len ex)) j=some (.sl cs len ex)∧au β G w M (bh (bh p j (.sl cs len ex)) j .nilsl) (lb v j jK):=by
 have hn:au β G w M .nilsl jK:=by simp only[au]
 cases p
 case tup vs=>
  simp only[au]at h
  obtain⟨a,ha,hl⟩:=h
  cases v <;> simp[lb]at ha
  rename_i a0
  subst ha
  simp only[FE]at hx
  have sM:=av.length _ _ hl
  simp at sM
  obtain⟨hj,_⟩:=Array.getElem?_eq_some_iff.1 hx
  refine⟨by simp only[bh,eB];rw[List.getElem?_set_self (by omega)], ?_⟩
  simp only[bh,lb,au,List.set_set]
  refine⟨_,rfl, ?_⟩
  have:=av.set j hl hn
  rw[Array.toList_setIfInBounds,List.set_set]at this
  rw[Array.toList_setIfInBounds];exact this
 case agg vs=>
  simp only[au]at h
  obtain⟨a,ha,hl,Tp⟩:=h
  cases v <;> simp[lb]at ha
  rename_i a0
  subst ha
  simp only[FE]at hx
  have sM:=av.length _ _ hl
  simp at sM
  obtain⟨hj,_⟩:=Array.getElem?_eq_some_iff.1 hx
  refine⟨by simp only[bh,eB];rw[List.getElem?_set_self (by omega)], ?_⟩
  simp only[bh,lb,au,List.set_set]
  refine⟨_,rfl, ?_,uX Tp rfl⟩
  have:=av.set j hl hn
  rw[Array.toList_setIfInBounds,List.set_set]at this
  rw[Array.toList_setIfInBounds];exact this
 all_goals
  refine⟨rfl, ?_⟩
  simp only[bh]
  have hp:lb v j jK=jK:=by
   refine(rC (v:=v) (j:=j) (fun a e=> ?_) (fun a e=> ?_)).1
   all_goals
    rw[e]at h
    simp only[au,PRel]at h
    first
     |(cases h;done)
     |(obtain⟨_,h,_⟩:=h;cases h;done)
     |(obtain⟨_,_,h,_⟩:=h;cases h;done)
     |(obtain⟨_,_,_,h,_⟩:=h;cases h;done)
     |(obtain⟨_,_,_,_,h,_⟩:=h;cases h;done)
     |(obtain⟨_,h⟩:=h;cases h;done)
  rw[hp];exact hn
end
def FH(P:Program)(f:Nat)(eff:Bool)(args:List T)(sh:List aA)(r:T)(cq:List aA):Prop:=
 ∀(w:World) (β:aS) (M:aI) (bw:Array Value),bf ⟨w,M,dn sh β⟩ (bare .nil sh) w β M→fR eff β (bare .nil sh).gens w M args bw.toList→
  Calls P f bw w fun e w'=> ∃cv be M',e= .returned cv∧bf ⟨w,M,dn sh β⟩ (bare .nil cq) w' be M'∧(∀n g,g≤(ch sh n).g→be .S n g=β .S n g)∧(∀n,(ch sh n).g≤(ch cq n).g)∧ko eff be (bare .nil cq).gens w' M' r cv
theorem zx(p x y:T)(j:Nat)(h:single x=true):bh (bh p j x) j y=bh p j y:=by
 cases p <;> try (simp only[bh,List.set_set];done)
 all_goals (simp only[bh];cases x <;> first|rfl|cases h)
def Tq(w w':World)(M:aI)(r:T)(j:Nat)(cs:List T)(len:Nat)(cv:Value):Prop:=
 ∃(S:wO) (sz cap:Nat) (c:Array Value) (el:TypeId),w.heap.size≤S.blk∧w'.heap[S.blk]? =some (.cells c el (0,0))∧S.off+S.ext≤c.size∧cs.length≤S.ext∧PList w' M cs ((c.toList.drop S.off).take cs.length)∧(scalar (bh r j .nilsl)=true∨ ∀i,i<S.ext→M S.blk (S.off+i))∧
  cs.all single=true∧cs.length=len*sz∧len≠0∧len≤cap∧cap*sz≤S.ext∧FE cv j=some (.slice (some ⟨S.blk,S.off,none⟩) len cap)∧ ∀β G,au β G w' M (bh r j .nilsl) (lb cv j jK)
def CN(P:Program)(f:Nat)(args:List T)(sh:List aA)(j:Nat)(r:T)(cq:List aA):Prop:=
 ∀(w:World) (β:aS) (M:aI) (bw:Array Value),bf ⟨w,M,dn sh β⟩ (bare .nil sh) w β M→fR false β (bare .nil sh).gens w M args bw.toList→
  Calls P f bw w fun e w'=> ∃cv be M',e= .returned cv∧bf ⟨w,M,dn sh β⟩ (bare .nil cq) w' be M'∧
   ((eB r j=some .nilsl∧PRel w' M' r cv)∨ ∃cs len,eB r j=some (.sl cs len false)∧Tq w w' M' r j cs len cv)
def xh(blk off cap:Nat):Option Nat→Value
 |none=> .tuple #[]
 |some n=> .slice (some ⟨blk,off,none⟩) n cap
def Jl(P:Program)(f:Nat)(h:List T→Option (List T×Option Nat)):Prop:=
 (∀r,h []=some ([],r)→r.getD 0=0→ ∀w:World,Calls P f #[jK] w fun e w'=>e= .returned (match r with|none=> .tuple #[]|some _=>jK)∧RowKit.Below w.heap.size w w')∧
 ∀cs ys r,h cs=some (ys,r)→ys.length=cs.length→ ∀(w:World) (M:aI) (blk off cap:Nat) (c:Array Value) (el:TypeId) (vs:List Value),w.heap[blk]? =some (.cells c el (0,0))→off+cs.length≤c.size→cs.length≤cap→(c.toList.drop off).take cs.length=vs→PList w M cs vs→
  Calls P f #[.slice (some ⟨blk,off,none⟩) cs.length cap] w fun e w'=> ∃us,e= .returned (xh blk off cap r)∧PList w M ys us∧RowKit.Below w.heap.size (setBlock w blk (.cells (splice c.toList off us).toArray el)) w'
def lA(P:Program)(E:Env):Prop:=
 (∀f af,E.fn f=some af→ ∃hs fn,P.funcs[f]? =some fn∧wN P hs af.eff fn=some af)∧
 (∀f g,E.fn f=none→E.ext f=some g→(∃fn,P.funcs[f]? =some fn∧(fn.name== "runtime.NumGoroutine")=false∧fn.body.isSome=true)∧
   ∀args r,g args=some r→ ∀(w:World) (M:aI) (bw:Array Value),(∀b o,M b o→b<w.heap.size)→PList w M args bw.toList→
    Calls P f bw w fun e w'=> ∃cv,e= .returned cv∧RowKit.Below w.heap.size w w'∧PRel w' (fun b _=>b<w.heap.size) r cv)∧
 (∀f h,E.fn f=none→E.ext f=none→E.wr f=some h→(∃fn,P.funcs[f]? =some fn∧(fn.name== "runtime.NumGoroutine")=false∧fn.body.isSome=true)∧
   Jl P f h)
def pS(P:Program)(E:Env)(call:jk):Prop:= ∀f af args sh r cq,E.fn f=some af→call f args sh=some (r,cq)→(af.own=none→FH P f af.eff args sh r cq)∧(∀j,af.own=some j→af.eff=false∧CN P f args sh j r cq)
theorem rD{st bn:St}{a:Act}{w w':World}{β be:aS}{M M':aI}{n:Nat}{d:Option Nat}{v:T}{cv:Value}{fr:Fr}(hf:jI st a w β M n)(ht:Tr st w β M bn w' be M')(wx:eX st.fr n d v=some fr)(hv:au be bn.gens w' M' v cv):
  jI {bn with fr} (a.put d cv) w' be M' n:=by
 cases d with
 |none=>
  simp[eX]at wx;subst wx
  exact⟨hf.size,hf.defers,fun t=>ht.val (hf.slot t)⟩
 |some d=>
  simp only[eX]at wx
  split at wx
  ·rename_i hd
   simp at wx;subst wx
   refine⟨by simp[Act.put,hf.size],hf.defers,fun t=> ?_⟩
   have e1:an (cS st.fr d v) t=if t=d then v else an st.fr t:=iH st.fr d v t
   have e2:(a.put (some d) cv).tmps.getD t undef=if t=d then cv else a.tmps.getD t undef:=by
    simp only[Act.put,Array.getD_eq_getD_getElem?,Array.getElem?_setIfInBounds]
    by_cases YH:d=t
    ·subst YH;rw[if_pos rfl,if_pos (by rw[hf.size];exact hd),if_pos rfl];rfl
    ·rw[if_neg YH,if_neg (fun e=>YH e.symm)]
   show au be bn.gens w' M' (an (cS st.fr d v) t) _
   rw[e1,e2]
   split
   ·exact hv
   ·exact ht.val (hf.slot t)
  ·cases wx
end Go.Ev
namespace Go.Ev
open Go
theorem Jm{B:dP}{st:St}{w:World}{β:aS}{M:aI}(h:bf B st w β M)(fr:Fr):bf B {st with fr} w β M:=
 ⟨h.obj,h.dist,h.mlt,h.lblk,h.sblk,h.os,h.tape,h.output,h.size,h.same,h.keep,h.msup⟩
theorem Tr.fr{st bn:St}{w w':World}{β be:aS}{M M':aI}(h:Tr st w β M bn w' be M')(fr:Fr):Tr st w β M {bn with fr} w' be M':=⟨h.keep,h.beta,h.gens⟩
theorem zy{w w':World}{M M':aI}{r:T}{cv:Value}(hs:scalar r=true)(h:PRel w M r cv):PRel w' M' r cv:=by
 cases r <;> simp[scalar]at hs
 case tup vs=>
  simp only[PRel]at h ⊢
  obtain⟨a,rfl,hl⟩:=h
  refine⟨a,rfl, ?_⟩
  generalize a.toList=l at hl
  induction vs generalizing l with
  |nil=>simpa only[PList]using hl
  |cons t ts ih=>
   simp only[PList]at hl ⊢
   obtain⟨u,us,rfl,h1,h2⟩:=hl
   have ht:=hs t (by simp)
   refine⟨u,us,rfl, ?_,ih (fun x hx=>hs x (by simp[hx])) us h2⟩
   cases t <;> simp at ht <;> simpa only[PRel]using h1
 all_goals simpa only[PRel]using h
theorem xi{β be:aS}{G G':Sp→Nat→Nat}{w w':World}{M M':aI}{r:T}{cv:Value}(hs:scalar r=true)(h:au β G w M r cv):au be G' w' M' r cv:=by
 cases r <;> simp[scalar]at hs
 case tup vs=>
  simp only[au]at h ⊢
  obtain⟨a,rfl,hl⟩:=h
  refine⟨a,rfl, ?_⟩
  generalize a.toList=l at hl
  induction vs generalizing l with
  |nil=>simpa only[av]using hl
  |cons t ts ih=>
   simp only[av]at hl ⊢
   obtain⟨u,us,rfl,h1,h2⟩:=hl
   have ht:=hs t (by simp)
   refine⟨u,us,rfl, ?_,ih (fun x hx=>hs x (by simp[hx])) us h2⟩
   cases t <;> simp at ht <;> simpa only[au]using h1
 all_goals simpa only[au]using h
section
variable{P:Program}{E:Env}{call:jk}{B:dP}{st:St}{a:Act}{w:World}{β:aS}{M:aI}{o:Oper}
theorem ky{f:Nat}{fn:Func}(hf:P.funcs[f]? =some fn)(hn:(fn.name== "runtime.NumGoroutine")=false)(hb:fn.body.isSome=true)(bw:Array Value)(w:World):(callFunc f bw).run P w= .ok (.enter f bw) w:=by
 have h1: ¬fn.name= "runtime.NumGoroutine" :=by simpa using hn
 have h2: ¬fn.body=none:=by intro e;rw[e]at hb;simp at hb
 simp[callFunc,hf,h1,h2]
theorem CO(bZ:iw β st.gens w M st.rho a.eval){c:Call}(ho:o.op= .call c){sh:Nat}{xc:k7}(hc:jU P sh c=some xc){f:Nat}{targs:List T}(hq:bq st.rho xc=some (some (f,targs))):
  ∃bw:Array Value,(execOp a.eval o).run P w=(callFunc f bw).run P w∧av β st.gens w M targs bw.toList:=by
 unfold jU at hc
 split at hc
 ·rename_i f' Pk
  simp only[Option.map_eq_some_iff]at hc
  obtain⟨as,h1,rfl⟩:=hc
  simp[bq]at hq
  obtain⟨rfl,rfl⟩:=hq
  refine⟨c.args.map a.eval, ?_,by simpa using lZ bZ h1⟩
  simp[execOp,ho,resolve,Pk,Deferred.ofValue,Act.eval,invoke]
 ·rename_i x dr Pk
  split at hc
  ·rename_i y as h1 h2
   simp at hc;subst hc
   simp only[bq,Option.some.injEq]at hq
   split at hq
   ·rename_i f' fa fc e
    simp at hq
    obtain⟨rfl,rfl⟩:=hq
    have vx:=bZ x y h1
    rw[e]at vx
    simp only[au]at vx
    obtain⟨va,vc,e1,l1,l2⟩:=vx
    refine⟨va++c.args.map a.eval++vc, ?_, ?_⟩
    ·simp[execOp,ho,resolve,Pk,e1,Deferred.ofValue,invoke]
    ·have:=av.append (av.append l1 (lZ bZ h2)) l2
     simpa using this
   ·simp at hq
  ·cases hc
 all_goals
  exfalso
  revert hq
  try (simp only[Option.map_eq_some_iff]at hc;obtain⟨as,h1,rfl⟩:=hc;simp[bq];done)
  try (cases hc;done)
 ·split at hc
  ·split at hc <;> simp at hc <;> subst hc <;> simp[bq]
  ·cases hc
 ·split at hc
  ·split at hc
   ·split at hc
    ·split at hc
     ·split at hc
      ·split at hc
       ·simp at hc;subst hc;simp[bq]
       ·cases hc
      ·cases hc
     ·cases hc
    ·split at hc
     ·split at hc
      ·split at hc
       ·simp at hc;subst hc;simp[bq]
       ·cases hc
      ·cases hc
     ·cases hc
    ·cases hc
   ·cases hc
  ·cases hc
theorem CP{sh:Nat}{op:Op}{xc:k7}{ρ:aZ→T}{x:Option (Nat×List T)}(h:cj P sh op=some xc)(hc:bq ρ xc=some x): ∃c,op= .call c∧jU P sh c=some xc:=by
 cases op with
 |call c=>exact⟨c,rfl,h⟩
 |makeFunc fn first cap=>
  exfalso
  cases fn <;> simp only[cj]at h <;> try (cases h;done)
  split at h
  ·simp at h;subst h;simp[bq]at hc
  ·cases h
 |makeMap t r=>
  exfalso
  cases r <;> simp only[cj]at h
  ·simp at h;subst h;simp[bq]at hc
  ·cases h
 |_=>
  exfalso
  revert hc
  simp only[cj]at h
  repeat' split at h
  all_goals first
   |(cases h;done)
   |(simp only[Option.map_eq_some_iff]at h;obtain⟨_,_,rfl⟩:=h;simp[bq];done)
   |(simp at h;subst h;simp[bq];done)
   |(simp at h;done)
theorem Ts(h:bf B st w β M){f:Nat}{g:List T→Option (List T×Option Nat)}
  (nM: ∀r,g []=some ([],r)→r.getD 0=0→ ∀w:World,Calls P f #[jK] w fun e w'=>e= .returned (match r with|none=> .tuple #[]|some _=>jK)∧RowKit.Below w.heap.size w w')
  (kz: ∀cs ys r,g cs=some (ys,r)→ys.length=cs.length→ ∀(w:World) (M:aI) (blk off cap:Nat) (c:Array Value) (el:TypeId) (vs:List Value),w.heap[blk]? =some (.cells c el (0,0))→off+cs.length≤c.size→cs.length≤cap→(c.toList.drop off).take cs.length=vs→PList w M cs vs→
    Calls P f #[.slice (some ⟨blk,off,none⟩) cs.length cap] w fun e w'=> ∃us,e= .returned (xh blk off cap r)∧PList w M ys us∧RowKit.Below w.heap.size (setBlock w blk (.cells (splice c.toList off us).toArray el)) w')
  {targs:List T} {bw:Array Value} (hv:av β st.gens w M targs bw.toList) {r:T} {nN:St} (hd:kS g st targs=some (r,nN)):
  nN.fr=st.fr∧Calls P f bw w fun e w'=> ∃cv be M',e= .returned cv∧bf B nN w' be M'∧Tr st w β M nN w' be M'∧w.heap.size≤w'.heap.size∧au be nN.gens w' M' r cv:=by
 unfold kS at hd
 split at hd
 ·have hc:bw= #[jK]:=by
   simp only[av,au]at hv
   obtain⟨u,us,h1,rfl,rfl⟩:=hv
   exact Array.toList_inj.1 h1
  subst hc
  have fin: ∀rr:Option Nat,g []=some ([],rr)→rr.getD 0=0→nN=st→(∀be M' w',au be st.gens w' M' r (match rr with|none=> .tuple #[]|some _=>jK))→
    nN.fr=st.fr∧Calls P f #[jK] w fun e w'=> ∃cv be M',e= .returned cv∧bf B nN w' be M'∧Tr st w β M nN w' be M'∧w.heap.size≤w'.heap.size∧au be nN.gens w' M' r cv:=by
   rintro rr hg h0 rfl hr
   refine⟨rfl,(nM rr hg h0 w).mono ?_⟩
   rintro e w' ⟨rfl,jY⟩
   obtain⟨o1,o2⟩:=xe h jY.os jY.tape jY.output jY.size jY.block
   exact⟨_,β,M,rfl,o1,o2,jY.size,hr _ _ _⟩
  split at hd
  ·rename_i hg
   simp only[Option.some.injEq,Prod.mk.injEq]at hd
   obtain⟨rfl,rfl⟩:=hd
   exact fin none hg rfl rfl fun _ _ _=>by simp[au,av]
  ·rename_i hg
   simp only[Option.some.injEq,Prod.mk.injEq]at hd
   obtain⟨rfl,rfl⟩:=hd
   exact fin (some 0) hg rfl rfl fun _ _ _=>by simp[au,jK]
  ·cases hd
 ·rename_i sp k g0 off len
  simp only[av,au]at hv
  obtain⟨u,us,h1,⟨acz,cap,rfl,Q7,Ra⟩,rfl⟩:=hv
  have hc:bw= #[.slice (some ⟨(β sp k g0).blk,(β sp k g0).off+off,none⟩) len cap]:=Array.toList_inj.1 h1
  subst hc
  generalize he:st.get sp k=e0 at hd
  obtain⟨g',ob⟩:=e0
  cases ob with
  |none=>cases hd
  |map _ _ _=>cases hd
  |cells cs wm bx=>
  cases bx with
  |true=>cases hd
  |false=>
  dsimp only at hd
  split at hd
  ·rename_i Tt
   obtain⟨rfl,wW,Tc⟩:=Tt
   split at hd
   ·rename_i ys rr hg
    split at hd
    ·rename_i kZ
     obtain⟨IB,hy2,hy3⟩:=kZ
     simp only[Option.some.injEq,Prod.mk.injEq]at hd
     obtain⟨rfl,rfl⟩:=hd
     have qq:=h.obj sp k
     rw[he]at qq
     unfold dg at qq
     obtain⟨c,el,fz,lq,h2,h3,h4,h5,h6,h7,h8⟩:=qq
     dsimp only at lq h2 h3 h4 h5 h6
     subst h4
     have hlen:((cs.drop off).take len).length=len:=by rw[List.length_take,List.length_drop];omega
     have dq:c.toList.length=c.size:=by simp
     have S9:PList w M ((cs.drop off).take len) ((c.toList.drop ((β sp k g').off+off)).take len):=by
      have q:=PList.take len (PList.drop off (show PList w M cs ((c.toList.drop (β sp k g').off).take cs.length)from h5))
      rw[List.drop_take,List.take_take,List.drop_drop,Nat.min_eq_left (by omega)]at q
      exact q
     have aB:=kz _ ys rr hg (by rw[hlen];exact IB) w M (β sp k g').blk ((β sp k g').off+off) cap c el _ lq (by rw[hlen];omega) (by rw[hlen];exact Q7) (by rw[hlen]) S9
     rw[hlen]at aB
     refine⟨Nv _ _,aB.mono ?_⟩
     rintro e w' ⟨us,rfl,hpu,jY⟩
     have hul:us.length=len:=by rw[←PList.length _ _ hpu];exact IB
     have key:=rz h he g' (Nat.le_refl _) lq off us (splice cs off ys) wW (by omega) (by rw[cz];exact Nat.le_refl _) (by rw[cz];exact h3) (ku h7 hy2) (by
      rw[cz]
      have FA:(splice (c.toList.drop (β sp k g').off) off us).take cs.length=splice ((c.toList.drop (β sp k g').off).take cs.length) off us:=by
       apply List.ext_getElem?
       intro j
       rw[List.getElem?_take,cW,cW,List.getElem?_take,List.length_take]
       by_cases hj:j<cs.length
       ·rw[if_pos hj,if_pos hj]
        by_cases hc:off≤j∧j<off+us.length∧j<(c.toList.drop (β sp k g').off).length
        ·rw[if_pos hc,if_pos (by omega)]
        ·rw[if_neg hc,if_neg (by omega)]
       ·rw[if_neg hj,if_neg hj,if_neg (by omega)]
      rw[FA]
      exact PList.splice h5 hpu)
     rw[jW]at key
     have kW:=dc w (β sp k g').blk (.cells (splice c.toList ((β sp k g').off+off) us).toArray el)
     obtain⟨o1,o2⟩:=xe key.1 jY.os jY.tape jY.output jY.size fun b hb=>jY.block b (by rw[kW]at hb;exact hb)
     refine⟨_,β,M,rfl,o1,key.2.trans o2 (by rw[kW];exact Nat.le_refl _),by rw[←kW];exact jY.size, ?_⟩
     cases rr with
     |none=>simp[Fl,xh,au,av]
     |some n=>
      simp only[Fl,xh,au]
      refine⟨?_,cap,rfl, ?_,Ra⟩
      ·rw[du,if_pos ⟨rfl,rfl⟩];exact Nat.le_refl _
      ·simp at hy3;omega
    ·cases hd
   ·cases hd
  ·cases hd
 ·cases hd
theorem CQ(hE:lA P E)(hO:pS P E call)(h:bf B st w β M){f:Nat}{targs:List T}{bw:Array Value}(hv:av β st.gens w M targs bw.toList){r:T}{nN:St}{d:Nat}(hd:ar E call d st f targs=some (r,nN)):
  (callFunc f bw).run P w= .ok (.enter f bw) w∧nN.fr=st.fr∧
  Calls P f bw w fun e w'=> ∃cv be M',e= .returned cv∧bf B nN w' be M'∧Tr st w β M nN w' be M'∧w.heap.size≤w'.heap.size∧au be nN.gens w' M' r cv:=by
 unfold ar at hd
 split at hd
 ·rename_i af oV
  obtain⟨hs,fn,hf,mK⟩:=hE.1 f af oV
  have hnb:(fn.name== "runtime.NumGoroutine")=false∧fn.body.isSome=true:=by
   unfold wN at mK
   split at mK
   ·cases mK
   ·rename_i hn
    refine⟨by simpa using hn, ?_⟩
    split at mK
    ·cases mK
    ·rename_i e;rw[e];rfl
  refine⟨ky hf hnb.1 hnb.2 _ _, ?_⟩
  split at hd
  ·rename_i q hq
   obtain⟨ts,us⟩:=q
   obtain⟨M1,q1,q2,q3,q4,q5,q6⟩:=gF (fun t=>pL af.eff st aM t) targs B st w β M _ ts us _ (Fz.refl st) h hv hq
   split at hd
   ·rename_i kA
    simp only[Option.map_eq_some_iff]at hd
    obtain⟨⟨r',cq⟩,aB,hd⟩:=hd
    simp at hd
    obtain⟨rfl,rfl⟩:=hd
    refine⟨uT st us, ?_⟩
    have mz:af.own=none:=by
     cases ho:af.own with
     |none=>rfl
     |some j=>rw[((hO f af ts (st.ups us).sh r' cq oV aB).2 j ho).1]at kA;cases kA
    have kz:=(hO f af ts (st.ups us).sh r' cq oV aB).1 mz
    rw[kA]at q4 kz
    have hx:fR true β (bare .nil (st.ups us).sh).gens w M1 ts bw.toList:=by
     intro be G' p1 p2
     refine q4 be G' (fun k g hg=>p1 k g ?_) (fun k=>Nat.le_trans (Nat.le_of_eq ?_) (p2 k))
     ·have:(bare .nil (st.ups us).sh).gens .S k=(st.ups us).gens .S k:=rfl
      rw[this,q2.gens];exact hg
     ·have:(bare .nil (st.ups us).sh).gens .S k=(st.ups us).gens .S k:=rfl
      rw[this,q2.gens]
    refine(kz w β M1 bw (Jj q1 .nil) hx).mono ?_
    rintro e w' ⟨cv,be,M',rfl,h',pJ,hG,hr⟩
    obtain⟨b1,b2⟩:=Ph q1 h' pJ hG
    refine⟨cv,_,M',rfl,b1,(Tr.fz q2 q3).trans b2 (Nat.le_refl _),h'.size, ?_⟩
    exact hr _ _ (fun _ _ _=>rfl) (fun _=>Nat.le_refl _)
   ·rename_i kA
    simp at kA
    split at hd
    ·rename_i r0 aB
     obtain⟨r',cq⟩:=r0
     rw[kA]at q4
     have iE: ∀b,¬dn [] β b:=by rintro b ⟨k,hl,_⟩;simp[ch,aV]at hl;exact hl.elim
     have qx:bf ⟨w,M1,dn [] β⟩ (bare .nil []) w β M1:=by
      have h0:=FD q1 .nil
      exact⟨h0.obj,h0.dist,h0.mlt,fun k hl=>h0.lblk k hl,fun k hl=>(h0.sblk k hl).imp (fun e=>e.elim) id,rfl,rfl,rfl,Nat.le_refl _,fun _ _ _=>rfl,c9.refl w M1,fun _ _ _ _ hm=>hm⟩
     have plain: ∀(w':World) (cv:Value) (be:aS) (M':aI) (CR:St),CR=(if scalar r'=true then st else st.ups us)→bf ⟨w,M1,dn [] β⟩ (bare .nil cq) w' be M'→PRel w' M' r' cv→
       ∃Tu be M',Ending.returned cv= .returned Tu∧bf B CR w' be M'∧Tr st w β M CR w' be M'∧w.heap.size≤w'.heap.size∧au be CR.gens w' M' r' Tu:=by
      intro w' cv be M' CR uY h' hr'
      have hold:=fun b (hb:b<w.heap.size)=>h'.same b hb (iE b)
      by_cases pR:scalar r'=true
      ·rw[if_pos pR]at uY;subst uY
       obtain⟨o1,o2⟩:=xe h h'.os h'.tape h'.output h'.size hold
       exact⟨cv,β,M,rfl,o1,o2,h'.size,PRel.toV _ _ _ _ (zy pR hr')⟩
      ·rw[if_neg pR]at uY;subst uY
       obtain⟨o1,o2⟩:=xe q1 h'.os h'.tape h'.output h'.size hold
       refine⟨cv,β,M1,rfl,o1,(Tr.fz q2 q3).trans o2 (Nat.le_refl _),h'.size,PRel.toV _ _ _ _ (PRel.mono (cM ?_) _ _ hr')⟩
       intro b x hm
       have hb:=q1.mlt b x hm
       exact h'.msup b x hb (iE b) hm
     cases mz:af.own with
     |none=>
      simp only[mz]at hd
      simp at hd
      obtain⟨rfl,uY⟩:=hd
      have kz:=(hO f af ts [] r' cq oV aB).1 mz
      rw[kA]at kz
      have Pl:nN.fr=st.fr:=by rw[←uY];split;rfl;exact uT st us
      refine⟨Pl,(kz w β M1 bw qx q4).mono ?_⟩
      rintro e w' ⟨cv,be,M',rfl,h',pJ,hG,hr⟩
      exact plain w' cv be M' nN uY.symm h' hr
     |some j=>
      simp only[mz]at hd
      have kz:=((hO f af ts [] r' cq oV aB).2 j mz).2
      unfold ig at hd
      have Pl:nN.fr=st.fr:=by
       split at hd
       ·simp at hd;obtain⟨_,rfl⟩:=hd;split;rfl;exact uT st us
       ·split at hd
        ·simp at hd;obtain⟨_,rfl⟩:=hd;show(ite _ _ _:St).fr=_;split;rfl;exact uT st us
        ·cases hd
       ·cases hd
      refine⟨Pl,(kz w β M1 bw qx q4).mono ?_⟩
      rintro e w' ⟨cv,be,M',rfl,h',hr⟩
      rcases hr with⟨hc,hr⟩|⟨cs,len,hc,S,sz,cap,c,el,s1,s2,s3,s4,s5,s6,s7,s8,s9,s10,s11,s12,s13⟩
      ·rw[hc]at hd
       simp at hd;obtain⟨rfl,uY⟩:=hd
       exact plain w' cv be M' nN uY.symm h' hr
      ·rw[hc]at hd
       simp only at hd
       split at hd
       ·rename_i fF
        have kW:cs.length/len=sz:=by rw[s8];exact Nat.mul_div_cancel_left _ (Nat.pos_of_ne_zero s9)
        rw[kW]at hd
        have hold:=fun b (hb:b<w.heap.size)=>h'.same b hb (iE b)
        have fin: ∀(CR:St) (M3:aI),bf B CR w β M3→Tr st w β M CR w β M3→(∀β G,au β G w' (xf M3 S) (bh r' j .nilsl) (lb cv j jK))→
          some (bh r' j (.isl .L d ((CR.get .L d).g+1) 0 len sz),CR.up (.L,d,⟨(CR.get .L d).g+1,.cells cs 0 false⟩))=some (r,nN)→
          ∃Tu be M',Ending.returned cv= .returned Tu∧bf B nN w' be M'∧Tr st w β M nN w' be M'∧w.heap.size≤w'.heap.size∧au be nN.gens w' M' r Tu:=by
         intro CR M3 h3 t3 Yq hd
         simp only[Option.some.injEq,Prod.mk.injEq]at hd
         obtain⟨rfl,rfl⟩:=hd
         obtain⟨o1,o2⟩:=Pj h3 h'.os h'.tape h'.output h'.size hold d ((CR.get .L d).g+1) (Nat.lt_succ_self _) S s1 (eN s2) (.cells cs 0 false) (by
          unfold dg
          simp only[bN]
          exact⟨c,el,(0,0),s2,s3,s4,rfl,tG fF.1 s5,fun i _ hi=> .inr ⟨rfl,by omega,by omega⟩,s7,Nat.zero_le _⟩)
         refine⟨cv,_,_,rfl,o1,t3.trans o2 (Nat.le_refl _),h'.size,Jk (Yq _ _) s12 ?_ rfl⟩
         simp only[au]
         rw[bN]
         exact⟨by simp[du],cap,rfl,s10,by simpa using s11⟩
        by_cases pR:scalar (bh r' j .nilsl)=true
        ·simp only[pR,if_true]at hd
         exact fin st M h (Tr.refl _ _ _ _) (fun β G=>xi pR (s13 β G)) hd
        ·simp only[pR,Bool.false_eq_true,if_false]at hd
         refine fin (st.ups us) M1 q1 (Tr.fz q2 q3) (fun β G=>au.mono (cM ?_) (fun _ _ _ _=>rfl) (fun _ _=>Nat.le_refl _) _ _ (s13 β G)) hd
         rintro b x (hm|⟨rfl,h1,h2⟩)
         ·exact h'.msup b x (q1.mlt b x hm) (iE b) hm
         ·have:=(s6.resolve_left pR) (x-S.off) (by omega)
          rwa [show S.off+(x-S.off)=x by omega]at this
       ·cases hd
    ·cases hd
  ·cases hd
 ·rename_i g oV wX
  split at hd
  ·rename_i q hq
   obtain⟨ts,us⟩:=q
   simp only[Option.map_eq_some_iff]at hd
   obtain⟨r',hg,hd⟩:=hd
   simp at hd
   obtain⟨rfl,rfl⟩:=hd
   obtain⟨⟨fn,hf,hn,hb⟩,kz⟩:=hE.2.1 f g oV wX
   obtain⟨M1,q1,q2,q3,q4,q5,q6⟩:=gF (fun t=>pL false st aM t) targs B st w β M _ ts us _ (Fz.refl st) h hv hq
   refine⟨ky hf hn hb _ _,rfl,(kz ts r' hg w M1 bw q1.mlt q4).mono ?_⟩
   rintro e w' ⟨cv,rfl,jY,hr⟩
   obtain⟨o1,o2⟩:=xe h jY.os jY.tape jY.output jY.size jY.block
   exact⟨cv,β,M,rfl,o1,o2,jY.size,PRel.toV _ _ _ _ (PRel.mono (cM (fun b x hm=>h.mlt b x hm)) _ _ hr)⟩
  ·cases hd
 ·rename_i oV wX
  split at hd
  ·rename_i g hwr
   obtain⟨⟨fn,hf,hn,hb⟩,nM,kz⟩:=hE.2.2 f g oV wX hwr
   refine⟨ky hf hn hb _ _, ?_⟩
   exact Ts h nM kz hv hd
  ·cases hd
variable{ops:Array Oper}{Q:Exit→Act→World→Prop}{n:Nat}{K:Act→World→Prop}
theorem zA(hf:jI st a w β M n){j d:Nat}(hj:(ops[j]?).bind (·.dst)=some d):yielded ops a.tmps j=match an st.fr d with| .b x=>some x|_=>none:=by
 unfold yielded
 rw[hj]
 simp only[Option.bind_some]
 have hs:=hf.slot d
 rw[Array.getD_eq_getD_getElem?]at hs
 cases hx:a.tmps[d]? with
 |none=>
  rw[hx]at hs
  simp only[Option.getD_none]at hs
  generalize an st.fr d=t at*
  cases t <;> simp only[au,PRel,undef]at hs <;> simp_all
 |some cv=>
  rw[hx]at hs
  simp only[Option.getD_some]at hs
  generalize an st.fr d=t at*
  cases t <;> simp only[au,PRel]at hs
  case b x=>subst hs;rfl
  all_goals first
   |(subst hs;rfl)
   |(obtain⟨_,rfl,_⟩:=hs;rfl)
   |(obtain⟨_,_,rfl,_⟩:=hs;rfl)
   |(obtain⟨_,_,_,rfl,_⟩:=hs;rfl)
   |(obtain⟨_,_,_,_,rfl,_⟩:=hs;rfl)
   |(obtain⟨_,rfl⟩:=hs;rfl)
theorem Bl(hE:lA P E)(hO:pS P E call){hs:List Nat}{ao:aJ}{i:Nat}(hi:ops[i]? =some o)(hc:nn P hs ops o=some ao)(h:bf B st w β M)(hf:jI st a w β M n){bn:St}(he:bg E call n ao st=some bn)
  (hK: ∀a' w' be M',bf B bn w' be M'→jI bn a' w' be M' n→Tr st w β M bn w' be M'→w.heap.size≤w'.heap.size→K a' w'):wpOp P ops Q i K a w:=by
 have bZ:=Fq hf
 unfold wpOp
 rw[hi]
 simp only
 unfold nn at hc
 split at hc
 ·rename_i xc eI
  have core: ∀gd,ao=⟨o.dst,xc,gd⟩→(match bq st.rho xc with
    |some (some c)=>match ar E call (o.dst.getD 0) st c.1 c.2 with
     |some r=>(eX st.fr n o.dst r.1).map fun fr=>({r.2 with fr}:St)
     |none=>none
    |some none=>none
    |none=>match(bC (o.dst.getD 0) st.rho xc).run st.get st.sh.length with
     |some (.val v ups)=>(eX st.fr n o.dst v).map fun fr=>({st.ups ups with fr}:St)
     |none=>none)=some bn→o.wp P a w K Q:=by
   intro gd _ qu
   unfold Oper.wp
   split at qu
   ·rename_i c aB
    obtain⟨f,targs⟩:=c
    split at qu
    ·rename_i r hd
     obtain⟨r,nN⟩:=r
     simp only[Option.map_eq_some_iff]at qu
     obtain⟨fr,wx,rfl⟩:=qu
     have kg:=CP eI aB
     obtain⟨c,ho,kg⟩:=kg
     obtain⟨bw,hx,jX⟩:=CO bZ ho kg aB
     obtain⟨d1,d2,d3⟩:=CQ hE hO h jX hd
     rw[hx,d1,Oper.upon_enter]
     refine d3.mono ?_
     rintro e w' ⟨cv,be,M',rfl,k1,k2,k3,k4⟩
     refine hK _ _ be M' (Jm k1 fr) ?_ (k2.fr fr) k3
     exact rD hf k2 wx k4
    ·cases qu
   ·cases qu
   ·split at qu
    ·rename_i v ups hq
     simp only[Option.map_eq_some_iff]at qu
     obtain⟨fr,wx,rfl⟩:=qu
     obtain⟨nx,cv,w',be,M',r1,r2,r3,r4,r5,r6⟩:=Tn (P:=P) bZ h eI hq
     rw[r1]
     have:=hK (a.put o.dst cv) w' be M' (Jm r3 fr) (rD hf r4 wx r6) (r4.fr fr) r5
     rcases r2 with rfl|⟨rfl,rfl⟩
     ·exact this
     ·exact this
    ·cases qu
  split at hc
  ·rename_i hg
   simp at hc;subst hc
   have hw:Region.wanted o (yielded ops a.tmps)=true:=by unfold Region.wanted;rw[hg]
   rw[if_pos hw]
   unfold bg at he
   exact .inl (core none rfl he)
  ·rename_i j want hg
   split at hc
   ·rename_i d hd
    simp at hc;subst hc
    have hy:=zA (ops:=ops) hf hd
    unfold bg at he
    simp only at he
    have FI:(eX st.fr n o.dst bm).map (fun fr=>({st with fr}:St))=some bn→K (a.put o.dst undef) w:=by
     intro hp
     simp only[Option.map_eq_some_iff]at hp
     obtain⟨fr,wx,rfl⟩:=hp
     exact hK _ _ β M (Jm h fr) (rD hf (Tr.refl _ _ _ _) wx (by simp[au,bm,undef,av])) ((Tr.refl _ _ _ _).fr fr) (Nat.le_refl _)
    split at he
    ·rename_i x hx
     rw[hx]at hy
     have hw:Region.wanted o (yielded ops a.tmps)=(x==want):=by unfold Region.wanted;rw[hg];simp[hy]
     split at he
     ·rename_i Rb
      rw[if_pos (by rw[hw];simp[Rb])]
      exact .inl (core _ rfl he)
     ·rename_i Rb
      rw[if_neg (by rw[hw];simp[Rb])]
      exact FI he
    ·rename_i hx
     have hw:Region.wanted o (yielded ops a.tmps)=false:=by
      unfold Region.wanted;rw[hg];simp only
      rw[hy]
      split
      ·rename_i x Bm;exact absurd Bm (hx x)
      ·rfl
     rw[if_neg (by rw[hw];simp)]
     exact FI he
   ·cases hc
 ·cases hc
end
end Go.Ev
namespace Go.Ev
open Go
theorem Q.run_congr{α:Type}{h h':Sp→Nat→aA}{nx V0:Nat}: ∀(q:Q α),(∀κ∈q.log h nx,h' κ.1 κ.2=h κ.1 κ.2)→(q.asks h nx=true→V0=nx)→q.run h' V0=q.run h nx
 | .ret a,_,_=>rfl
 | .fail,_,_=>rfl
 | .rd sp k f,hl,ha=>by
   have e:h' sp k=h sp k:=hl (sp,k) (by simp[Q.log])
   simp only[Q.run,e]
   exact Q.run_congr (f (h sp k)) (fun κ hk=>hl κ (by simp[Q.log,hk])) (fun hh=>ha (by simp[Q.asks,hh]))
 | .new f,hl,ha=>by
   have e:V0=nx:=ha rfl
   subst e
   simp only[Q.run]
   exact Q.run_congr (f V0) (fun κ hk=>hl κ (by simp[Q.log,hk])) (fun _=>rfl)
theorem fC(f:T→Q (T×List Up))(h:Sp→Nat→aA)(nx:Nat)(hf: ∀t,(f t).asks h nx=false): ∀ts,(bl f ts).asks h nx=false:=by
 have fT: ∀{α γ:Type} (q:Q α) (g:α→Q γ),q.asks h nx=false→(∀a,(g a).asks h nx=false)→(q.bind g).asks h nx=false:=by
  intro α γ q g hq hg
  induction q with
  |ret a=>exact hg a
  |fail=>rfl
  |rd sp k f ih=>simp only[Q.bind,Q.asks]at hq ⊢; exact ih _ hq
  |new f ih=>simp[Q.asks]at hq
 intro ts
 induction ts with
 |nil=>rfl
 |cons t ts ih=>
  simp only[bl]
  refine fT _ _ (hf t) (fun p=>fT _ _ ih (fun q=>rfl))
theorem Bn(h:Sp→Nat→aA)(nx:Nat): ∀(keep:Bool) (n:Nat) (t:T),(fz keep n t).asks h nx=false:=by
 have fT: ∀{α γ:Type} (q:Q α) (g:α→Q γ),q.asks h nx=false→(∀a,(g a).asks h nx=false)→(q.bind g).asks h nx=false:=by
  intro α γ q g hq hg
  induction q with
  |ret a=>exact hg a
  |fail=>rfl
  |rd sp k f ih=>simp only[Q.bind,Q.asks]at hq ⊢; exact ih _ hq
  |new f ih=>simp[Q.asks]at hq
 intro keep n
 induction n generalizing keep with
 |zero=>intro t;rfl
 |succ n ih=>
  intro t
  cases t <;> simp only[fz] <;> try rfl
  ·split
   ·rfl
   ·simp only[Q.asks];split
    ·split
     ·split <;> rfl
     ·split
      ·exact fT _ _ (fC _ _ _ (fun t=>ih false t) _) (fun _=>rfl)
      ·rfl
     ·rfl
    ·rfl
  ·split
   ·rfl
   ·simp only[Q.asks];split
    ·split
     ·exact fT _ _ (fC _ _ _ (fun t=>ih false t) _) (fun _=>rfl)
     ·rfl
    ·rfl
  ·split
   ·rfl
   ·simp only[Q.asks];split
    ·split <;> rfl
    ·rfl
  ·exact fT _ _ (fC _ _ _ (fun t=>ih keep t) _) (fun _=>fT _ _ (fC _ _ _ (fun t=>ih keep t) _) (fun _=>rfl))
  ·exact fT _ _ (fC _ _ _ (fun t=>ih keep t) _) (fun _=>rfl)
  ·exact fT _ _ (fC _ _ _ (fun t=>ih keep t) _) (fun _=>rfl)
theorem fj{ρ yY:aZ→T}{l:List aZ}(h: ∀x∈l,yY x=ρ x):l.map yY=l.map ρ:=List.map_congr_left h
theorem iF{ρ yY:aZ→T}{d:Nat}{x:Option aZ}(h: ∀y∈x.toList,yY y=ρ y):bk yY d x=bk ρ d x:=by
 cases x with
 |none=>rfl
 |some y=>simp only[bk];rw[h y (by simp)]
theorem CS{ρ yY:aZ→T}(d:Nat)(op:k7)(h: ∀x∈oP op,yY x=ρ x):bC d yY op=bC d ρ op:=by
 cases op <;> simp only[oP]at h <;> simp only[bC]
 case mv x=>rw[h x (by simp)]
 case pick c a b=>rw[h c (by simp),h a (by simp),h b (by simp)]
 case box x sh=>rw[h x (by simp)]
 case build z ps=>
  have e: ∀p∈ps,yY p.2.2=ρ p.2.2:=fun p hp=>h _ (List.mem_map.2 ⟨p,hp,rfl⟩)
  have e1:(ps.all fun p=>decide ((cellsOf (yY p.2.2)).length=p.2.1)&&noTup (yY p.2.2))=(ps.all fun p=>decide ((cellsOf (ρ p.2.2)).length=p.2.1)&&noTup (ρ p.2.2)):=by
   rw[Bool.eq_iff_iff,List.all_eq_true,List.all_eq_true]
   exact⟨fun hh p hp=>by rw[←e p hp];exact hh p hp,fun hh p hp=>by rw[e p hp];exact hh p hp⟩
  have e2:(ps.map fun p=>(p.1,cellsOf (yY p.2.2)))=(ps.map fun p=>(p.1,cellsOf (ρ p.2.2))):=List.map_congr_left fun p hp=>by rw[e p hp]
  rw[e1,e2]
 case bsl z len ps=>
  have e2:(ps.map fun p=>yY p.2)=(ps.map fun p=>ρ p.2):=List.map_congr_left fun p hp=>h _ (List.mem_map.2 ⟨p,hp,rfl⟩)
  rw[e2]
 case ld x n ag=>rw[h x (by simp)]
 case st x v n=>rw[h x (by simp),h v (by simp)]
 case nck x=>rw[h x (by simp)]
 case bin o x y=>rw[h x (by simp),h y (by simp)]
 case eq n k x y=>rw[h x (by simp),h y (by simp)]
 case un o x=>rw[h x (by simp)]
 case cvi k x=>rw[h x (by simp)]
 case mkfn f a c=>rw[fj (fun x hx=>h x (by simp[hx])),fj (fun x hx=>h x (by simp[hx]))]
 case mksl z b x sh=>rw[h x (by simp)]
 case slS x l hh=>
  rw[h x (by simp),iF (x:=l) (fun y hy=>h y (by simp at hy;simp[hy]))]
  split
  ·rw[iF (x:=hh) (fun y hy=>h y (by simp at hy;simp[hy]))]
  ·rfl
 case slV sz x l hh m=>
  rw[h x (by simp),iF (x:=l) (fun y hy=>h y (by simp at hy;simp[hy]))]
  split
  ·rfl
  ·rw[iF (x:=hh) (fun y hy=>h y (by simp at hy;simp[hy]))]
   split
   ·rfl
   ·rename_i mm _ _;rw[h mm (by simp)]
   ·rfl
 case fa x o=>rw[h x (by simp)]
 case fld x o n ag=>rw[h x (by simp)]
 case ia x y n=>rw[h x (by simp),h y (by simp)]
 case iaA x y l n=>rw[h x (by simp),h y (by simp)]
 case ixS x y=>rw[h x (by simp),h y (by simp)]
 case ixA x y l n ag=>rw[h x (by simp),h y (by simp)]
 case lk k x y z ok=>rw[h x (by simp),h y (by simp)]
 case mu k x y z=>rw[h x (by simp),h y (by simp),h z (by simp)]
 case ext x j=>rw[h x (by simp)]
 case lenS x=>rw[h x (by simp)]
 case lenV x=>rw[h x (by simp)]
 case lenM x=>rw[h x (by simp)]
 case app s b x y sh nm=>rw[h x (by simp),h y (by simp)]
 case mm b as=>rw[fj h]
theorem uZ{ρ yY:aZ→T}(op:k7)(h: ∀x∈oP op,yY x=ρ x):bq yY op=bq ρ op:=by
 cases op <;> simp only[oP]at h <;> simp only[bq]
 case callf f as=>rw[fj h]
 case callv f as=>rw[h f (by simp),fj (fun x hx=>h x (by simp[hx]))]
theorem FJ{ρ:aZ→T}{op:k7}(hq:quiet op=true)(d:Nat)(h:Sp→Nat→aA)(nx:Nat):bq ρ op=none∧(bC d ρ op).log h nx= []∧(bC d ρ op).asks h nx=false∧ ∀v ups,(bC d ρ op).run h nx=some (.val v ups)→ups= []:=by
 have hval: ∀x:Option T,(Ev.val x).log h nx= []∧(Ev.val x).asks h nx=false∧ ∀v ups,(Ev.val x).run h nx=some (.val v ups)→ups= []:=by
  intro x;cases x <;> simp[Ev.val,Q.log,Q.asks,Q.run]
 cases op <;> simp[quiet]at hq <;> refine⟨rfl, ?_⟩ <;> simp only[bC]
 case slV sz x l hh m=>
  split
  ·simp[Q.log,Q.asks,Q.run]
  ·split
   ·unfold pH
    split
    ·split <;> simp[Q.bind,Q.log,Q.asks,Q.run]
    ·split <;> simp[Q.bind,Q.log,Q.asks,Q.run]
    ·split <;> simp[Q.bind,Q.log,Q.asks,Q.run]
    ·simp[Q.bind,Q.log,Q.asks,Q.run]
   ·split
    ·split <;> simp[Q.log,Q.asks,Q.run]
    ·split <;> simp[Q.log,Q.asks,Q.run]
    ·simp[Q.log,Q.asks,Q.run]
   ·simp[Q.log,Q.asks,Q.run]
 all_goals first
  |exact hval _
  |(simp[Q.log,Q.asks,Q.run];done)
  |(repeat' split
    all_goals first
     |exact hval _
     |(simp[Q.log,Q.asks,Q.run];done))
end Go.Ev
namespace Go.Ev
open Go
theorem xj{us:List Up}{sp:Sp}{k:Nat}:fP us sp k=true↔(sp,k)∈cH us:=by
 unfold fP cH
 rw[List.any_eq_true,List.mem_map]
 constructor
 ·rintro⟨⟨a,b,c⟩,h1,h2⟩
  simp at h2;obtain⟨rfl,rfl⟩:=h2
  exact⟨_,h1,rfl⟩
 ·rintro⟨⟨a,b,c⟩,h1,h2⟩
  simp at h2;obtain⟨rfl,rfl⟩:=h2
  exact⟨_,h1,by simp⟩
theorem xk(s p:St): ∀(us:List Up) (sp:Sp) (k:Nat),fP us sp k=true→(s.ups us).get sp k=(p.ups us).get sp k:=by
 intro us
 induction us generalizing s p with
 |nil=>intro sp k h;simp[fP]at h
 |cons u us ih=>
  intro sp k h
  simp only[St.ups]
  by_cases h2:fP us sp k=true
  ·exact ih _ _ sp k h2
  ·simp at h2
   rw[fS _ us sp k h2,fS _ us sp k h2]
   obtain⟨a,b,c⟩:=u
   have:(a==sp&&b==k)=true:=by
    simp only[fP,List.any_cons]at h h2
    simpa[h2]using h
   simp at this;obtain⟨rfl,rfl⟩:=this
   rw[dz,dz];simp
theorem nO(s p:St)(us:List Up)(sp:Sp)(k:Nat):(s.ups us).get sp k=if(sp,k)∈cH us then(p.ups us).get sp k else s.get sp k:=by
 split
 ·rename_i h;exact xk s p us sp k (xj.2 h)
 ·rename_i h
  refine fS s us sp k ?_
  cases hh:fP us sp k with
  |false=>rfl
  |true=>exact absurd (xj.1 hh) h
theorem zB(s p:St)(hs:s.sh=p.sh): ∀us,(s.ups us).sh=(p.ups us).sh:=by
 intro us
 induction us generalizing s p with
 |nil=>exact hs
 |cons u us ih=>
  simp only[St.ups]
  refine ih _ _ ?_
  obtain⟨a,b,c⟩:=u
  cases a
  ·exact hs
  ·simp[St.up,hs]
theorem u5(s:St): ∀us,(∀u∈us,u.1= .S→u.2.1<s.sh.length)→(s.ups us).sh.length=s.sh.length:=by
 intro us
 induction us generalizing s with
 |nil=>intro _;rfl
 |cons u us ih=>
  intro h
  obtain⟨a,b,c⟩:=u
  simp only[St.ups]
  have hlen:(s.up (a,b,c)).sh.length=s.sh.length:=by
   cases a with
   |L=>rfl
   |S=>simp[St.up,pK _ _ _ (h (.S,b,c) (by simp) rfl)]
  rw[ih _ (fun u hu e=>by rw[hlen];exact h u (by simp[hu]) e),hlen]
theorem zC{s p:St}{us:List Up}(h:lV p us=true)(he: ∀sp k,(sp,k)∈cH us→s.get sp k=p.get sp k): ∀u∈us,u.1= .S→u.2.1<s.sh.length:=by
 intro u hu e
 unfold lV at h
 rw[List.all_eq_true]at h
 have h1:=h u hu
 obtain⟨a,b,c⟩:=u
 dsimp only at e;subst e
 simp at h1
 have h2:=he .S b (by unfold cH;exact List.mem_map.2 ⟨_,hu,rfl⟩)
 refine A9 (st:=s) ?_
 rw[h2]
 unfold q8 at h1
 unfold live
 generalize (p.get .S b).ob=ob at*
 cases ob <;> simp_all
theorem u6{fr IG:Fr}{n:Nat}{d:Option Nat}{v:T}{g:Fr}(h:eX fr n d v=some g): ∃g2,eX IG n d v=some g2∧ ∀t,an g2 t=if d=some t then an g t else an IG t:=by
 cases d with
 |none=>exact⟨IG,rfl,fun t=>by simp⟩
 |some d=>
  simp only[eX]at h ⊢
  split at h
  ·rename_i hd
   simp at h;subst h
   refine⟨cS IG d v,by rw[if_pos hd],fun t=> ?_⟩
   have e1:an (cS IG d v) t=if t=d then v else an IG t:=iH IG d v t
   have e2:an (cS fr d v) t=if t=d then v else an fr t:=iH fr d v t
   rw[e1,e2]
   by_cases ht:t=d
   ·subst ht;simp
   ·rw[if_neg ht,if_neg (fun e=>ht (by simpa using e.symm))]
  ·cases h
def wrote(fp:FP)(sp:Sp)(k:Nat):Prop:=(sp,k)∈fp.w∨(fp.all=true∧sp= .S)
structure Jn (ao:aJ) (fp:FP) (s s' p':St):Prop where
 slot: ∀t,an s'.fr t=if ao.d=some t then an p'.fr t else an s.fr t
 key: ∀sp k,(wrote fp sp k→s'.get sp k=p'.get sp k)∧(¬wrote fp sp k→s'.get sp k=s.get sp k)
 len:(fp.all=true→s'.sh.length=p'.sh.length)∧(fp.all=false→s'.sh.length=s.sh.length)
variable{E:Env}{call:jk}{n:Nat}
theorem CT{s p:St}{ao:aJ}(h: ∀t∈looks ao,an s.fr t=an p.fr t): ∀x∈oP ao.op,s.rho x=p.rho x:=by
 intro x hx
 cases x with
 |t m=>
  refine h m ?_
  unfold looks
  rw[List.mem_append];left
  unfold tmpsOf
  rw[List.mem_filterMap]
  exact⟨.t m,hx,rfl⟩
 |c v=>rfl
theorem Jo{s p:St}{d j:Nat}{r r':T}{us:List Up}{p2:St}(hd:ig d j r p us=some (r',p2))(h: ∀sp k,(sp,k)∈(Sp.L,d)::cH us→s.get sp k=p.get sp k)(hl:(s.ups us).sh.length=s.sh.length):
  ∃s2,ig d j r s us=some (r',s2)∧(∀sp k,((sp,k)∈(Sp.L,d)::cH us→s2.get sp k=p2.get sp k)∧((sp,k)∉(Sp.L,d)::cH us→s2.get sp k=s.get sp k))∧s2.sh.length=s.sh.length:=by
 have base: ∀(c:Bool) (sp:Sp) (k:Nat),((sp,k)∈(Sp.L,d)::cH us→(if c=true then s else s.ups us).get sp k=(if c=true then p else p.ups us).get sp k)∧((sp,k)∉(Sp.L,d)::cH us→(if c=true then s else s.ups us).get sp k=s.get sp k):=by
  intro c sp k
  cases c with
  |true=>simp only[if_true];exact⟨h sp k,fun _=>trivial⟩
  |false=>
   simp only[Bool.false_eq_true,if_false]
   have g1:=nO s p us sp k
   have g2:=nO p p us sp k
   refine⟨fun hm=> ?_,fun hm=> ?_⟩
   ·by_cases hk:(sp,k)∈cH us
    ·rw[if_pos hk]at g1;exact g1
    ·rw[if_neg hk]at g1 g2;rw[g1,g2];exact h sp k hm
   ·rw[if_neg (fun e=>hm (List.mem_cons_of_mem _ e))]at g1;exact g1
 have len: ∀c:Bool,(if c=true then s else s.ups us).sh.length=s.sh.length:=by
  intro c;cases c
  ·simpa using hl
  ·simp
 unfold ig at hd ⊢
 split at hd
 ·rename_i hc
  simp only[Option.some.injEq,Prod.mk.injEq]at hd ⊢
  obtain⟨rfl,rfl⟩:=hd
  exact⟨_,⟨rfl,rfl⟩,base _,len _⟩
 ·rename_i cs CG ex hc
  split at hd
  ·rename_i fF
   rw[if_pos fF]
   simp only[Option.some.injEq,Prod.mk.injEq]at hd ⊢
   obtain⟨rfl,rfl⟩:=hd
   have hg:=(base (scalar (bh r j .nilsl)) .L d).1 (List.mem_cons_self ..)
   rw[hg]
   refine⟨_,⟨rfl,rfl⟩,fun sp k=>⟨fun hm=> ?_,fun hm=> ?_⟩, ?_⟩
   ·rw[dz,dz]
    split
    ·rfl
    ·exact(base _ sp k).1 hm
   ·rw[dz,if_neg (by rintro⟨rfl,rfl⟩;exact hm (List.mem_cons_self ..))]
    exact(base _ sp k).2 hm
   ·exact len _
  ·cases hd
 ·cases hd
theorem xl{ao:aJ}{fp:FP}{s p p':St}(he:bg E call n ao p=some p')(eb:bD E call ao p=some fp)(h1: ∀t∈looks ao,an s.fr t=an p.fr t)(h2: ∀sp k,(sp,k)∈fp.r∨(sp,k)∈fp.w→s.get sp k=p.get sp k)(h3:fp.all=true→s.sh=p.sh):
  ∃s',bg E call n ao s=some s'∧Jn ao fp s s' p':=by
 have Tv:=CT h1
 have FI:(eX p.fr n ao.d bm).map (fun fr=>({p with fr}:St))=some p'→fp=cG→ ∃s',(eX s.fr n ao.d bm).map (fun fr=>({s with fr}:St))=some s'∧Jn ao fp s s' p':=by
  intro hp hn
  subst hn
  simp only[Option.map_eq_some_iff]at hp
  obtain⟨g,hg,rfl⟩:=hp
  obtain⟨g2,e1,e2⟩:=u6 (IG:=s.fr) hg
  refine⟨{s with fr:=g2},by rw[e1];rfl,e2,fun sp k=>⟨fun hw=> ?_,fun _=>rfl⟩,⟨(fun hh=>by cases hh),fun _=>rfl⟩⟩
  rcases hw with hw|hw
  ·simp[cG]at hw
  ·cases hw.1
 have core:(match bq p.rho ao.op with
       |some (some c)=>match ar E call (ao.d.getD 0) p c.1 c.2 with
        |some r=>(eX p.fr n ao.d r.1).map fun fr=>({r.2 with fr}:St)
        |none=>none
       |some none=>none
       |none=>match(bC (ao.d.getD 0) p.rho ao.op).run p.get p.sh.length with
        |some (.val v ups)=>(eX p.fr n ao.d v).map fun fr=>({p.ups ups with fr}:St)
        |none=>none)=some p'→(match bq p.rho ao.op with
       |some (some c)=>dy E call (ao.d.getD 0) p c.1 c.2
       |some none=>none
       |none=>
        let q:=bC (ao.d.getD 0) p.rho ao.op
        match q.run p.get p.sh.length with
        |some (.val _ ups)=>if q.asks p.get p.sh.length||lV p ups then some (⟨q.asks p.get p.sh.length,q.log p.get p.sh.length,cH ups⟩:FP)else none
        |none=>none)=some fp→
   ∃s',(match bq s.rho ao.op with
    |some (some c)=>match ar E call (ao.d.getD 0) s c.1 c.2 with
     |some r=>(eX s.fr n ao.d r.1).map fun fr=>({r.2 with fr}:St)
     |none=>none
    |some none=>none
    |none=>match(bC (ao.d.getD 0) s.rho ao.op).run s.get s.sh.length with
     |some (.val v ups)=>(eX s.fr n ao.d v).map fun fr=>({s.ups ups with fr}:St)
     |none=>none)=some s'∧Jn ao fp s s' p':=by
  intro qu hf
  rw[uZ ao.op Tv]
  split at qu
  ·rename_i c hc
   obtain⟨f,args⟩:=c
   rw[hc]at hf
   simp only[hc]at hf ⊢
   split at qu
   ·rename_i r hd
    obtain⟨r,p2⟩:=r
    simp only[Option.map_eq_some_iff]at qu
    obtain⟨g,hg,rfl⟩:=qu
    obtain⟨g2,e1,e2⟩:=u6 (IG:=s.fr) hg
    suffices hs: ∃s2,ar E call (ao.d.getD 0) s f args=some (r,s2)∧(∀sp k,(wrote fp sp k→s2.get sp k=p2.get sp k)∧(¬wrote fp sp k→s2.get sp k=s.get sp k))∧(fp.all=true→s2.sh.length=p2.sh.length)∧(fp.all=false→s2.sh.length=s.sh.length)by
     obtain⟨s2,d1,d2,d3⟩:=hs
     refine⟨{s2 with fr:=g2},by rw[d1];simp[e1],e2,d2,d3⟩
    unfold dy at hf
    unfold ar at hd ⊢
    split at hd
    ·rename_i af oV
     simp only[oV]at hf ⊢
     cases hq:(bl (fz af.eff aM) args).run p.get p.sh.length with
     |none=>simp[hq]at hd
     |some q=>
      obtain⟨ts,us⟩:=q
      simp only[hq]at hd hf
      split at hf
      ·cases hf
      ·rename_i CU
       simp at CU
       have uR: ∀κ∈(bl (fz af.eff aM) args).log p.get p.sh.length,κ∈fp.r:=by
        intro κ hk
        split at hf
        ·simp at hf;subst hf;exact hk
        ·split at hf
         ·split at hf
          ·simp at hf;subst hf;exact hk
          ·simp at hf;subst hf;exact List.mem_cons_of_mem _ hk
         ·cases hf
       have qw:(bl (fz af.eff aM) args).run s.get s.sh.length=some (ts,us):=by
        rw[←hq]
        refine Q.run_congr _ (fun κ hk=>h2 _ _ (.inl (uR κ hk))) (fun hh=> ?_)
        rw[fC _ _ _ (fun t=>Bn _ _ _ _ t)]at hh;cases hh
       rw[qw]
       simp only
       split at hd
       ·rename_i kA
        simp only[kA,if_true]at hf ⊢
        simp at hf;subst hf
        simp only[Option.map_eq_some_iff]at hd
        obtain⟨⟨r',cq⟩,aB,hd⟩:=hd
        simp at hd;obtain⟨rfl,rfl⟩:=hd
        have iy:=h3 rfl
        have YI:=zB s p iy us
        refine⟨{s.ups us with sh:=cq},by rw[YI,aB];rfl,fun sp k=> ?_,fun _=>rfl,(fun hh=>by cases hh)⟩
        cases sp with
        |S=>exact⟨fun _=>rfl,fun hw=>absurd (.inr ⟨rfl,rfl⟩) hw⟩
        |L=>
         have:=nO s p us .L k
         refine⟨fun hw=> ?_,fun hw=> ?_⟩
         ·rcases hw with hw|hw
          ·rw[if_pos hw]at this;exact this
          ·cases hw.2
         ·rw[if_neg (fun e=>hw (.inl e))]at this;exact this
       ·rename_i kA
        simp only[kA,Bool.false_eq_true,if_false]at hf ⊢
        split at hd
        ·rename_i r0 aB
         simp only[aB]at hf ⊢
         cases mz:af.own with
         |some j=>
          simp only[mz]at hf hd ⊢
          simp at hf;subst hf
          obtain⟨s2,g1,g2,g3⟩:=Jo (s:=s) hd (fun sp k hk=>h2 sp k (.inr hk)) (u5 s us (zC CU (fun sp k hk=>h2 sp k (.inr (List.mem_cons_of_mem _ hk)))))
          refine⟨s2,g1,fun sp k=>⟨fun hw=> ?_,fun hw=>(g2 sp k).2 (fun e=>hw (.inl e))⟩,(fun hh=>by cases hh),fun _=>g3⟩
          rcases hw with hw|hw
          ·exact(g2 sp k).1 hw
          ·cases hw.1
         |none=>
         simp only[mz]at hf hd ⊢
         simp at hf;subst hf
         simp at hd;obtain⟨rfl,rfl⟩:=hd
         by_cases pR:scalar r0.1=true
         ·simp only[pR,if_true]
          refine⟨s,rfl,fun sp k=>⟨fun hw=> ?_,fun _=>rfl⟩,(fun hh=>by cases hh),fun _=>rfl⟩
          rcases hw with hw|hw
          ·simp at hw
          ·cases hw.1
         ·simp only[pR,Bool.false_eq_true,if_false]
          refine⟨s.ups us,rfl,fun sp k=> ?_,(fun hh=>by cases hh),fun _=> ?_⟩
          ·have:=nO s p us sp k
           refine⟨fun hw=> ?_,fun hw=> ?_⟩
           ·rcases hw with hw|hw
            ·rw[if_pos hw]at this;exact this
            ·cases hw.1
           ·rw[if_neg (fun e=>hw (.inl e))]at this;exact this
          ·exact u5 s us (zC CU (fun sp k hk=>h2 sp k (.inr (by simpa[pR]using hk))))
        ·cases hd
    ·rename_i g' oV wX
     simp only[oV,wX]at hf ⊢
     simp at hf;subst hf
     cases hq:(bl (fz false aM) args).run p.get p.sh.length with
     |none=>simp[hq]at hd
     |some q=>
      simp only[hq]at hd
      have qw:(bl (fz false aM) args).run s.get s.sh.length=some q:=by
       rw[←hq]
       refine Q.run_congr _ (fun κ hk=>h2 _ _ (.inl hk)) (fun hh=> ?_)
       rw[fC _ _ _ (fun t=>Bn _ _ _ _ t)]at hh;cases hh
      rw[qw]
      simp only[Option.map_eq_some_iff]at hd ⊢
      obtain⟨r',Q8,hd⟩:=hd
      simp at hd;obtain⟨rfl,rfl⟩:=hd
      refine⟨s,⟨r',Q8,rfl⟩,fun sp k=>⟨fun hw=> ?_,fun _=>rfl⟩,(fun hh=>by cases hh),fun _=>rfl⟩
      rcases hw with hw|hw
      ·simp at hw
      ·cases hw.1
    ·rename_i oV wX
     simp only[oV,wX]at hf
     cases hf
   ·cases qu
  ·cases qu
  ·rename_i hc
   simp only[hc]at hf ⊢
   rw[CS _ ao.op Tv]
   split at qu
   ·rename_i v ups hq
    simp only[hq]at hf
    split at hf
    ·rename_i CU
     simp at hf;subst hf
     simp only[Option.map_eq_some_iff]at qu
     obtain⟨g,hg,rfl⟩:=qu
     obtain⟨g2,e1,e2⟩:=u6 (IG:=s.fr) hg
     have qw:(bC (ao.d.getD 0) p.rho ao.op).run s.get s.sh.length=some (.val v ups):=by
      rw[←hq]
      exact Q.run_congr _ (fun κ hk=>h2 _ _ (.inl hk)) (fun hh=>by rw[h3 hh])
     rw[qw]
     refine⟨{s.ups ups with fr:=g2},by simp[e1],e2,fun sp k=> ?_, ?_⟩
     ·have:=nO s p ups sp k
      refine⟨fun hw=> ?_,fun hw=> ?_⟩
      ·by_cases hm:(sp,k)∈cH ups
       ·rw[if_pos hm]at this;exact this
       ·rcases hw with hw|hw
        ·exact absurd hw hm
        ·obtain⟨ha,rfl⟩:=hw
         have iy:=zB s p (h3 ha) ups
         show ch (s.ups ups).sh k=ch (p.ups ups).sh k
         rw[iy]
      ·rw[if_neg (fun e=>hw (.inl e))]at this;exact this
     ·refine⟨fun ha=> ?_,fun ha=> ?_⟩
      ·have iy:=zB s p (h3 ha) ups
       show(s.ups ups).sh.length=(p.ups ups).sh.length
       rw[iy]
      ·rw[show(bC (ao.d.getD 0) p.rho ao.op).asks p.get p.sh.length=false from ha,Bool.false_or]at CU
       exact u5 s ups (zC CU (fun sp k hk=>h2 sp k (.inr hk)))
    ·cases hf
   ·cases qu
 unfold bg at he ⊢
 unfold bD at eb
 cases YJ:ao.gd with
 |none=>
  simp only[YJ]at he eb ⊢
  exact core he eb
 |some g=>
  obtain⟨j,want⟩:=g
  simp only[YJ]at he eb ⊢
  have hj:an s.fr j=an p.fr j:=h1 j (by unfold looks;rw[YJ];simp)
  rw[hj]
  cases hgv:an p.fr j with
  |b x=>
   simp only[hgv]at he eb ⊢
   by_cases Rb:x=want
   ·simp only[Rb,if_true]at he eb ⊢
    exact core he eb
   ·simp only[Rb,if_false]at he eb ⊢
    exact FI he (by simpa using eb.symm)
  |_=>
   simp only[hgv]at he eb ⊢
   exact FI he (by simpa using eb.symm)
end Go.Ev
namespace Go.Ev
open Go
theorem xm(acc:List Nat): ∀(ps:List Nat) (m0 i:Nat),(ps.foldl (fun m p=>m ||| 2 ^ p ||| aV 0 acc p) m0).testBit i=true↔m0.testBit i=true∨ ∃p∈ps,p=i∨(aV 0 acc p).testBit i=true
 | [],m0,i=>by simp
 |p::ps,m0,i=>by
  simp only[List.foldl_cons]
  rw[xm acc ps]
  simp only[Nat.testBit_or,Bool.or_eq_true,Nat.testBit_two_pow,decide_eq_true_eq,List.mem_cons,exists_eq_or_imp]
  constructor
  ·rintro((((h|h)|h))|⟨q,h1,h2⟩)
   ·exact .inl h
   ·exact .inr (.inl (.inl h))
   ·exact .inr (.inl (.inr h))
   ·exact .inr (.inr ⟨q,h1,h2⟩)
  ·rintro(h|((h|h)|⟨q,h1,h2⟩))
   ·exact .inl (.inl (.inl h))
   ·exact .inl (.inl (.inr h))
   ·exact .inl (.inr h)
   ·exact .inr ⟨q,h1,h2⟩
theorem zD(acc ps:List Nat)(i:Nat):(rb acc ps).testBit i=true↔ ∃p∈ps,p=i∨(aV 0 acc p).testBit i=true:=by
 unfold rb;rw[xm];simp
theorem gU{α:Type}(d:α): ∀(l l':List α) (k:Nat),k<l.length→aV d (l++l') k=aV d l k
 | [],l',k,h=>by simp at h
 |x::xs,l',0,h=>rfl
 |x::xs,l',k+1,h=>by simp only[List.cons_append,aV];exact gU d xs l' k (by simpa using h)
theorem oW{α:Type}(d:α): ∀(l:List α) (x:α),aV d (l++ [x]) l.length=x
 | [],x=>rfl
 |y::ys,x=>by simp only[List.cons_append,List.length_cons,aV];exact oW d ys x
theorem rE: ∀(jL:List (List Nat)) (acc:List Nat),(iQ jL acc).length=acc.length+jL.length∧(∀k,k<acc.length→aV 0 (iQ jL acc) k=aV 0 acc k)∧
  ∀j ps,jL[j]? =some ps→ ∀i,(aV 0 (iQ jL acc) (acc.length+j)).testBit i=true↔ ∃p∈ps,p=i∨((if p<acc.length+j then aV 0 (iQ jL acc) p else 0).testBit i=true)
 | [],acc=>by simp[iQ]
 |ps::jL,acc=>by
  obtain⟨h1,h2,h3⟩:=rE jL (acc++ [rb acc ps])
  simp only[iQ]
  refine⟨by rw[h1];simp;omega,fun k hk=> ?_,fun j qs hq i=> ?_⟩
  ·rw[h2 k (by simp;omega),gU _ _ _ _ hk]
  ·cases j with
   |zero=>
    simp at hq;subst hq
    rw[Nat.add_zero,h2 acc.length (by simp),oW,zD]
    constructor
    ·rintro⟨p,hp,e⟩
     refine⟨p,hp,e.imp id fun e=> ?_⟩
     by_cases dG:p<acc.length
     ·rw[if_pos dG,h2 p (by simp;omega),gU _ _ _ _ dG];exact e
     ·exfalso
      have: ∀(l:List Nat) (k:Nat),l.length≤k→aV 0 l k=0:=by
       intro l
       induction l with
       |nil=>intro k _;rfl
       |cons x xs ih=>intro k hk;cases k with|zero=>simp at hk|succ k=>exact ih k (by simpa using hk)
      rw[this acc p (by omega)]at e;simp at e
    ·rintro⟨p,hp,e⟩
     refine⟨p,hp,e.imp id fun e=> ?_⟩
     by_cases dG:p<acc.length
     ·rw[if_pos dG,h2 p (by simp;omega),gU _ _ _ _ dG]at e;exact e
     ·rw[if_neg dG]at e;simp at e
   |succ j=>
    have:=h3 j qs (by simpa using hq) i
    rw[show(acc++ [rb acc ps]).length+j=acc.length+(j+1)by simp;omega]at this
    exact this
theorem nP: ∀(jL:List (List Nat)) (i0:Nat),np i0 jL=true→ ∀j ps,jL[j]? =some ps→ ∀p∈ps,p<i0+j
 | [],i0,h,j,ps,hj,p,hp=>by simp at hj
 |q::jL,i0,h,j,ps,hj,p,hp=>by
  simp only[np,Bool.and_eq_true,List.all_eq_true]at h
  cases j with
  |zero=>simp at hj;subst hj;simpa using h.1 p hp
  |succ j=>
   have:=nP jL (i0+1) h.2 j ps (by simpa using hj) p hp
   omega
theorem rF{m:Nat}{as:List aJ}{k:Nat}{a:aJ}:(k,a)∈re m as↔as[k]? =some a∧m.testBit k=false:=by
 unfold re
 rw[List.mem_filter,List.mem_map]
 constructor
 ·rintro⟨⟨p,hp,e⟩,h2⟩
  simp at e;obtain⟨rfl,rfl⟩:=e
  rw[List.mem_zipIdx_iff_getElem?]at hp
  exact⟨hp,by simpa using h2⟩
 ·rintro⟨h1,h2⟩
  exact⟨⟨(a,k),List.mem_zipIdx_iff_getElem?.2 h1,rfl⟩,by simpa using h2⟩
theorem nQ: ∀(rest before:List aJ) (ms:List Nat),nq ms before rest=true→ ∀j a,rest[j]? =some a→ ∀m,ms[j]? =some m→ ∀k a',k<before.length+j→(before++rest)[k]? =some a'→m.testBit k=false→dU a' a=true
 | [],before,ms,h,j,a,hj,m,hm,k,a',hk,ha,hb=>by simp at hj
 |r::rest,before,[],h,j,a,hj,m,hm,k,a',hk,ha,hb=>by simp at hm
 |r::rest,before,m0::ms,h,j,a,hj,m,hm,k,a',hk,ha,hb=>by
  simp only[nq,Bool.and_eq_true,List.all_eq_true]at h
  cases j with
  |zero=>
   simp at hj hm;subst hj;subst hm
   have:before[k]? =some a':=by rw[List.getElem?_append_left (by omega)]at ha;exact ha
   exact h.1 (k,a') (rF.2 ⟨this,hb⟩)
  |succ j=>
   exact nQ rest (before++ [r]) ms h.2 j a (by simpa using hj) m (by simpa using hm) k a' (by simp;omega) (by simpa using ha) hb
variable{E:Env}{call:jk}{n:Nat}
theorem rG: ∀(rest before:List aJ) (ms:List Nat) (bo:List FP) (st Rc:St),bo.length=before.length→ms.length=rest.length→aH E call n (jV ms before rest) bo st=some Rc→
  ∃(pre:Nat→St) (fp:Nat→FP),pre 0=st∧pre rest.length=Rc∧ ∀j a m,rest[j]? =some a→ms[j]? =some m→bg E call n a (pre j)=some (pre (j+1))∧bD E call a (pre j)=some (fp j)∧
   ∀k a',k<before.length+j→(before++rest)[k]? =some a'→m.testBit k=false→quiet a.op=false→quiet a'.op=false→apart (if k<before.length then aV ⟨true,[],[]⟩ bo k else fp (k-before.length)) (fp j)=true
 | [],before,ms,bo,st,Rc,hl,hm,h=>by
   cases ms with
   |cons _ _=>simp at hm
   |nil=>simp[jV,aH]at h;subst h;exact⟨fun _=>st,fun _=>cG,rfl,rfl,by simp⟩
 |r::rest,before,[],bo,st,Rc,hl,hm,h=>by simp at hm
 |r::rest,before,m0::ms,bo,st,Rc,hl,hm,h=>by
  simp only[jV,aH]at h
  cases hf:bD E call r st with
  |none=>simp[hf]at h
  |some fp0=>
   simp only[hf]at h
   generalize hu:(if quiet r.op=true then []else((re m0 before).filter fun p=> !quiet p.2.op).map (·.1))=uno at h
   split at h
   ·rename_i aU
    cases he:bg E call n r st with
    |none=>simp[he]at h
    |some dF=>
     simp only[he]at h
     obtain⟨pre,fp,p1,p2,p3⟩:=rG rest (before++ [r]) ms (bo++ [fp0]) dF Rc (by simp[hl]) (by simpa using hm) h
     refine⟨fun j=>match j with|0=>st|j+1=>pre j,fun j=>match j with|0=>fp0|j+1=>fp j,rfl,p2,fun j a m hj Jp=> ?_⟩
     cases j with
     |zero=>
      simp at hj Jp;subst hj;subst Jp
      refine⟨by simp only;rw[he,p1],hf,fun k a' hk ha hb oX wy=> ?_⟩
      have hkb:k<before.length:=by omega
      rw[if_pos hkb]
      have Ny:before[k]? =some a':=by rw[List.getElem?_append_left hkb]at ha;exact ha
      rw[List.all_eq_true]at aU
      refine aU k ?_
      rw[←hu,if_neg (by rw[oX];simp)]
      exact List.mem_map.2 ⟨(k,a'),List.mem_filter.2 ⟨rF.2 ⟨Ny,hb⟩,by simp[wy]⟩,rfl⟩
     |succ j=>
      obtain⟨e1,e2,e3⟩:=p3 j a m (by simpa using hj) (by simpa using Jp)
      refine⟨e1,e2,fun k a' hk ha hb oX wy=> ?_⟩
      have:=e3 k a' (by simp;omega) (by simpa using ha) hb oX wy
      by_cases h1:k<before.length
      ·rw[if_pos h1]
       rw[if_pos (by simp;omega),gU _ _ _ _ (by omega)]at this
       exact this
      ·rw[if_neg h1]
       by_cases h2:k=before.length
       ·subst h2
        rw[if_pos (by simp),←hl,oW]at this
        simpa using this
       ·rw[if_neg (by simp;omega)]at this
        obtain⟨x,hx⟩: ∃x,k-before.length=x+1:=⟨k-before.length-1,by omega⟩
        rw[hx]
        simp only
        have hx2:k-(before++ [r]).length=x:=by simp;omega
        rw[hx2]at this
        exact this
   ·cases h
theorem xo{a:aJ}{p:St}{fp:FP}(hq:quiet a.op=true)(h:bD E call a p=some fp):fp.all=false∧fp.r= []∧fp.w= []:=by
 obtain⟨q1,q2,q3,q4⟩:=FJ (ρ:=p.rho) hq (a.d.getD 0) p.get p.sh.length
 have core:(match bq p.rho a.op with
       |some (some c)=>dy E call (a.d.getD 0) p c.1 c.2
       |some none=>none
       |none=>
        let q:=bC (a.d.getD 0) p.rho a.op
        match q.run p.get p.sh.length with
        |some (.val _ ups)=>if q.asks p.get p.sh.length||lV p ups then some (⟨q.asks p.get p.sh.length,q.log p.get p.sh.length,cH ups⟩:FP)else none
        |none=>none)=some fp→fp.all=false∧fp.r= []∧fp.w= []:=by
  intro hh
  rw[q1]at hh
  simp only at hh
  split at hh
  ·rename_i v ups hr
   have:=q4 v ups hr;subst this
   split at hh
   ·simp at hh;subst hh;exact⟨q3,q2,rfl⟩
   ·cases hh
  ·cases hh
 unfold bD at h
 cases hg:a.gd with
 |none=>simp only[hg]at h;exact core h
 |some g=>
  simp only[hg]at h
  split at h
  ·split at h
   ·exact core h
   ·simp at h;subst h;exact⟨rfl,rfl,rfl⟩
  ·simp at h;subst h;exact⟨rfl,rfl,rfl⟩
theorem FL: ∀(a b:List aA),(∀k,ch a k=ch b k)→a.length=b.length→a=b
 | [],[],_,_=>rfl
 | [],y::ys,_,h=>by simp at h
 |x::xs,[],_,h=>by simp at h
 |x::xs,y::ys,h,hl=>by
  have h0:x=y:=h 0
  rw[h0,FL xs ys (fun k=>h (k+1)) (by simpa using hl)]
end Go.Ev
namespace Go.Ev
open Go
variable{E:Env}{call:jk}{n:Nat}
structure gJ (E:Env) (call:jk) (n:Nat) (as:List aJ) (jL:List (List Nat)) (bit:Nat→Nat→Bool) (pre:Nat→St) (fp:Nat→FP):Prop where
 len:jL.length=as.length
 edges: ∀(j:Nat) (ps:List Nat),jL[j]? =some ps→ ∀p∈ps,p<j
 bits: ∀(j:Nat) (ps:List Nat),jL[j]? =some ps→ ∀i,bit j i=true↔ ∃p∈ps,p=i∨bit p i=true
 run: ∀(j:Nat) (a:aJ),as[j]? =some a→bg E call n a (pre j)=some (pre (j+1))∧bD E call a (pre j)=some (fp j)
 slots: ∀(j:Nat) (a:aJ) (k:Nat) (a':aJ),as[j]? =some a→as[k]? =some a'→k<j→bit j k=false→dU a' a=true
 apart: ∀(j:Nat) (a:aJ) (k:Nat) (a':aJ),as[j]? =some a→as[k]? =some a'→k<j→bit j k=false→quiet a.op=false→quiet a'.op=false→Ev.apart (fp k) (fp j)=true
variable{as:List aJ}{jL:List (List Nat)}{bit:Nat→Nat→Bool}{pre:Nat→St}{fp:Nat→FP}
def rH(jL:List (List Nat))(L:Nat→Prop):Prop:= ∀(j:Nat) (ps:List Nat),jL[j]? =some ps→L j→ ∀p∈ps,L p
theorem pT(R:gJ E call n as jL bit pre fp){L:Nat→Prop}(hc:rH jL L): ∀(j:Nat) (ps:List Nat),jL[j]? =some ps→(∀p∈ps,L p)→ ∀i,bit j i=true→L i:=by
 intro j
 induction j using Nat.strongRecOn with
 |_ j ih=>
  intro ps hj hp i hb
  obtain⟨p,h1,h2⟩:=(R.bits j ps hj i).1 hb
  rcases h2 with rfl|h2
  ·exact hp p h1
  ·have dG:=R.edges j ps hj p h1
   have S9:p<jL.length:=Nat.lt_trans dG (List.getElem?_eq_some_iff.1 hj).1
   have xp:jL[p]? =some jL[p]:=List.getElem?_eq_getElem S9
   exact ih p dG _ xp (hc p _ xp (hp p h1)) i h2
theorem jy(R:gJ E call n as jL bit pre fp){L:Nat→Prop}(hc:rH jL L){i j:Nat}(hi:i<as.length)(hj:j<as.length)(Pm: ¬L i)(Re: ∀ps,jL[i]? =some ps→ ∀p∈ps,L p)(ho:i=j∨(j<i∧bit i j=true)∨(i<j∧bit j i=true)):L j↔j<i:=by
 rcases ho with rfl|⟨h1,h2⟩|⟨h1,h2⟩
 ·exact⟨fun h=>absurd h Pm,fun h=>absurd h (Nat.lt_irrefl _)⟩
 ·refine⟨fun _=>h1,fun _=> ?_⟩
  have lf:i<jL.length:=by rw[R.len];exact hi
  have xp:jL[i]? =some jL[i]:=List.getElem?_eq_getElem lf
  exact pT R hc i _ xp (Re _ xp) j h2
 ·refine⟨fun hL=>absurd ?_ Pm,fun h=>by omega⟩
  have pU:j<jL.length:=by rw[R.len];exact hj
  have xp:jL[j]? =some jL[j]:=List.getElem?_eq_getElem pU
  exact pT R hc j _ xp (hc j _ xp hL) i h2
structure Inv (as:List aJ) (pre:Nat→St) (fp:Nat→FP) (L:Nat→Prop) (s:St):Prop where
 slot: ∀t i,i≤as.length→(∀(j:Nat) (a:aJ),as[j]? =some a→a.d=some t→(L j↔j<i))→an s.fr t=an (pre i).fr t
 key: ∀sp k i,i≤as.length→(∀j,j<as.length→wrote (fp j) sp k→(L j↔j<i))→s.get sp k=(pre i).get sp k
 len: ∀i,i≤as.length→(∀j,j<as.length→(fp j).all=true→(L j↔j<i))→s.sh.length=(pre i).sh.length
theorem rI(R:gJ E call n as jL bit pre fp){j:Nat}{a:aJ}(hj:as[j]? =some a):Jn a (fp j) (pre j) (pre (j+1)) (pre (j+1)):=by
 obtain⟨h1,h2⟩:=R.run j a hj
 obtain⟨s',e1,e2⟩:=xl (s:=pre j) h1 h2 (fun _ _=>rfl) (fun _ _ _=>rfl) (fun _=>rfl)
 rw[h1]at e1;simp at e1;subst e1
 exact e2
theorem xq(R:gJ E call n as jL bit pre fp)(t i:Nat): ∀i',i≤i'→i'≤as.length→(∀(j:Nat) (a:aJ),as[j]? =some a→i≤j→j<i'→a.d≠some t)→an (pre i').fr t=an (pre i).fr t:=by
 intro i' h1
 induction i' with
 |zero=>intro _ _;have:i=0:=by omega
        subst this;rfl
 |succ m ih=>
  intro h2 h3
  by_cases he:i=m+1
  ·subst he;rfl
  ·have Bo:m<as.length:=by omega
   have ha:as[m]? =some as[m]:=List.getElem?_eq_getElem Bo
   have hl:=(rI R ha).slot t
   rw[if_neg (h3 m _ ha (by omega) (by omega))]at hl
   rw[hl];exact ih (by omega) (by omega) (fun j a b c d=>h3 j a b c (by omega))
theorem Bp(R:gJ E call n as jL bit pre fp)(sp:Sp)(k i:Nat): ∀i',i≤i'→i'≤as.length→(∀j,i≤j→j<i'→ ¬wrote (fp j) sp k)→(pre i').get sp k=(pre i).get sp k:=by
 intro i' h1
 induction i' with
 |zero=>intro _ _;have:i=0:=by omega
        subst this;rfl
 |succ m ih=>
  intro h2 h3
  by_cases he:i=m+1
  ·subst he;rfl
  ·have Bo:m<as.length:=by omega
   have ha:as[m]? =some as[m]:=List.getElem?_eq_getElem Bo
   have hl:=((rI R ha).key sp k).2 (h3 m (by omega) (by omega))
   rw[hl];exact ih (by omega) (by omega) (fun j a b=>h3 j a (by omega))
theorem Bq(R:gJ E call n as jL bit pre fp)(i:Nat): ∀i',i≤i'→i'≤as.length→(∀j,i≤j→j<i'→(fp j).all=false)→(pre i').sh.length=(pre i).sh.length:=by
 intro i' h1
 induction i' with
 |zero=>intro _ _;have:i=0:=by omega
        subst this;rfl
 |succ m ih=>
  intro h2 h3
  by_cases he:i=m+1
  ·subst he;rfl
  ·have Bo:m<as.length:=by omega
   have ha:as[m]? =some as[m]:=List.getElem?_eq_getElem Bo
   have hl:=(rI R ha).len.2 (h3 m (by omega) (by omega))
   rw[hl];exact ih (by omega) (by omega) (fun j a b=>h3 j a (by omega))
theorem either(R:gJ E call n as jL bit pre fp){i j:Nat}{a a':aJ}(hi:as[i]? =some a)(hj:as[j]? =some a')(dr:i≠j):
  ((j<i∧bit i j=true)∨(i<j∧bit j i=true))∨((dU a a'=true∨dU a' a=true)∧(quiet a.op=true∨quiet a'.op=true∨Ev.apart (fp i) (fp j)=true∨Ev.apart (fp j) (fp i)=true)):=by
 rcases Nat.lt_or_gt_of_ne dr with h|h
 ·cases hb:bit j i with
  |true=>exact .inl (.inr ⟨h,rfl⟩)
  |false=>
   refine .inr ⟨.inl (R.slots j a' i a hj hi h hb), ?_⟩
   cases h1:quiet a.op
   ·cases h2:quiet a'.op
    ·exact .inr (.inr (.inl (R.apart j a' i a hj hi h hb h2 h1)))
    ·exact .inr (.inl rfl)
   ·exact .inl rfl
 ·cases hb:bit i j with
  |true=>exact .inl (.inl ⟨h,rfl⟩)
  |false=>
   refine .inr ⟨.inr (R.slots i a j a' hi hj h hb), ?_⟩
   cases h1:quiet a.op
   ·cases h2:quiet a'.op
    ·exact .inr (.inr (.inr (R.apart i a j a' hi hj h hb h1 h2)))
    ·exact .inr (.inl rfl)
   ·exact .inl rfl
theorem tc{x y:aJ}(h:dU x y=true∨dU y x=true){t:Nat}:(x.d=some t→t∉looks y∧y.d≠some t):=by
 intro hx
 rcases h with h|h
 ·unfold dU at h
  rw[hx]at h
  simp at h
  exact⟨h.1.1,fun e=>h.1.2 e⟩
 ·unfold dU at h
  rw[hx]at h
  simp at h
  refine⟨h.2,fun e=> ?_⟩
  rw[e]at h
  simp at h
theorem l4{xs ys:List (Sp×Nat)}(h:eY xs ys=true){κ:Sp×Nat}(h1:κ∈xs)(h2:κ∈ys):False:=by
 unfold eY at h
 rw[List.all_eq_true]at h
 have:=h κ h1
 simp at this
 exact this h2
theorem oY{xs:List (Sp×Nat)}(h:zh xs=true){k:Nat}(h1:(Sp.S,k)∈xs):False:=by
 unfold zh at h
 rw[List.all_eq_true]at h
 have:=h _ h1
 simp at this
theorem FM{x y:FP}(h:Ev.apart x y=true∨Ev.apart y x=true){sp:Sp}{k:Nat}(hw:wrote y sp k):(sp,k)∉x.r∧(sp,k)∉x.w∧ ¬(x.all=true∧sp= .S):=by
 rcases h with h|h <;> unfold Ev.apart at h <;> simp only[Bool.and_eq_true,Bool.or_eq_true,Bool.not_eq_true']at h <;> obtain⟨⟨⟨⟨a1,a2⟩,a3⟩,a4⟩,a5⟩:=h
 ·rcases hw with hw|⟨hw,rfl⟩
  ·refine⟨fun e=>l4 a3 e hw,fun e=>l4 a2 e hw,fun e=> ?_⟩
   obtain⟨e1,rfl⟩:=e
   rcases a4 with a4|a4
   ·rw[e1]at a4;cases a4
   ·exact oY a4.2 hw
  ·rcases a5 with a5|a5
   ·rw[hw]at a5;cases a5
   ·refine⟨fun e=>oY a5.1 e,fun e=>oY a5.2 e,fun e=> ?_⟩
    rcases a4 with a4|a4
    ·rw[e.1]at a4;cases a4
    ·rw[hw]at a4;simp at a4
 ·rcases hw with hw|⟨hw,rfl⟩
  ·refine⟨fun e=>l4 a1 hw e,fun e=>l4 a2 hw e,fun e=> ?_⟩
   obtain⟨e1,rfl⟩:=e
   rcases a5 with a5|a5
   ·rw[e1]at a5;cases a5
   ·exact oY a5.2 hw
  ·rcases a4 with a4|a4
   ·rw[hw]at a4;cases a4
   ·refine⟨fun e=>oY a4.1.2 e,fun e=>oY a4.2 e,fun e=> ?_⟩
    rw[e.1]at a4;simp at a4
theorem FN(R:gJ E call n as jL bit pre fp){L:Nat→Prop}(hc:rH jL L){s:St}(I:Inv as pre fp L s){i:Nat}{a:aJ}(hi:as[i]? =some a)(Pm: ¬L i)(Re: ∀ps,jL[i]? =some ps→ ∀p∈ps,L p):
  ∃s',bg E call n a s=some s'∧Inv as pre fp (fun j=>L j∨j=i) s':=by
 have lf:i<as.length:=(List.getElem?_eq_some_iff.1 hi).1
 obtain⟨r1,r2⟩:=R.run i a hi
 have Br: ∀t,(t∈looks a∨a.d=some t)→ ∀(j:Nat) (a':aJ),as[j]? =some a'→a'.d=some t→(L j↔j<i):=by
  intro t ht j a' hj hd
  have pU:=(List.getElem?_eq_some_iff.1 hj).1
  by_cases Tw:i=j
  ·subst Tw;exact jy R hc lf pU Pm Re (.inl rfl)
  ·rcases either R hi hj Tw with h|⟨h,_⟩
   ·exact jy R hc lf pU Pm Re (.inr h)
   ·exfalso
    have:=tc (Or.symm h) hd
    rcases ht with ht|ht
    ·exact this.1 ht
    ·exact this.2 ht
 have u7: ∀sp k,((sp,k)∈(fp i).r∨(sp,k)∈(fp i).w∨((fp i).all=true∧sp= .S))→ ∀j,j<as.length→wrote (fp j) sp k→(L j↔j<i):=by
  intro sp k ht j pU hw
  have hj:as[j]? =some as[j]:=List.getElem?_eq_getElem pU
  by_cases Tw:i=j
  ·subst Tw;exact jy R hc lf pU Pm Re (.inl rfl)
  ·rcases either R hi hj Tw with h|⟨_,h⟩
   ·exact jy R hc lf pU Pm Re (.inr h)
   ·exfalso
    rcases h with h|h|h
    ·obtain⟨q1,q2,q3⟩:=xo h r2
     rcases ht with ht|ht|ht
     ·rw[q2]at ht;simp at ht
     ·rw[q3]at ht;simp at ht
     ·rw[q1]at ht;cases ht.1
    ·obtain⟨q1,q2,q3⟩:=xo h (R.run j _ hj).2
     rcases hw with hw|hw
     ·rw[q3]at hw;simp at hw
     ·rw[q1]at hw;cases hw.1
    ·obtain⟨z1,z2,z3⟩:=FM h hw
     rcases ht with ht|ht|ht
     ·exact z1 ht
     ·exact z2 ht
     ·exact z3 ht
 have FO:(fp i).all=true→ ∀j,j<as.length→(fp j).all=true→(L j↔j<i):=by
  intro ha j pU Nz
  exact u7 .S 0 (.inr (.inr ⟨ha,rfl⟩)) j pU (.inr ⟨Nz,rfl⟩)
 obtain⟨s',e1,e2⟩:=xl (s:=s) r1 r2 (fun t ht=>I.slot t i (Nat.le_of_lt lf) (fun j a' hj hd=>Br t (.inl ht) j a' hj hd))
  (fun sp k ht=>I.key sp k i (Nat.le_of_lt lf) (fun j pU hw=>u7 sp k (ht.elim .inl fun h=> .inr (.inl h)) j pU hw))
  (fun ha=>FL _ _ (fun k=>I.key .S k i (Nat.le_of_lt lf) (fun j pU hw=>u7 .S k (.inr (.inr ⟨ha,rfl⟩)) j pU hw)) (I.len i (Nat.le_of_lt lf) (FO ha)))
 refine⟨s',e1,fun t i' sX hh=> ?_,fun sp k i' sX hh=> ?_,fun i' sX hh=> ?_⟩
 ·rw[e2.slot t]
  split
  ·rename_i hd
   have Tx:i<i':=(hh i a hi hd).1 (.inr rfl)
   rw[xq R t (i+1) i' Tx sX]
   intro j a' hj h1 h2 Ty
   have hL:=(hh j a' hj Ty).2 h2
   have:=Br t (.inr hd) j a' hj Ty
   rcases hL with hL|hL
   ·have:=this.1 hL;omega
   ·omega
  ·rename_i hd
   exact I.slot t i' sX (fun j a' hj Ty=>by
    have:=hh j a' hj Ty
    constructor
    ·exact fun hL=>this.1 (.inl hL)
    ·intro dG
     rcases this.2 dG with hL|hL
     ·exact hL
     ·subst hL;rw[hi]at hj;simp at hj;subst hj;exact absurd Ty hd)
 ·by_cases hw:wrote (fp i) sp k
  ·have Tx:i<i':=(hh i lf hw).1 (.inr rfl)
   rw[(e2.key sp k).1 hw,Bp R sp k (i+1) i' Tx sX]
   intro j h1 h2 FQ
   have pU:j<as.length:=by omega
   have hL:=(hh j pU FQ).2 h2
   have:=u7 sp k (hw.elim (fun e=> .inr (.inl e)) fun e=> .inr (.inr e)) j pU FQ
   rcases hL with hL|hL
   ·have:=this.1 hL;omega
   ·omega
  ·rw[(e2.key sp k).2 hw]
   exact I.key sp k i' sX (fun j pU FQ=>by
    have:=hh j pU FQ
    constructor
    ·exact fun hL=>this.1 (.inl hL)
    ·intro dG
     rcases this.2 dG with hL|hL
     ·exact hL
     ·subst hL;exact absurd FQ hw)
 ·cases ha:(fp i).all with
  |true=>
   have Tx:i<i':=(hh i lf ha).1 (.inr rfl)
   rw[e2.len.1 ha,Bq R (i+1) i' Tx sX]
   intro j h1 h2
   cases Nz:(fp j).all with
   |false=>rfl
   |true=>
    have pU:j<as.length:=by omega
    have hL:=(hh j pU Nz).2 h2
    have:=FO ha j pU Nz
    rcases hL with hL|hL
    ·have:=this.1 hL;omega
    ·omega
  |false=>
   rw[e2.len.2 ha]
   exact I.len i' sX (fun j pU Nz=>by
    have:=hh j pU Nz
    constructor
    ·exact fun hL=>this.1 (.inl hL)
    ·intro dG
     rcases this.2 dG with hL|hL
     ·exact hL
     ·subst hL;rw[ha]at Nz;cases Nz)
end Go.Ev
namespace Go.Ev
open Go
section
variable{P:Program}{E:Env}{call:jk}{n:Nat}{hs:List Nat}{ops:Array Oper}
theorem jM: ∀{os:List Oper} {as:List aJ},dK P hs ops os=some as→as.length=os.length∧ ∀(j:Nat) (o:Oper),os[j]? =some o→ ∃a,as[j]? =some a∧nn P hs ops o=some a
 | [],as,h=>by simp[dK]at h;subst h;simp
 |o::os,as,h=>by
  simp only[dK]at h
  split at h
  ·rename_i a as' h1 h2
   simp at h;subst h
   obtain⟨e1,e2⟩:=jM h2
   refine⟨by simp[e1],fun j o' hj=> ?_⟩
   cases j with
   |zero=>simp at hj;subst hj;exact⟨a,rfl,h1⟩
   |succ j=>obtain⟨x,y1,y2⟩:=e2 j o' (by simpa using hj);exact⟨x,by simpa using y1,y2⟩
  ·cases h
theorem FR(hE:lA P E)(hO:pS P E call){Q:Exit→Act→World→Prop}: ∀(k i:Nat) (as:List aJ),i+k=ops.size→dK P hs ops (ops.toList.drop i)=some as→
  ∀{B:dP} {st bn:St} {a:Act} {w:World} {β:aS} {M:aI},bf B st w β M→jI st a w β M n→aq E call n as st=some bn→
  (∀a' w' be M',bf B bn w' be M'→jI bn a' w' be M' n→Tr st w β M bn w' be M'→w.heap.size≤w'.heap.size→Q .normal a' w')→wpOps P ops Q (List.range' i k) a w
 |0,i,as,zp,hc,B,st,bn,a,w,β,M,h,hf,he,hq=>by
  have hd:ops.toList.drop i= []:=List.drop_eq_nil_of_le (by simp;omega)
  rw[hd]at hc
  simp[dK]at hc;subst hc
  simp[aq]at he;subst he
  simp only[List.range',wpOps]
  exact hq a w β M h hf (Tr.refl _ _ _ _) (Nat.le_refl _)
 |k+1,i,as,zp,hc,B,st,bn,a,w,β,M,h,hf,he,hq=>by
  have hi:i<ops.toList.length:=by simp;omega
  rw[List.drop_eq_getElem_cons hi]at hc
  simp only[dK]at hc
  split at hc
  ·rename_i ao as' h1 h2
   simp at hc;subst hc
   simp only[aq]at he
   split at he
   ·rename_i dF gG
    rw[List.range'_succ,wpOps_cons]
    refine Bl hE hO (o:=ops.toList[i]) (by simp at hi ⊢) h1 h hf gG ?_
    intro a' w' be M' r1 r2 r3 r4
    exact FR hE hO k (i+1) as' (by omega) h2 r1 r2 he (fun a2 w2 YK M2 s1 s2 s3 s4=>hq a2 w2 YK M2 s1 s2 (r3.trans s3 r4) (Nat.le_trans r4 s4))
   ·cases he
  ·cases hc
theorem Tz{B:dP}{s s':St}{w:World}{β:aS}{M:aI}(hg: ∀sp k,s'.get sp k=s.get sp k)(h:bf B s w β M):bf B s' w β M:=by
 have td:s'.gens=s.gens:=by funext sp k;show(s'.get sp k).g=_;rw[hg]
 refine⟨fun sp k=>by rw[hg,td];exact h.obj sp k,fun sp k cu k' l1 l2 e=> ?_,h.mlt,fun k hl=> ?_,fun k hl=> ?_,h.os,h.tape,h.output,h.size,h.same,h.keep,h.msup⟩
 ·rw[hg]at l1 l2;rw[td]at e;exact h.dist sp k cu k' l1 l2 e
 ·rw[hg]at hl;rw[td];exact h.lblk k hl
 ·rw[hg]at hl;rw[td];exact h.sblk k hl
theorem TA{s s':St}{a:Act}{w:World}{β:aS}{M:aI}(hg: ∀sp k,s'.get sp k=s.get sp k)(hf: ∀t,an s'.fr t=an s.fr t)(h:jI s a w β M n):jI s' a w β M n:=by
 have td:s'.gens=s.gens:=by funext sp k;show(s'.get sp k).g=_;rw[hg]
 exact⟨h.size,h.defers,fun t=>by rw[td,hf];exact h.slot t⟩
theorem Pn{st s s':St}{w w':World}{β be:aS}{M M':aI}(hg: ∀sp k,s'.get sp k=s.get sp k)(h:Tr st w β M s w' be M'):Tr st w β M s' w' be M':=by
 have td:s'.gens=s.gens:=by funext sp k;show(s'.get sp k).g=_;rw[hg]
 exact⟨h.keep,h.beta,by rw[td];exact h.gens⟩
theorem Po(hE:lA P E)(hO:pS P E call){Q:Exit→Act→World→Prop}{as:List aJ}{bit:Nat→Nat→Bool}{pre:Nat→St}{fp:Nat→FP}(hc:dK P hs ops ops.toList=some as)
  (R:gJ E call n as (ops.toList.map cY) bit pre fp) {B:dP} {st:St} {w:World} {β:aS} {M:aI}:
  ∀(fuel:Nat) (bM:Array Bool) (s:St) (a:Act) (w1:World) (u9:aS) (M1:aI),bM.size=ops.size→((List.range ops.size).filter fun i=> !bM.getD i true).length≤fuel→rH (ops.toList.map cY) (fun j=>bM.getD j false=true)→
   Inv as pre fp (fun j=>bM.getD j false=true) s→bf B s w1 u9 M1→jI s a w1 u9 M1 n→Tr st w β M s w1 u9 M1→w.heap.size≤w1.heap.size→
   (∀a' w' be M',bf B (pre as.length) w' be M'→jI (pre as.length) a' w' be M' n→Tr st w β M (pre as.length) w' be M'→w.heap.size≤w'.heap.size→Q .normal a' w')→
   wpAny P .any ops Q fuel bM a w1:=by
 obtain⟨hlen,TB⟩:=jM hc
 have nR:as.length=ops.size:=by simpa using hlen
 have done: ∀(bM:Array Bool) (s:St) (a:Act) (w1:World) (u9:aS) (M1:aI),bM.size=ops.size→rH (ops.toList.map cY) (fun j=>bM.getD j false=true)→Inv as pre fp (fun j=>bM.getD j false=true) s→bf B s w1 u9 M1→jI s a w1 u9 M1 n→Tr st w β M s w1 u9 M1→w.heap.size≤w1.heap.size→
   (∀a' w' be M',bf B (pre as.length) w' be M'→jI (pre as.length) a' w' be M' n→Tr st w β M (pre as.length) w' be M'→w.heap.size≤w'.heap.size→Q .normal a' w')→Region.ready .any ops bM= []→Q .normal a w1:=by
  intro bM s a w1 u9 M1 TC dq I h hf ht kW hq hr
  have all: ∀j,j<ops.size→bM.getD j false=true:=by
   intro j
   induction j using Nat.strongRecOn with
   |_ j ih=>
    intro hj
    cases hb:bM.getD j false with
    |true=>rfl
    |false=>
     exfalso
     have:j∈Region.ready .any ops bM:=by
      unfold Region.ready
      rw[List.mem_filter]
      refine⟨List.mem_range.2 hj, ?_⟩
      have h1:bM.getD j true=false:=by
       have pU:j<bM.size:=by omega
       simp[Array.getD_eq_getD_getElem?,Array.getElem?_eq_getElem pU]at hb ⊢; exact hb
      rw[h1]
      simp only[Bool.not_false,Bool.true_and]
      have ho:ops[j]? =some ops[j]:=Array.getElem?_eq_getElem hj
      rw[ho]
      simp only[Option.map_some,Option.getD_some]
      rw[←Array.all_toList,List.all_eq_true]
      intro e he
      cases ij:Region.binds .any e with
      |false=>rfl
      |true=>
       simp only[Bool.not_true,Bool.false_or]
       have YL:e.on∈cY ops[j]:=by
        unfold cY
        exact List.mem_map.2 ⟨e,List.mem_filter.2 ⟨he,ij⟩,rfl⟩
       have hpj:(ops.toList.map cY)[j]? =some (cY ops[j]):=by simp[ho]
       have dG:=R.edges j _ hpj e.on YL
       exact ih e.on dG (by omega)
     rw[hr]at this;simp at this
  have cond: ∀j,j<as.length→(bM.getD j false=true↔j<as.length):=fun j hj=>⟨fun _=>hj,fun _=>all j (by omega)⟩
  have g1: ∀sp k,(pre as.length).get sp k=s.get sp k:=fun sp k=>(I.key sp k as.length (Nat.le_refl _) (fun j hj _=>cond j hj)).symm
  have g2: ∀t,an (pre as.length).fr t=an s.fr t:=fun t=>(I.slot t as.length (Nat.le_refl _) (fun j a hj _=>cond j (List.getElem?_eq_some_iff.1 hj).1)).symm
  exact hq a w1 u9 M1 (Tz g1 h) (TA g1 g2 hf) (Pn g1 ht) kW
 intro fuel
 induction fuel with
 |zero=>
  intro bM s a w1 u9 M1 TC TD dq I h hf ht kW hq
  have hr:Region.ready .any ops bM= []:=by
   have h0:(List.range ops.size).filter (fun i=> !bM.getD i true)= []:=List.eq_nil_of_length_eq_zero (Nat.le_zero.1 TD)
   unfold Region.ready
   rw[List.filter_eq_nil_iff]at h0 ⊢
   intro x hx hh
   simp only[Bool.and_eq_true]at hh
   exact h0 x hx hh.1
  exact⟨hr,done bM s a w1 u9 M1 TC dq I h hf ht kW hq hr⟩
 |succ fuel ih=>
  intro bM s a w1 u9 M1 TC TD dq I h hf ht kW hq
  refine⟨done bM s a w1 u9 M1 TC dq I h hf ht kW hq,fun i hi=> ?_⟩
  unfold Region.ready at hi
  rw[List.mem_filter]at hi
  obtain⟨hir,Bs⟩:=hi
  have lf:i<ops.size:=List.mem_range.1 hir
  have ho:ops[i]? =some ops[i]:=Array.getElem?_eq_getElem lf
  rw[ho]at Bs
  simp only[Bool.and_eq_true,Bool.not_eq_true',Option.map_some,Option.getD_some]at Bs
  obtain⟨TE,hn2⟩:=Bs
  have Pp:i<bM.size:=by omega
  have m9: ¬(bM.getD i false=true):=by
   simp[Array.getD_eq_getD_getElem?,Array.getElem?_eq_getElem Pp]at TE ⊢; exact TE
  have TF: ∀ps,(ops.toList.map cY)[i]? =some ps→ ∀p∈ps,bM.getD p false=true:=by
   intro ps xp p hp
   simp[ho]at xp;subst xp
   unfold cY at hp
   obtain⟨e,he,rfl⟩:=List.mem_map.1 hp
   obtain⟨gG,yX⟩:=List.mem_filter.1 he
   rw[←Array.all_toList,List.all_eq_true]at hn2
   have:=hn2 e gG
   simpa[yX]using this
  obtain⟨ao,hao,vb⟩:=TB i ops[i] (by simp)
  obtain⟨s',he,I'⟩:=FN R dq I hao m9 TF
  refine Bl hE hO ho vb h hf he ?_
  intro a' w' be M' r1 r2 r3 r4
  have w9: ∀j,(bM.setIfInBounds i true).getD j false=true↔(bM.getD j false=true∨j=i):=by
   intro j
   simp only[Array.getD_eq_getD_getElem?,Array.getElem?_setIfInBounds]
   by_cases hj:i=j
   ·subst hj;simp[Pp]
   ·rw[if_neg hj]
    exact⟨.inl,fun e=>e.resolve_right (fun e=>hj e.symm)⟩
  refine ih (bM.setIfInBounds i true) s' a' w' be M' (by simp[TC]) ?_ ?_ ?_ r1 r2 (ht.trans r3 kW) (Nat.le_trans kW r4) hq
  ·have hfe:(List.range ops.size).filter (fun j=> !(bM.setIfInBounds i true).getD j true)=((List.range ops.size).filter (fun j=> !bM.getD j true)).filter (fun j=>decide (j≠i)):=by
    rw[List.filter_filter]
    apply List.filter_congr
    intro j hj
    simp only[Array.getD_eq_getD_getElem?,Array.getElem?_setIfInBounds]
    by_cases YM:i=j
    ·subst YM;simp[Pp]
    ·have: ¬j=i:=fun e=>YM e.symm
     rw[if_neg YM];simp[this]
   rw[hfe]
   have dG:(((List.range ops.size).filter (fun j=> !bM.getD j true)).filter (fun j=>decide (j≠i))).length<((List.range ops.size).filter (fun j=> !bM.getD j true)).length:=by
    rw[List.length_filter_lt_length_iff_exists]
    exact⟨i,List.mem_filter.2 ⟨hir,by rw[TE];rfl⟩,by simp⟩
   omega
  ·intro j ps xp hj p hp
   rw[w9]at hj ⊢
   rcases hj with hj|hj
   ·exact .inl (dq j ps xp hj p hp)
   ·subst hj;exact .inl (TF ps xp p hp)
  ·have:(fun j=>(bM.setIfInBounds i true).getD j false=true)=(fun j=>bM.getD j false=true∨j=i):=by funext j;exact propext (w9 j)
   rw[this];exact I'
end
end Go.Ev
namespace Go.Ev
open Go
def Pq:Out→Exit
 | .nrm=> .normal
 | .ext id=> .exit id
 | .ret=> .ret
section
variable{P:Program}{E:Env}{call:jk}{n:Nat}{hs:List Nat}
theorem FT{l:List Nat}{j:Nat}(h:j<l.length):l[j]? =some (aV 0 l j):=by
 induction l generalizing j with
 |nil=>simp at h
 |cons x xs ih=>
  cases j with
  |zero=>rfl
  |succ j=>simp only[aV];simpa using ih (by simpa using h)
theorem FU(hE:lA P E)(hO:pS P E call)(hm:P.follows .mixedOrders=true){id:Nat}{ops:Array Oper}{as:List aJ}(hc:dK P hs ops ops.toList=some as)(gG:np 0 (ops.toList.map cY)=true)(yX:nq (iQ (ops.toList.map cY) []) [] as=true)
  {B:dP} {st bn:St} {a:Act} {w:World} {β:aS} {M:aI} (h:bf B st w β M) (hf:jI st a w β M n) (Pr:aH E call n (jV (iQ (ops.toList.map cY) []) [] as) [] st=some bn) {Q:Exit→Act→World→Prop}
  (hq: ∀a' w' be M',bf B bn w' be M'→jI bn a' w' be M' n→Tr st w β M bn w' be M'→w.heap.size≤w'.heap.size→Q .normal a' w'):(Code.region id ops true).wp P Q a w:=by
 obtain⟨hlen,TB⟩:=jM hc
 obtain⟨m1,m2,m3⟩:=rE (ops.toList.map cY) []
 have Bo:(iQ (ops.toList.map cY) []).length=as.length:=by rw[m1,hlen];simp
 obtain⟨pre,fp,p1,p2,p3⟩:=rG as [] _ [] st bn rfl Bo Pr
 have YN: ∀j,j<as.length→(iQ (ops.toList.map cY) [])[j]? =some (aV 0 (iQ (ops.toList.map cY) []) j):=fun j hj=>FT (by rw[Bo];exact hj)
 have YO:=nP _ 0 gG
 have R:gJ E call n as (ops.toList.map cY) (fun j i=>(aV 0 (iQ (ops.toList.map cY) []) j).testBit i) pre fp:=by
  refine⟨by rw[hlen];simp,fun j ps hj p hp=>by have:=YO j ps hj p hp;omega,fun j ps hj i=> ?_,fun j a' hj=> ?_,fun j a1 k a2 hj hk dG hb=> ?_,fun j a1 k a2 hj hk dG hb oX wy=> ?_⟩
  ·have:=m3 j ps hj i
   simp only[List.length_nil,Nat.zero_add]at this
   rw[this]
   constructor
   ·rintro⟨p,hp,e⟩
    refine⟨p,hp,e.imp (fun x=>x) fun e=> ?_⟩
    rw[if_pos (by have:=YO j ps hj p hp;omega)]at e;exact e
   ·rintro⟨p,hp,e⟩
    refine⟨p,hp,e.imp (fun x=>x) fun e=> ?_⟩
    rw[if_pos (by have:=YO j ps hj p hp;omega)];exact e
  ·obtain⟨e1,e2,_⟩:=p3 j a' _ hj (YN j (List.getElem?_eq_some_iff.1 hj).1)
   exact⟨e1,e2⟩
  ·exact nQ as [] _ yX j a1 hj _ (YN j (List.getElem?_eq_some_iff.1 hj).1) k a2 (by simpa using dG) (by simpa using hk) hb
  ·obtain⟨_,_,e3⟩:=p3 j a1 _ hj (YN j (List.getElem?_eq_some_iff.1 hj).1)
   have:=e3 k a2 (by simpa using dG) (by simpa using hk) hb oX wy
   simpa using this
 obtain⟨d1,d2⟩:=A5 h (w.drawn+1)
 refine wp_region_any hm ?_
 have TG: ∀j,((Array.replicate ops.size false).getD j false=true)↔False:=by
  intro j
  simp only[Array.getD_eq_getD_getElem?,Array.getElem?_replicate]
  split <;> simp
 have hI:Inv as pre fp (fun j=>(Array.replicate ops.size false).getD j false=true) st:=by
  have YP:(fun j=>(Array.replicate ops.size false).getD j false=true)=fun _=>False:=by funext j;exact propext (TG j)
  rw[YP]
  refine⟨fun t i hi hh=> ?_,fun sp k i hi hh=> ?_,fun i hi hh=> ?_⟩
  ·rw[xq R t 0 i (Nat.zero_le _) hi (fun j a' hj _ dG hd=>(hh j a' hj hd).2 dG),p1]
  ·rw[Bp R sp k 0 i (Nat.zero_le _) hi (fun j _ dG hw=>(hh j (by omega) hw).2 dG),p1]
  ·rw[Bq R 0 i (Nat.zero_le _) hi (fun j _ dG=>by
    cases gH:(fp j).all with
    |false=>rfl
    |true=>exact((hh j (by omega) gH).2 dG).elim),p1]
 refine Po (st:=st) (w:=w) (β:=β) (M:=M) hE hO hc R ops.size _ st a _ β M (by simp) ?_ ?_ hI d1 ⟨hf.size,hf.defers,fun t=>d2.val (hf.slot t)⟩ d2 (Nat.le_refl _) ?_
 ·exact Nat.le_trans (List.length_filter_le _ _) (by simp)
 ·intro j ps _ hj
  exact((TG j).1 hj).elim
 ·intro a' w' be M' r1 r2 r3 r4
  rw[p2]at r1 r2 r3
  exact hq a' w' be M' r1 r2 r3 r4
theorem Ps(hE:lA P E)(hO:pS P E call)(hm:P.follows .mixedOrders=true)(fl:Nat): ∀(c:Code) (ac:ba),eU P hs c=some ac→
  ∀{B:dP} {st bn:St} {a:Act} {w:World} {β:aS} {M:aI} {o:Out},bf B st w β M→jI st a w β M n→eZ E call fl n ac st=some (o,bn)→ ∀{Q:Exit→Act→World→Prop},
  (∀a' w' be M',bf B bn w' be M'→jI bn a' w' be M' n→Tr st w β M bn w' be M'→w.heap.size≤w'.heap.size→Q (Pq o) a' w')→c.wp P Q a w:=by
 intro c
 induction c with
 |skip=>
  intro ac hc B st bn a w β M o h hf he Q hq
  simp[eU]at hc;subst hc
  simp[eZ]at he;obtain⟨rfl,rfl⟩:=he
  exact wp_skip (hq a w β M h hf (Tr.refl _ _ _ _) (Nat.le_refl _))
 |region id ops draw=>
  intro ac hc B st bn a w β M o h hf he Q hq
  cases draw with
  |false=>
   simp only[eU,Option.map_eq_some_iff]at hc
   obtain⟨as,h1,rfl⟩:=hc
   simp only[eZ,Option.map_eq_some_iff]at he
   obtain⟨dF,h2,h3⟩:=he
   simp at h3;obtain⟨rfl,rfl⟩:=h3
   refine wp_region ?_
   rw[List.range_eq_range']
   exact FR hE hO ops.size 0 as (by omega) (by simpa using h1) h hf h2 hq
  |true=>
   simp only[eU]at hc
   split at hc
   ·rename_i as h1
    split at hc
    ·rename_i kg
     simp only[Bool.and_eq_true]at kg
     simp at hc;subst hc
     simp only[eZ,Option.map_eq_some_iff]at he
     obtain⟨dF,h2,h3⟩:=he
     simp at h3;obtain⟨rfl,rfl⟩:=h3
     exact FU hE hO hm h1 kg.1 kg.2 h hf h2 hq
    ·cases hc
   ·cases hc
 |seq x y Pt Pu=>
  intro ac hc B st bn a w β M o h hf he Q hq
  simp only[eU]at hc
  split at hc
  ·rename_i ax ay h1 h2
   simp at hc;subst hc
   simp only[eZ]at he
   refine wp_seq ?_
   cases hx:eZ E call fl n ax st with
   |none=>simp[hx]at he
   |some p=>
    obtain⟨ox,dF⟩:=p
    cases ox with
    |nrm=>
     simp only[hx]at he
     refine Pt ax h1 h hf hx ?_
     intro a' w' be M' r1 r2 r3 r4
     exact Pu ay h2 r1 r2 he (fun a2 w2 YK M2 s1 s2 s3 s4=>hq a2 w2 YK M2 s1 s2 (r3.trans s3 r4) (Nat.le_trans r4 s4))
    |ext id=>
     simp[hx]at he;obtain⟨rfl,rfl⟩:=he
     exact Pt ax h1 h hf hx hq
    |ret=>
     simp[hx]at he;obtain⟨rfl,rfl⟩:=he
     exact Pt ax h1 h hf hx hq
  ·cases hc
 |cond c x y Pt Pu=>
  intro ac hc B st bn a w β M o h hf he Q hq
  simp only[eU]at hc
  split at hc
  ·rename_i c' ax ay h0 h1 h2
   simp at hc;subst hc
   simp only[eZ]at he
   have vc:=Fq hf c c' h0
   split at he
   ·rename_i e
    rw[e]at vc
    exact wp_cond_true vc.bool (Pt ax h1 h hf he hq)
   ·rename_i e
    rw[e]at vc
    exact wp_cond_false vc.bool (Pu ay h2 h hf he hq)
   ·cases he
  ·cases hc
 |block id x ih=>
  intro ac hc B st bn a w β M o h hf he Q hq
  simp only[eU,Option.map_eq_some_iff]at hc
  obtain⟨ax,h1,rfl⟩:=hc
  simp only[eZ]at he
  refine wp_block ?_
  cases hx:eZ E call fl n ax st with
  |none=>simp[hx]at he
  |some p=>
   obtain⟨ox,dF⟩:=p
   cases ox with
   |nrm=>simp[hx]at he;obtain⟨rfl,rfl⟩:=he;exact ih ax h1 h hf hx hq
   |ret=>simp[hx]at he;obtain⟨rfl,rfl⟩:=he;exact ih ax h1 h hf hx hq
   |ext A4=>
    simp only[hx]at he
    by_cases V1:A4=id
    ·simp only[V1,if_true,Option.some.injEq,Prod.mk.injEq]at he
     obtain⟨rfl,rfl⟩:=he
     refine ih ax h1 h hf hx ?_
     intro a' w' be M' r1 r2 r3 r4
     show Exit.inBlock id Q (.exit A4) a' w'
     simp only[Exit.inBlock,V1,if_true]
     exact hq a' w' be M' r1 r2 r3 r4
    ·simp only[V1,if_false,Option.some.injEq,Prod.mk.injEq]at he
     obtain⟨rfl,rfl⟩:=he
     refine ih ax h1 h hf hx ?_
     intro a' w' be M' r1 r2 r3 r4
     show Exit.inBlock id Q (.exit A4) a' w'
     simp only[Exit.inBlock,V1,if_false]
     exact hq a' w' be M' r1 r2 r3 r4
 |loop x ih=>
  intro ac hc B st bn a w β M o h hf he Q hq
  simp only[eU,Option.map_eq_some_iff]at hc
  obtain⟨ax,h1,rfl⟩:=hc
  simp only[eZ]at he
  have key: ∀(m:Nat) (dF:St) (a1:Act) (w1:World) (u9:aS) (M1:aI),bf B dF w1 u9 M1→jI dF a1 w1 u9 M1 n→Tr st w β M dF w1 u9 M1→w.heap.size≤w1.heap.size→iter (eZ E call fl n ax) m dF=some (o,bn)→Code.rounds P x Q m a1 w1:=by
   intro m
   induction m with
   |zero=>intro dF a1 w1 u9 M1 _ _ _ _ hi;simp[iter]at hi
   |succ m ihm=>
    intro dF a1 w1 u9 M1 g1 g2 g3 g4 hi
    rw[rounds_succ]
    simp only[iter]at hi
    cases hx:eZ E call fl n ax dF with
    |none=>simp[hx]at hi
    |some p=>
     obtain⟨ox,nN⟩:=p
     cases ox with
     |nrm=>
      simp only[hx]at hi
      refine ih ax h1 g1 g2 hx ?_
      intro a' w' be M' r1 r2 r3 r4
      exact ihm nN a' w' be M' r1 r2 (g3.trans r3 g4) (Nat.le_trans g4 r4) hi
     |ext id=>
      simp[hx]at hi;obtain⟨rfl,rfl⟩:=hi
      refine ih ax h1 g1 g2 hx ?_
      intro a' w' be M' r1 r2 r3 r4
      exact hq a' w' be M' r1 r2 (g3.trans r3 g4) (Nat.le_trans g4 r4)
     |ret=>
      simp[hx]at hi;obtain⟨rfl,rfl⟩:=hi
      refine ih ax h1 g1 g2 hx ?_
      intro a' w' be M' r1 r2 r3 r4
      exact hq a' w' be M' r1 r2 (g3.trans r3 g4) (Nat.le_trans g4 r4)
  exact wp_loop_rounds fl (key fl st a w β M h hf (Tr.refl _ _ _ _) (Nat.le_refl _) he)
 |exit id=>
  intro ac hc B st bn a w β M o h hf he Q hq
  simp[eU]at hc;subst hc
  simp[eZ]at he;obtain⟨rfl,rfl⟩:=he
  exact wp_exit (hq a w β M h hf (Tr.refl _ _ _ _) (Nat.le_refl _))
 |ret=>
  intro ac hc B st bn a w β M o h hf he Q hq
  simp[eU]at hc;subst hc
  simp[eZ]at he;obtain⟨rfl,rfl⟩:=he
  exact wp_ret (hq a w β M h hf (Tr.refl _ _ _ _) (Nat.le_refl _))
 |rangeFunc _ _ _ _=>intro ac hc;simp[eU]at hc
 |scope _=>intro ac hc;simp[eU]at hc
 |label _=>intro ac hc;simp[eU]at hc
 |goto _=>intro ac hc;simp[eU]at hc
 |refuse _=>intro ac hc;simp[eU]at hc
end
end Go.Ev
namespace Go.Ev
open Go
section
variable{P:Program}{E:Env}{n:Nat}
def vd(ts:Array Value)(r:ResultVar):Sem Value:=
 match r with
 | .tmp t=>pure (ts.getD t undef)
 | .cell ad t=>do loadVar t (←asAddr (ts.getD ad undef))
theorem zE(fn:Func)(ts:Array Value):results fn ts=(do
  let vs ←(List.toArray <$> fn.results.toList.mapM (vd ts))
  pure (if h:vs.size=1 then vs[0]else .tuple vs)):=by
 unfold results
 rw[Array.mapM_eq_mapM_toList]
 congr 2
theorem mQ{B:dP}{st:St}{a:Act}{w:World}{β:aS}{M:aI}(h:bf B st w β M)(hf:jI st a w β M n): ∀(rs:List ResultVar) (NA:List qo) (vs:List T),ki P rs=some NA→eC st NA=some vs→
  ∃m8:List Value,(rs.mapM (vd a.tmps)).run P w=Result.ok m8 w∧av β st.gens w M vs m8
 | [],NA,vs,hc,hr=>by
   simp[ki]at hc;subst hc
   simp[eC]at hr;subst hr
   exact⟨[],by simp,by simp[av]⟩
 | .tmp t::rs,NA,vs,hc,hr=>by
   simp only[ki,Option.map_eq_some_iff]at hc
   obtain⟨Pv,h1,rfl⟩:=hc
   simp only[eC,wM]at hr
   split at hr
   ·rename_i v kl e1 e2
    simp at hr e1;subst hr;subst e1
    obtain⟨m8,r1,r2⟩:=mQ h hf rs Pv kl h1 e2
    refine⟨a.tmps.getD t undef::m8, ?_, ?_⟩
    ·rw[List.mapM_cons]
     simp only[vd,Sem.run_bind,Sem.run_pure,Result.andThen_ok,r1]
    ·simp only[av];exact⟨_,_,rfl,hf.slot t,r2⟩
   ·cases hr
 | .cell ad t::rs,NA,vs,hc,hr=>by
   simp only[ki]at hc
   split at hc
   ·rename_i sz ag Pv h1 h2 h3
    simp at hc;subst hc
    simp only[eC,wM]at hr
    split at hr
    ·rename_i v kl e1 e2
     simp at hr;subst hr
     obtain⟨m8,r1,r2⟩:=mQ h hf rs Pv kl h3 e2
     obtain⟨ad',cv,q1,q2,q3⟩:=wS (P:=P) h h1 h2 (hf.slot ad) e1
     refine⟨cv::m8, ?_, ?_⟩
     ·rw[List.mapM_cons]
      simp only[vd,Sem.run_bind,q1,asAddr,Sem.run_pure,Result.andThen_ok,q2,r1]
     ·simp only[av];exact⟨_,_,rfl,q3,r2⟩
    ·cases hr
   ·cases hc
theorem CV{β:aS}{G:Sp→Nat→Nat}{w:World}{M:aI}{args:List T}{bw:Array Value}(hl:av β G w M args bw.toList)(k:Nat)(t:Nat):au β G w M (an (gn args) t) ((bw++Array.replicate k undef).getD t undef):=by
 have hlen:=av.length _ _ hl
 by_cases ht:t<args.length
 ·have hg:args[t]? =some args[t]:=List.getElem?_eq_getElem ht
  obtain⟨cv,c1,c2⟩:=hl.get hg
  have e1:an (gn args) t=args[t]:=by
   rw[tr]
   have: ∀(l:List T) (j:Nat) (hj:j<l.length),aV bm l j=l[j]:=by
    intro l
    induction l with
    |nil=>intro j hj;simp at hj
    |cons x xs ih=>intro j hj;cases j with|zero=>rfl|succ j=>exact ih j (by simpa using hj)
   exact this args t ht
  have S2:bw[t]? =some cv:=by simpa using c1
  have gI:t<bw.size:=by simp at hlen;omega
  have e2:(bw++Array.replicate k undef).getD t undef=cv:=by
   rw[Array.getD_eq_getD_getElem?,Array.getElem?_append_left gI,S2];rfl
  rw[e1,e2];exact c2
 ·have e1:an (gn args) t=bm:=by
   rw[tr]
   have: ∀(l:List T) (j:Nat),l.length≤j→aV bm l j=bm:=by
    intro l
    induction l with
    |nil=>intro j _;rfl
    |cons x xs ih=>intro j hj;cases j with|zero=>simp at hj|succ j=>exact ih j (by simpa using hj)
   exact this args t (by omega)
  have e2:(bw++Array.replicate k undef).getD t undef=undef:=by
   rw[Array.getD_eq_getD_getElem?,Array.getElem?_append_right (by simp at hlen;omega),Array.getElem?_replicate]
   split <;> rfl
  rw[e1,e2]
  simp[au,bm,undef,av]
def pack:List T→T
 | [v]=>v
 |vs=> .tup vs
theorem FV{keep:Bool}{n:Nat}:fz keep (n+1) .nilsl= .ret (.nilsl,[]):=rfl
theorem rJ{f:T→Q (T×List Up)}{h:Sp→Nat→aA}{nx:Nat}(hf:f .nilsl= .ret (.nilsl,[])): ∀(ts:List T) {j:Nat} {q:List T×List Up},(bl f ts).run h nx=some q→ts[j]? =some .nilsl→q.1[j]? =some .nilsl
 | [],j,q,_,hj=>by simp at hj
 |t::ts,j,q,hq,hj=>by
  simp only[bl,Q.run_bind]at hq
  cases h1:(f t).run h nx with
  |none=>simp[h1]at hq
  |some p=>
   simp only[h1,Option.bind_some]at hq
   cases h2:(bl f ts).run h nx with
   |none=>simp[h2]at hq
   |some q2=>
    simp only[h2,Option.bind_some,Q.run,Option.some.injEq]at hq
    subst hq
    cases j with
    |zero=>
     simp at hj;subst hj
     rw[hf]at h1;simp[Q.run]at h1;subst h1;rfl
    |succ j=>simpa using rJ hf ts h2 (by simpa using hj)
theorem Jq{r t:T}{us:List Up}{h:Sp→Nat→aA}{nx j:Nat}(hz:(fz false aM r).run h nx=some (t,us))(hc:eB r j=some .nilsl):eB t j=some .nilsl:=by
 cases r
 case tup vs=>
  have hz:((bl (fz false 7) vs).bind fun q=>Q.ret (T.tup q.1,q.2)).run h nx=some (t,us):=hz
  rw[Q.run_bind]at hz
  cases h1:(bl (fz false 7) vs).run h nx with
  |none=>simp[h1]at hz
  |some q=>
   simp only[h1,Option.bind_some,Q.run,Option.some.injEq,Prod.mk.injEq]at hz
   obtain⟨rfl,rfl⟩:=hz
   exact rJ FV vs h1 hc
 case agg vs=>
  have hz:((bl (fz false 7) vs).bind fun q=>Q.ret (T.agg q.1,q.2)).run h nx=some (t,us):=hz
  rw[Q.run_bind]at hz
  cases h1:(bl (fz false 7) vs).run h nx with
  |none=>simp[h1]at hz
  |some q=>
   simp only[h1,Option.bind_some,Q.run,Option.some.injEq,Prod.mk.injEq]at hz
   obtain⟨rfl,rfl⟩:=hz
   exact rJ FV vs h1 hc
 all_goals
  simp only[eB,Option.some.injEq]at hc
  try (cases hc;done)
 simp[aM,fz,Q.run]at hz
 obtain⟨rfl,rfl⟩:=hz
 rfl
theorem rK(hE:lA P E)(hm:P.follows .mixedOrders=true){m:Nat}(hO:pS P E (cm E m)){f:Nat}{af:aC}{args:List T}{sh:List aA}{r:T}{cq:List aA}(oV:E.fn f=some af)(aB:cm E (m+1) f args sh=some (r,cq))
  {w:World} {β:aS} {M:aI} {bw:Array Value} (mE:bf ⟨w,M,dn sh β⟩ (bare .nil sh) w β M) (hV0:av β (bare .nil sh).gens w M args bw.toList) {Q:Ending→World→Prop}
  (hQ: ∀dF vs w' be M' v,bf ⟨w,M,dn sh β⟩ dF w' be M'→jv af.own af.eff vs dF=some (r,cq)→au be dF.gens w' M' (pack vs) v→Tr (bare (gn args) sh) w β M dF w' be M'→Q (.returned v) w'):Calls P f bw w Q:=by
  obtain⟨hs,fn,hf,mK⟩:=hE.1 f af oV
  simp only[cm,oV]at aB
  split at aB
  ·cases aB
  ·rename_i hlen
   unfold wN at mK
   split at mK
   ·cases mK
   ·split at mK
    ·cases mK
    ·rename_i code TH
     split at mK
     ·rename_i ac NA h1 h2
      simp at mK
      have hV:av β (bare (gn args) sh).gens w M args bw.toList:=hV0
      have dq:=av.length _ _ hV
      have hn:fn.ntmps=af.n:=by rw[←mK]
      have TI:af.code=ac:=by rw[←mK]
      have my:af.res=NA:=by rw[←mK]
      rw[TI]at aB
      cases Pr:eZ E (cm E m) m af.n ac {fr:=gn args,lh:= .nil,sh}with
      |none=>simp[Pr]at aB
      |some p=>
       obtain⟨o,dF⟩:=p
       have CM:o≠ .nrm→o≠ .ret→False:=by
        intro n1 n2
        cases o with
        |nrm=>exact n1 rfl
        |ret=>exact n2 rfl
        |ext id=>simp[Pr]at aB
       have zF: ∃vs,eC dF af.res=some vs∧jv af.own af.eff vs dF=some (r,cq):=by
        cases o with
        |nrm=>
         simp only[Pr]at aB
         split at aB
         ·rename_i vs hv
          exact⟨vs,hv,aB⟩
         ·cases aB
        |ret=>
         simp only[Pr]at aB
         split at aB
         ·rename_i vs hv
          exact⟨vs,hv,aB⟩
         ·cases aB
        |ext id=>exact(CM (by simp) (by simp)).elim
       obtain⟨vs0,YQ,zF⟩:=zF
       have hF:jI (bare (gn args) sh) {tmps:=bw++Array.replicate (fn.ntmps-bw.size) undef,defers:= []} w β M af.n:=by
        refine⟨by simp at dq ⊢; omega,rfl,fun t=>CV hV _ t⟩
       refine calls_of_wp hf TH ?_
       refine Ps (n:=af.n) hE hO hm m code ac h1 (B:=⟨w,M,dn sh β⟩) (st:=bare (gn args) sh) (Jm mE (gn args)) hF Pr ?_
       intro a' w' be M' r1 r2 r3 r4
       have post:a'.defers= []∧ ∃v,(results fn a'.tmps).run P w'= .ok v w'∧Q (.returned v) w':=by
        refine⟨r2.defers, ?_⟩
        have hra:=YQ
        rw[my]at hra
        obtain⟨m8,q1,q2⟩:=mQ (P:=P) r1 r2 fn.results.toList NA vs0 h2 hra
        have TJ:(results fn a'.tmps).run P w'= .ok (if hh:m8.toArray.size=1 then m8.toArray[0]else .tuple m8.toArray) w':=by
         rw[zE]
         simp only[Sem.run_bind,Sem.run_map,q1,Result.andThen_ok,Sem.run_pure]
        have FW:au be dF.gens w' M' (pack vs0) (if hh:m8.toArray.size=1 then m8.toArray[0]else .tuple m8.toArray):=by
         have wu:=av.length _ _ q2
         cases vs0 with
         |nil=>
          simp only[av]at q2;subst q2
          simp[pack,au,av]
         |cons v vs=>
          cases vs with
          |nil=>
           simp only[av]at q2
           obtain⟨u,us,rfl,k1,rfl⟩:=q2
           simpa[pack]using k1
          |cons v2 vs=>
           have:m8.toArray.size≠1:=by simp at wu ⊢; omega
           rw[dif_neg this]
           simp only[pack,au]
           exact⟨_,rfl,by simpa using q2⟩
        exact⟨_,TJ,hQ dF vs0 w' be M' _ r1 zF FW r3⟩
       cases o with
       |nrm=>exact post
       |ret=>exact post
       |ext id=>exact(CM (by simp) (by simp)).elim
     ·cases mK
theorem pV(eff:Bool)(vs:List T)(st:St):answer eff vs st=match(fz eff aM (pack vs)).run st.get st.sh.length with
 |some p=>some (p.1,(st.ups p.2).sh)
 |none=>none:=by
 cases vs with
 |nil=>rfl
 |cons v vs=>cases vs <;> rfl
theorem ve(j:Nat)(vs:List T)(st:St):ju j vs st=match eB (pack vs) j with
 |some .nilsl=>answer false vs st
 |some (.isl .L k g 0 len sz)=>
  (match(fz false aM (bh (pack vs) j .nilsl)).run st.get st.sh.length with
  |some p=>(match(st.ups p.2).get .L k with
   |⟨g',.cells cs wm false⟩=>if g'=g∧cs.length=len*sz∧len≠0∧(wm=0∨scalar (bh p.1 j .nilsl)=true)then some (bh p.1 j (.sl cs len false),(st.ups p.2).sh)else none
   |_=>none)
  |none=>none)
 |_=>none:=by
 cases vs with
 |nil=>rfl
 |cons v vs=>cases vs <;> rfl
theorem tH{B:dP}{dF:St}{vs:List T}{w':World}{be:aS}{M':aI}{v:Value}{eff:Bool}{r:T}{cq:List aA}(r1:bf B dF w' be M')(ha:answer eff vs dF=some (r,cq))(FW:au be dF.gens w' M' (pack vs) v):
  ∃M2 us,bf B (dF.ups us) w' be M2∧(dF.ups us).gens=dF.gens∧cq=(dF.ups us).sh∧ko eff be dF.gens w' M2 r v:=by
 rw[pV]at ha
 split at ha
 ·rename_i p hz
  obtain⟨t',us⟩:=p
  simp at ha
  obtain⟨rfl,rfl⟩:=ha
  obtain⟨M2,z1,z2,z3,z4,z5⟩:=pL eff dF aM _ _ dF w' be M' _ t' us _ (Fz.refl dF) r1 FW hz
  exact⟨M2,us,z1,z2.gens,rfl,z4⟩
 ·cases ha
theorem xt(hE:lA P E)(hm:P.follows .mixedOrders=true): ∀m,pS P E (cm E m)
 |0=>by
  intro f af args sh r cq oV hc
  simp[cm]at hc
 |m+1=>by
  have hO:=xt hE hm m
  intro f af args sh r cq oV aB
  refine⟨fun mz=> ?_,fun j mz=> ?_⟩
  ·intro w β M bw mE hargs
   refine rK hE hm hO oV aB mE (fR.toV hargs) ?_
   intro dF vs w' be M' v r1 ha hv r3
   rw[mz]at ha
   obtain⟨M2,us,z1,z2,rfl,z4⟩:=tH r1 ha hv
   refine⟨v,be,M2,rfl,uW z1 .nil,fun k g hg=>r3.beta .S k g hg,fun k=> ?_, ?_⟩
   ·have e1:(ch (dF.ups us).sh k).g=(dF.ups us).gens .S k:=rfl
    rw[e1,z2]
    exact r3.gens .S k
   ·have hg2: ∀k,(bare .nil (dF.ups us).sh).gens .S k=dF.gens .S k:=by
     intro k
     have e1:(bare .nil (dF.ups us).sh).gens .S k=(dF.ups us).gens .S k:=rfl
     rw[e1,z2]
    cases kA:af.eff with
    |false=>rw[kA]at z4;exact z4
    |true=>
     rw[kA]at z4
     intro b g p q
     exact z4 b g (fun k x hx=>p k x (by rw[hg2];exact hx)) (fun k=>by rw[←hg2];exact q k)
  ·have kA:af.eff=false:=by
    cases he:af.eff with
    |false=>rfl
    |true=>
     exfalso
     simp only[cm,oV]at aB
     split at aB
     ·cases aB
     ·split at aB
      ·cases aB
      ·split at aB
       ·simp[jv,mz,he]at aB
       ·cases aB
      ·cases aB
   refine⟨kA, ?_⟩
   intro w β M bw mE hargs
   refine rK hE hm hO oV aB mE (fR.toV hargs) ?_
   intro dF vs w' be M' v r1 ha hv r3
   rw[mz,kA]at ha
   have ha:ju j vs dF=some (r,cq):=by simpa[jv]using ha
   rw[ve]at ha
   split at ha
   ·rename_i hc
    obtain⟨M2,us,z1,z2,rfl,z4⟩:=tH r1 ha hv
    refine⟨v,be,M2,rfl,uW z1 .nil,.inl ⟨?_,z4⟩⟩
    rw[pV]at ha
    split at ha
    ·rename_i p hz
     simp at ha
     obtain⟨rfl,_⟩:=ha
     exact Jq hz hc
    ·cases ha
   ·rename_i k g len sz hc
    split at ha
    ·rename_i p hz
     obtain⟨t',us⟩:=p
     have hn:au be dF.gens w' M' .nilsl jK:=by simp only[au]
     obtain⟨⟨x,hx,V2⟩,S0⟩:=FF hv hc hn rfl
     obtain⟨M2,z1,z2,z3,z4,z5⟩:=pL false dF aM _ _ dF w' be M' _ t' us _ (Fz.refl dF) r1 S0 hz
     dsimp only at ha
     split at ha
     ·rename_i g' cs wm qx
      split at ha
      ·rename_i fF
       obtain⟨rfl,dq,Ys,wW⟩:=fF
       simp at ha
       obtain⟨rfl,rfl⟩:=ha
       simp only[au]at V2
       obtain⟨acJ,cap,rfl,Q7,hcx⟩:=V2
       have ho:=z1.obj .L k
       rw[qx]at ho
       unfold dg at ho
       obtain⟨c,el,Yn,o1,o2,o3,o4,o5,o6,o7,o8⟩:=ho
       dsimp only at o1 o2 o3 o4 o5 o6
       subst o4
       have TK:=fun(b:aS) (G:Sp→Nat→Nat)=>FG (cs:=cs) (len:=len) (ex:=false) (PRel.toV b G _ _ z4) hx
       have tu:live ((dF.ups us).get .L k):=by rw[qx];trivial
       have td:(dF.ups us).gens .L k=g':=by show((dF.ups us).get .L k).g=g';rw[qx]
       have TL:=z1.lblk k tu
       rw[td]at TL
       refine⟨v,be,M2,rfl,uW z1 .nil,.inr ⟨cs,len,(TK be dF.gens).1,be .L k g',sz,cap,c,el,TL,o1,o2,o3,o5, ?_,o7,dq,Ys,Q7,by simpa using hcx,hx,fun b G=>(TK b G).2⟩⟩
       rcases wW with rfl|wW
       ·exact .inr fun i hi=>o6 i (Nat.zero_le _) hi
       ·exact .inl (by rw[zx _ _ _ _ rfl];exact wW)
      ·cases ha
     ·cases ha
    ·cases ha
   ·cases ha
end
theorem pure_call{P:Program}{E:Env}(hE:lA P E)(hm:P.follows .mixedOrders=true){m f:Nat}{af:aC}(oV:E.fn f=some af)(kA:af.eff=false)(mz:af.own=none){args:List T}{r:T}{cq:List aA}(hc:cm E m f args []=some (r,cq))(w:World)(bw:Array Value)
  (hargs:PList w (fun _ _=>False) args bw.toList):Calls P f bw w fun e w'=> ∃cv,e= .returned cv∧RowKit.Below w.heap.size w w'∧PRel w' (fun _ _=>False) r cv:=by
 have kz:=(xt hE hm m f af args [] r cq oV hc).1 mz
 rw[kA]at kz
 let β:aS:=fun _ _ _=>⟨0,0,0⟩
 have iE: ∀b,¬dn [] β b:=by rintro b ⟨k,hl,_⟩;simp[ch,aV]at hl;exact hl.elim
 have mE:bf ⟨w,fun _ _=>False,dn [] β⟩ (bare .nil []) w β (fun _ _=>False):=by
  have e: ∀sp k,(bare .nil []).get sp k=gO:=by intro sp k;cases sp <;> simp[bare,St.get,ch,aV,aQ.get_nil]
  refine⟨fun sp k=> ?_,fun sp k cu k' l1 _ _=> ?_,fun _ _ h=>h.elim,fun k hl=> ?_,fun k hl=> ?_,rfl,rfl,rfl,Nat.le_refl _,fun _ _ _=>rfl,c9.refl _ _,fun _ _ _ _ hm=>hm⟩
  ·rw[e];unfold dg gO;trivial
  ·rw[e]at l1;exact l1.elim
  ·rw[e]at hl;exact hl.elim
  ·rw[e]at hl;exact hl.elim
 refine(kz w β _ bw mE hargs).mono ?_
 rintro e w' ⟨cv,be,M',rfl,h',_,_,hr⟩
 refine⟨cv,rfl,⟨h'.os,h'.tape,h'.output,h'.size,fun b hb=>h'.same b hb (iE b)⟩, ?_⟩
 exact PRel.mono (cM (fun _ _ h=>h.elim)) _ _ hr
end Go.Ev
namespace Go.Ev
open Go
inductive tp where
 |nil
 |nd (l:tp) (k:Nat) (v:aC) (r:tp)
def tp.find:tp→Nat→Option aC
 | .nil,_=>none
 | .nd l k v r,f=>bif Nat.beq f k then some v else bif Nat.ble f k then l.find f else r.find f
def tp.All(p:Nat→aC→Prop):tp→Prop
 | .nil=>True
 | .nd l k v r=>tp.All p l∧p k v∧tp.All p r
theorem tp.all_find{p:Nat→aC→Prop}{f:Nat}{v:aC}: ∀{t:tp},tp.All p t→t.find f=some v→p f v
 | .nil,_,h=>by simp[tp.find]at h
 | .nd l k u r,ha,h=>by
   obtain⟨h1,h2,h3⟩:=ha
   simp only[tp.find]at h
   cases hb:Nat.beq f k with
   |true=>
    rw[hb,cond_true]at h
    have:f=k:=Nat.eq_of_beq_eq_true hb
    subst this
    cases h;exact h2
   |false=>
    rw[hb,cond_false]at h
    cases hc:Nat.ble f k with
    |true=>rw[hc,cond_true]at h;exact tp.all_find h1 h
    |false=>rw[hc,cond_false]at h;exact tp.all_find h3 h
def az(P:Program)(f:Nat)(af:aC):Prop:= ∃hs fn,P.funcs[f]? =some fn∧wN P hs af.eff fn=some af
theorem codeOk{P:Program}{f:Nat}{af:aC}{hs:List Nat}{fn:Func}(h:P.funcs[f]? =some fn)(k:wN P hs af.eff fn=some af):az P f af:=⟨hs,fn,h,k⟩
def NB(P:Program)(f:Nat)(g:List T→Option T):Prop:=
 (∃fn,P.funcs[f]? =some fn∧(fn.name== "runtime.NumGoroutine")=false∧fn.body.isSome=true)∧
   ∀args r,g args=some r→ ∀(w:World) (M:aI) (bw:Array Value),(∀b o,M b o→b<w.heap.size)→PList w M args bw.toList→
    Calls P f bw w fun e w'=> ∃cv,e= .returned cv∧RowKit.Below w.heap.size w w'∧PRel w' (fun b _=>b<w.heap.size) r cv
theorem RJ{P:Program}{t:tp}{x:Nat→Option (List T→Option T)}{y:Nat→Option (List T→Option (List T×Option Nat))}(h:tp.All (az P) t)(hx: ∀f g,x f=some g→NB P f g)
  (hy: ∀f g,y f=some g→(∃fn,P.funcs[f]? =some fn∧(fn.name== "runtime.NumGoroutine")=false∧fn.body.isSome=true)∧Jl P f g):lA P ⟨t.find,x,y⟩:=
 ⟨fun f af hf=>tp.all_find h hf,fun f g _ hg=>hx f g hg,fun f g _ _ hg=>hy f g hg⟩
end Go.Ev
namespace Go.Ev
open Go
abbrev FX(E:Env)(m f:Nat)(args:List T)(sh:List aA):Option (T×List aA):=cm E m f args sh
theorem bU{E:Env}{m f:Nat}{args:List T}{sh:List aA}{r:Option (T×List aA)}(h:FX E m f args sh=r):cm E m f args sh=r:=h
theorem FY{E:Env}{m f:Nat}{args:List T}{sh:List aA}:FX E m f args sh=cm E m f args sh:=rfl
end Go.Ev
