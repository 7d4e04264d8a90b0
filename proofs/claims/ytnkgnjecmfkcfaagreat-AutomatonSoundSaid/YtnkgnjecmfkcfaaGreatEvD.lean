/- A tree evaluator over the model, proved against it (part D): where it answers, the call returns that answer. Conditions: none beyond its theorems' own. -/
import Derived.Test.YtnkgnjecmfkcfaaGreatEvC
set_option linter.all false
namespace Go.Ev
open Go
def bare(fr:Fr)(sh:List ah):St:={fr,lh:= .nil,sh}
theorem BW(fr:Fr)(sh:List ah)(k:Nat):(bare fr sh).get .L k=eS:=by simp[bare,St.get,aI,aH,aE.get_nil]
def dV.shared{β ba:aQ}{G G':Sp→Nat→Nat}{w:World}{M:MSet}{k:Nat}{e:ah}(DQ: ∀n g,g≤G .S n→ba .S n g=β .S n g)(r: ∀n,G .S n≤G' .S n)(D:e.g≤G .S k)(h:dV β G w M .S k e):dV ba G' w M .S k e:=by
 unfold dV at h ⊢
 rw[DQ k _ D]
 obtain⟨g,ob⟩:=e
 cases ob with
 |none=>trivial
 |cells cs H bx=>
  obtain⟨c,el,fz,h1,h2,h3,h4,h5,h6,F⟩:=h
  refine⟨c,el,fz,h1,h2,h3,h4, ?_,h6,F⟩
  cases bx
  ·exact h5
  ·exact vE.mono (dG.refl w M) DQ r h5
 |map ks I fz=>exact h
def GA{B:eZ}{st:St}{w:World}{β:aQ}{M:MSet}(h:bh B st w β M)(fr:Fr):bh B (bare fr st.sh) w β M:=by
 refine⟨fun sp k=> ?_,fun sp k H k' D F I=> ?_,h.mlt,fun k r=> ?_,fun k r=>h.sblk k r,h.os,h.tape,h.output,h.size,h.same,h.keep,h.msup⟩
 ·cases sp with
  |L=>grind [dV,eS,BW]
  |S=>exact dV.shared (G:=st.gens) (β:=β) (fun _ _ _=>rfl) (fun _=>Nat.le_refl _) (Nat.le_refl _) (h.obj .S k)
 ·cases sp with
  |L=>rw[BW]at D;exact D.elim
  |S=>
   cases H with
   |L=>rw[BW]at F;exact F.elim
   |S=>exact h.dist .S k .S k' D F I
 ·rw[BW]at r;exact r.elim
def eE(sh:List ah)(β:aQ)(b:Nat):Prop:= ∃k,live (aI sh k)∧(β .S k (aI sh k).g).blk=b
def aeE{B:eZ}{st:St}{w:World}{β:aQ}{M:MSet}(h:bh B st w β M)(fr:Fr):bh ⟨w,M,eE st.sh β⟩ (bare fr st.sh) w β M:=by
 have D:=GA h fr
 refine⟨D.obj,D.dist,h.mlt,fun k r=> ?_,fun k r=> .inl ⟨k,r,rfl⟩,rfl,rfl,rfl,Nat.le_refl _,fun _ _ _=>rfl,dG.refl w M,fun _ _ _ _ F=>F⟩
 rw[BW]at r;exact r.elim
def X4{B:eZ}{st:St}{w:World}{β:aQ}{M:MSet}(h:bh B st w β M)(fr:Fr):bh ⟨w,M,fun _=>False⟩ (bare fr []) w β M:=by
 have e: ∀sp k,(bare fr []).get sp k=eS:=by intro sp k;cases sp <;> simp[bare,St.get,aI,aH,aE.get_nil]
 refine⟨fun sp k=> ?_,fun sp k H k' D _ _=> ?_,h.mlt,fun k r=> ?_,fun k r=> ?_,rfl,rfl,rfl,Nat.le_refl _,fun _ _ _=>rfl,dG.refl w M,fun _ _ _ _ F=>F⟩
 ·grind [dV,eS]
 ·rw[e]at D;exact D.elim
 ·rw[e]at r;exact r.elim
 ·rw[e]at r;exact r.elim
def JX{B:eZ}{st:St}{w w':World}{β:aQ}{M:MSet}(h:bh B st w β M)(H:w'.os=w.os)(I:w'.tape=w.tape)(SF:w'.output=w.output)(r:w.heap.size≤w'.heap.size)(F: ∀b,b<w.heap.size→w'.heap[b]? =w.heap[b]?):
  bh B st w' β M∧Tr st w β M st w' β M:=by
 have hk:dG w M w' M:=⟨fun b o v D _=>by rw[jl (w:=w) (F b (vD D))];exact D,fun b O c D _=>by rw[F b (mR D)];exact D,fun _ _ _ h=>h⟩
 refine⟨⟨fun sp k=> ?_,h.dist,fun b o J=>Nat.lt_of_lt_of_le (h.mlt b o J) r,h.lblk,h.sblk,H.trans h.os,I.trans h.tape,SF.trans h.output,Nat.le_trans h.size r,fun b h1 h2=>(F b (Nat.lt_of_lt_of_le h1 h.size)).trans (h.same b h1 h2),h.keep.trans hk h.size,h.msup⟩,hk,fun _ _ _ _=>rfl,fun _ _=>Nat.le_refl _⟩
 exact dV.mono hk (fun _ _ _ _=>rfl) (fun _ _=>Nat.le_refl _) (Nat.le_refl _) (fun N=>F _ (h.lt N)) (fun _ _ J=>J) (h.obj sp k)
def anP{B:eZ}{st:St}{w w':World}{β ba:aQ}{M M':MSet}{aR:List ah}(h:bh B st w β M)(r:bh ⟨w,M,eE st.sh β⟩ (bare .nil aR) w' ba M')(DQ: ∀n g,g≤st.gens .S n→ba .S n g=β .S n g)(hG: ∀n,st.gens .S n≤(aI aR n).g):
  bh B {st with sh:=aR} w' (fun sp k g=>match sp with| .L=>β .L k g| .S=>ba .S k g) M'∧Tr st w β M {st with sh:=aR} w' (fun sp k g=>match sp with| .L=>β .L k g| .S=>ba .S k g) M':=by
 have V: ∀k,({st with sh:=aR}:St).get .L k=st.get .L k:=fun k=>rfl
 have W: ∀k,({st with sh:=aR}:St).get .S k=aI aR k:=fun k=>rfl
 have XW: ∀sp k g,g≤st.gens sp k→(fun(sp:Sp) k g=>match sp with| .L=>β .L k g| .S=>ba .S k g:aQ) sp k g=β sp k g:=by
  grind
 have E7: ∀sp k,st.gens sp k≤({st with sh:=aR}:St).gens sp k:=by
  grind
 have notS: ∀k,live (st.get .L k)→ ¬eE st.sh β (β .L k (st.gens .L k)).blk:=by
  rintro k D ⟨k',J,F⟩
  have:=h.dist .S k' .L k J D F
  cases this.1
 have X: ∀b,eE st.sh β b→B.SB b∨B.w.heap.size≤b:=by
  rintro b ⟨k,D,rfl⟩
  exact h.sblk k D
 have N: ∀k,live (aI aR k)→B.SB (ba .S k (aI aR k).g).blk∨B.w.heap.size≤(ba .S k (aI aR k).g).blk:=by
  intro k D
  rcases r.sblk k D with e|e
  ·exact X _ e
  ·exact .inr (Nat.le_trans h.size e)
 refine⟨⟨fun sp k=> ?_,fun sp k U k' H I F=> ?_,r.mlt,fun k D=>h.lblk k D,fun k D=>N k D,r.os.trans h.os,r.tape.trans h.tape,r.output.trans h.output,Nat.le_trans h.size r.size,fun b h1 h2=> ?_,h.keep.trans r.keep h.size,fun b o h1 h2 h3=> ?_⟩,r.keep,XW,E7⟩
 ·cases sp with
  |L=>
   refine dV.mono r.keep XW E7 (Nat.le_refl _) (fun D=> ?_) (fun D o Y=> ?_) (h.obj .L k)
   ·exact r.same _ (h.lt D) (notS k D)
   ·exact r.msup _ o (h.lt D) (notS k D) Y
  |S=>exact dV.shared (G:=(bare .nil aR).gens) (β:=ba) (fun _ _ _=>rfl) (fun _=>Nat.le_refl _) (Nat.le_refl _) (r.obj .S k)
 ·cases sp with
  |L=>
   cases U with
   |L=>exact h.dist .L k .L k' H I F
   |S=>
    exfalso
    have PA:(β .L k (st.gens .L k)).blk=(ba .S k' (aI aR k').g).blk:=F
    rcases r.sblk k' I with e|e
    ·exact notS k H (by rw[PA];exact e)
    ·have:=h.lt (sp:= .L) (k:=k) H
     have Z:w.heap.size≤(ba .S k' (aI aR k').g).blk:=e
     omega
  |S=>
   cases U with
   |L=>
    exfalso
    have PA:(ba .S k (aI aR k).g).blk=(β .L k' (st.gens .L k')).blk:=F
    rcases r.sblk k H with e|e
    ·exact notS k' I (by rw[←PA];exact e)
    ·have:=h.lt (sp:= .L) (k:=k') I
     have Z:w.heap.size≤(ba .S k (aI aR k).g).blk:=e
     omega
   |S=>exact r.dist .S k .S k' H I F
 ·have O: ¬eE st.sh β b:=fun hs=>by
   grind
  exact(r.same b (Nat.lt_of_lt_of_le h1 h.size) O).trans (h.same b h1 h2)
 ·have O: ¬eE st.sh β b:=fun hs=>by
   grind
  exact r.msup b o (Nat.lt_of_lt_of_le h1 h.size) O (h.msup b o h1 h2 h3)
def JY(M:MSet)(S:JJ):MSet:=fun b x=>M b x∨(b=S.blk∧S.off≤x∧x<S.off+S.ext)
def anQ{B:eZ}{st:St}{w w':World}{β:aQ}{M:MSet}(h:bh B st w β M)(V:w'.os=w.os)(W:w'.tape=w.tape)(SF:w'.output=w.output)(F:w.heap.size≤w'.heap.size)(UX: ∀b,b<w.heap.size→w'.heap[b]? =w.heap[b]?)
  (k g:Nat) (hg:st.gens .L k<g) (S:JJ) (hS:w.heap.size≤S.blk) (hS2:S.blk<w'.heap.size) (ob:Ob)
  (ho:dV (iw β .L k g S) (st.up (.L,k,⟨g,ob⟩)).gens w' (JY M S) .L k ⟨g,ob⟩):
  bh B (st.up (.L,k,⟨g,ob⟩)) w' (iw β .L k g S) (JY M S)∧Tr st w β M (st.up (.L,k,⟨g,ob⟩)) w' (iw β .L k g S) (JY M S):=by
 have hk:dG w M w' (JY M S):=⟨fun b o v H _=>by rw[jl (w:=w) (UX b (vD H))];exact H,fun b es c H _=>by rw[UX b (mR H)];exact H,fun b x I hm=>hm.resolve_right (fun e=>by have:=e.1;omega)⟩
 have I: ∀r k' X,X≤st.gens r k'→iw β .L k g S r k' X=β r k' X:=by
  grind [vG]
 have hG: ∀r k',st.gens r k'≤(st.up (.L,k,⟨g,ob⟩)).gens r k':=by
  intro r k'
  rw[eD]
  grind
 have U: ∀r k',(iw β .L k g S r k' ((st.up (.L,k,⟨g,ob⟩)).gens r k'))=if r= .L∧k'=k then S else β r k' (st.gens r k'):=by
  grind [eD,bN]
 refine⟨⟨fun r k'=> ?_,fun Y k1 Z k2 J N O=> ?_,fun b x hm=> ?_,fun k' D=> ?_,fun k' D=> ?_,V.trans h.os,W.trans h.tape,SF.trans h.output,Nat.le_trans h.size F,fun b I hn=> ?_,h.keep.trans hk h.size,fun b x h1 h2 h3=> .inl (h.msup b x h1 h2 h3)⟩,hk,I,hG⟩
 ·rw[fk]
  split
  ·grind
  ·exact dV.mono hk I hG (Nat.le_refl _) (fun D=>UX _ (h.lt D)) (fun _ _ hm=> .inl hm) (h.obj r k')
 ·rw[U,U]at O
  rw[fk]at J N
  by_cases e1:Y= .L∧k1=k <;> by_cases e2:Z= .L∧k2=k
  ·grind
  ·rw[if_pos e1,if_neg e2]at O;rw[if_neg e2]at N
   have:=h.lt N;omega
  ·rw[if_neg e1,if_pos e2]at O;rw[if_neg e1]at J
   have:=h.lt J;omega
  ·rw[if_neg e1,if_neg e2]at O;rw[if_neg e1]at J;rw[if_neg e2]at N
   exact h.dist _ _ _ _ J N O
 ·rcases hm with hm|hm
  ·exact Nat.lt_of_lt_of_le (h.mlt b x hm) F
  ·grind
 ·rw[U];rw[fk]at D
  split
  ·exact Nat.le_trans h.size hS
  ·rename_i e;rw[if_neg e]at D;exact h.lblk k' D
 ·rw[U];rw[fk]at D
  rw[if_neg (by rintro⟨e,_⟩;cases e)]at D ⊢
  exact h.sblk k' D
 ·have:=h.size
  rw[UX b zV];exact h.same b I hn
theorem su{w w':World}{M M':MSet}: ∀{cs:List T} {r:List Value},cs.all jh=true→PList w M cs r→PList w' M' cs r
 | [],r,_,h=>by grind [PList]
 |t::ts,r,hs,h=>by
  simp only[List.all_cons,Bool.and_eq_true]at hs
  simp only[PList]at h ⊢
  obtain⟨u,us,rfl,h1,h2⟩:=h
  refine⟨u,us,rfl, ?_,su hs.2 h2⟩
  have D:=hs.1
  cases t <;> simp[jh]at D <;> simpa only[PRel]using h1
def PB:Value→Nat→Option Value
 | .tuple a,j=>if j<100 then a[j]? else match a[j/100-1]? with
   |some (.agg b)=>b[j%100]?
   |_=>none
 | .agg a,j=>a[j]?
 |v,_=>some v
def lj:Value→Nat→Value→Value
 | .tuple a,j,x=>if j<100 then .tuple (a.setIfInBounds j x)else match a[j/100-1]? with
   |some (.agg b)=> .tuple (a.setIfInBounds (j/100-1) (.agg (b.setIfInBounds (j%100) x)))
   |_=> .tuple a
 | .agg a,j,x=> .agg (a.setIfInBounds j x)
 |_,_,x=>x
abbrev jT:Value:= .slice none 0 0
section
variable{β:aQ}{G:Sp→Nat→Nat}{w:World}{M:MSet}
theorem av.set: ∀{ts:List T} {r:List Value} (j:Nat) {t:T} {v:Value},av β G w M ts r→aq β G w M t v→av β G w M (ts.set j t) (r.set j v)
 | [],r,j,t,v,h,_=>by grind [av]
 |t::ts,r,0,F,H,h,D=>by
  grind [av]
 |t::ts,r,j+1,F,H,h,D=>by
  simp only[av]at h;obtain⟨u,us,rfl,h1,h2⟩:=h
  simp only[List.set_cons_succ,av]
  exact⟨_,_,rfl,h1,av.set j h2 D⟩
def vX{cs:List T}{j:Nat}{t:T}(h:cs.all single=true)(r:single t=true):(cs.set j t).all single=true:=by
 grind
def BX{cs:List T}{j:Nat}{t u:T}(h:(cs.set j u).all single=true)(r:single t=true):(cs.set j t).all single=true:=by
 have:=vX (j:=j) h r
 simp_all
def X6{r y t:T}{v u:Value}{j:Nat}(h:aq β G w M r v)(D:eW r j=some y)(F:aq β G w M t u)(hs:single t=true):
  (∃x,PB v j=some x∧aq β G w M y x)∧aq β G w M (aM r j t) (lj v j u):=by
 cases r
 case tup vs=>
  simp only[aq]at h;obtain⟨a,rfl,H⟩:=h
  simp only[eW]at D
  by_cases BY:j<100
  ·rw[if_pos BY]at D
   obtain⟨x,h1,h2⟩:=H.get D
   refine⟨⟨x,by simpa[PB,BY]using h1,h2⟩, ?_⟩
   simp only[aM,lj,aq,BY,if_true]
   exact⟨_,rfl,by simpa using av.set j H F⟩
  ·rw[if_neg BY]at D
   cases hi:vs[j/100-1]? with
   |none=>grind
   |some U=>
    rw[hi]at D
    cases U <;> try (simp only at D;cases D;done)
    rename_i cs
    simp only at D
    obtain⟨x0,V,N⟩:=H.get hi
    simp only[aq]at N;obtain⟨b,rfl,O,W⟩:=N
    obtain⟨x,h1,h2⟩:=O.get D
    have I:a[j/100-1]? =some (.agg b):=by simpa using V
    refine⟨⟨x,by simpa[PB,BY,I]using h1,h2⟩, ?_⟩
    simp only[aM,lj,BY,if_false,hi,I,aq]
    refine⟨_,rfl, ?_⟩
    rw[Array.toList_setIfInBounds]
    refine av.set _ H ?_
    simp only[aq]
    exact⟨_,rfl,by simpa using av.set (j%100) O F,vX W hs⟩
 case agg cs=>
  simp only[aq]at h;obtain⟨a,rfl,H,J⟩:=h
  simp only[eW]at D
  obtain⟨x,h1,h2⟩:=H.get D
  refine⟨⟨x,by simpa[PB]using h1,h2⟩, ?_⟩
  simp only[aM,lj,aq]
  exact⟨_,rfl,by simpa using av.set j H F,vX J hs⟩
 case any=>simp[eW]at D
 all_goals
  simp only[eW,Option.some.injEq]at D;subst D
  refine⟨⟨v, ?_,h⟩, ?_⟩
  ·simp only[aq,PRel]at h
   first
    |(subst h;rfl)
    |(obtain⟨_,rfl,_⟩:=h;rfl)
    |(obtain⟨_,_,rfl,_⟩:=h;rfl)
    |(obtain⟨_,_,_,rfl,_⟩:=h;rfl)
    |(obtain⟨_,_,_,_,rfl,_⟩:=h;rfl)
    |(obtain⟨_,rfl⟩:=h;rfl)
  ·simp only[aq,PRel]at h
   first
    |(subst h;exact F)
    |(obtain⟨_,rfl,_⟩:=h;exact F)
    |(obtain⟨_,_,rfl,_⟩:=h;exact F)
    |(obtain⟨_,_,_,rfl,_⟩:=h;exact F)
    |(obtain⟨_,_,_,_,rfl,_⟩:=h;exact F)
    |(obtain⟨_,rfl⟩:=h;exact F)
theorem qV{a:Array Value}{j:Nat}{x y:Value}(h:a[j]? =some x):(a.toList.set j y).set j x=a.toList:=by
 rw[List.set_set]
 have r:a.toList[j]? =some x:=by simpa using h
 grind [List.getElem?_eq_some_iff.1,List.set_getElem_self]
def BZ(a:Array Value)(j:Nat)(x:Value): ∃b,lj (.tuple a) j x= .tuple b:=by
 simp only[lj]
 split
 ·grind
 ·split <;> exact⟨_,rfl⟩
theorem B5{v:Value}{j:Nat}(h: ∀a,lj v j jT≠ .tuple a)(r: ∀a,lj v j jT≠ .agg a):lj v j jT=jT∧PB v j=some v:=by
 cases v
 case tuple a=>obtain⟨b,D⟩:=BZ a j jT;exact absurd D (h _)
 all_goals first|exact⟨rfl,rfl⟩|exact absurd rfl (r _)
def aeF{r t:T}{cv x:Value}{j:Nat}(h:aq β G w M (aM r j .nilsl) (lj cv j jT))(hx:PB cv j=some x)(I:aq β G w M t x)(hs:single t=true):aq β G w M (aM r j t) cv:=by
 cases r
 case tup vs=>
  by_cases BY:j<100
  ·simp only[aM,BY,if_true,aq]at h ⊢
   obtain⟨a,D,F⟩:=h
   cases cv <;> simp[lj,BY]at D
   rename_i a0
   subst D
   simp only[PB,BY,if_true]at hx
   refine⟨a0,rfl, ?_⟩
   have:=av.set j F I
   grind [List.set_set,Array.toList_setIfInBounds,qV]
  ·have N: ∃a0 b,cv= .tuple a0∧a0[j/100-1]? =some (.agg b)∧b[j%100]? =some x:=by
    cases cv
    case tuple a0=>
     grind [PB,hi]
    all_goals
     exfalso
     simp only[aM,BY,if_false]at h
     split at h <;> (simp only[lj,aq]at h;obtain⟨_,h,_⟩:=h;cases h)
   obtain⟨a0,b,rfl,J,V⟩:=N
   simp only[lj,BY,if_false,J]at h
   simp only[aM,BY,if_false]at h ⊢
   split at h
   ·rename_i cs hi
    simp only[aq]at h ⊢
    obtain⟨a,D,F⟩:=h
    cases D
    refine⟨a0,rfl, ?_⟩
    have W:j/100-1<vs.length:=(List.getElem?_eq_some_iff.1 hi).1
    have H:aq β G w M (.agg (cs.set (j%100) .nilsl)) (.agg (b.setIfInBounds (j%100) jT)):=by
     obtain⟨x1,e1,e2⟩:=F.get (List.getElem?_set_self W)
     rw[Array.toList_setIfInBounds,List.getElem?_set_self (by have:=(Array.getElem?_eq_some_iff.1 J).1;simpa using this)]at e1
     cases e1;exact e2
    have O:aq β G w M (.agg (cs.set (j%100) t)) (.agg b):=by
     simp only[aq]at H ⊢
     obtain⟨b1,X,Mk,Y⟩:=H
     cases X
     refine⟨b,rfl, ?_,BX Y hs⟩
     have:=av.set (j%100) Mk I
     rw[List.set_set,Array.toList_setIfInBounds,qV V]at this
     exact this
    have:=av.set (j/100-1) F O
    rw[List.set_set,Array.toList_setIfInBounds,qV J]at this
    exact this
   ·simp only[aq]at h ⊢
    obtain⟨a,D,F⟩:=h
    cases D
    refine⟨a0,rfl, ?_⟩
    have:=av.set (j/100-1) (t:= .any) (v:= .agg b) F (by simp only[aq])
    rw[List.set_set,Array.toList_setIfInBounds,qV J]at this
    exact this
 case agg cs=>
  simp only[aM,aq]at h ⊢
  obtain⟨a,D,F,U⟩:=h
  cases cv
  case tuple a'=>obtain⟨b,Z⟩:=BZ a' j jT;rw[Z]at D;cases D
  all_goals simp[lj]at D
  rename_i a0
  subst D
  simp only[PB]at hx
  refine⟨a0,rfl, ?_,BX U hs⟩
  have:=av.set j F I
  grind [List.set_set,Array.toList_setIfInBounds,qV]
 case any=>simp only[aM,aq]
 all_goals
  simp only[aM,aq]at h ⊢
  obtain⟨h1,h2⟩:=B5 (v:=cv) (j:=j) (fun a e=>by rw[e]at h;cases h) (fun a e=>by rw[e]at h;cases h)
  rw[h2]at hx
  cases hx
  exact I
def okC:T→Nat→Prop
 | .any,_=>False
 | .tup r,j=>j<100∨ ∃cs,r[j/100-1]? =some (.agg cs)
 |_,_=>True
def X7{p:T}{v x:Value}{j:Nat}{cs:List T}{len:Nat}{ex:Bool}(D:okC p j)(h:aq β G w M p (lj v j jT))(hx:PB v j=some x):
  eW (aM p j (.sl cs len ex)) j=some (.sl cs len ex)∧aq β G w M (aM (aM p j (.sl cs len ex)) j .nilsl) (lj v j jT):=by
 have J:aq β G w M .nilsl jT:=by simp only[aq]
 cases p
 case tup vs=>
  simp only[aq]at h
  obtain⟨a,r,F⟩:=h
  by_cases BY:j<100
  ·cases v <;> simp[lj,BY]at r
   rename_i a0
   subst r
   simp only[PB,BY,if_true]at hx
   have Au:=av.length _ _ F
   simp at Au
   obtain⟨V,_⟩:=Array.getElem?_eq_some_iff.1 hx
   refine⟨by simp only[aM,eW,BY,if_true];rw[List.getElem?_set_self zV], ?_⟩
   simp only[aM,lj,aq,List.set_set,BY,if_true]
   refine⟨_,rfl, ?_⟩
   have:=av.set j F J
   rw[Array.toList_setIfInBounds,List.set_set]at this
   rw[Array.toList_setIfInBounds];exact this
  ·have D:j<100∨ ∃cs,vs[j/100-1]? =some (.agg cs):=D
   obtain⟨H,hi⟩:=D.resolve_left BY
   cases v
   case tuple a0=>
    simp only[PB,BY,if_false]at hx
    cases hk:a0[j/100-1]? with
    |none=>grind
    |some W=>
     rw[hk]at hx
     cases W <;> try (simp only at hx;cases hx;done)
     rename_i b
     simp only at hx
     simp only[lj,BY,if_false,hk]at r ⊢
     cases r
     have U:j/100-1<vs.length:=(List.getElem?_eq_some_iff.1 hi).1
     have I:aq β G w M (.agg H) (.agg (b.setIfInBounds (j%100) jT)):=by
      obtain⟨x1,e1,e2⟩:=F.get hi
      rw[Array.toList_setIfInBounds,List.getElem?_set_self (by have:=(Array.getElem?_eq_some_iff.1 hk).1;simpa using this)]at e1
      cases e1;exact e2
     simp only[aq]at I
     obtain⟨b1,X,Mk,Y⟩:=I
     cases X
     have N:=av.length _ _ Mk
     simp at N
     obtain⟨Z,_⟩:=Array.getElem?_eq_some_iff.1 hx
     refine⟨?_, ?_⟩
     ·simp only[aM,eW,BY,if_false,hi]
      rw[List.getElem?_set_self U]
      simp only
      rw[List.getElem?_set_self zV]
     ·simp only[aM,BY,if_false,hi]
      rw[List.getElem?_set_self U]
      simp only[List.set_set,aq]
      refine⟨_,rfl, ?_⟩
      have h3:aq β G w M (.agg (H.set (j%100) .nilsl)) (.agg (b.setIfInBounds (j%100) jT)):=by
       simp only[aq]
       refine⟨_,rfl, ?_,vX Y rfl⟩
       have:=av.set (j%100) Mk J
       rw[Array.toList_setIfInBounds,List.set_set]at this
       rw[Array.toList_setIfInBounds];exact this
      have:=av.set (j/100-1) F h3
      rw[Array.toList_setIfInBounds,List.set_set]at this
      rw[Array.toList_setIfInBounds];exact this
   all_goals (simp only[lj]at r;cases r)
 case agg vs=>
  simp only[aq]at h
  obtain⟨a,r,F,O⟩:=h
  cases v
  case tuple a'=>obtain⟨b,hb⟩:=BZ a' j jT;rw[hb]at r;cases r
  all_goals simp[lj]at r
  rename_i a0
  subst r
  simp only[PB]at hx
  have Au:=av.length _ _ F
  simp at Au
  obtain⟨V,_⟩:=Array.getElem?_eq_some_iff.1 hx
  refine⟨by simp only[aM,eW];rw[List.getElem?_set_self zV], ?_⟩
  simp only[aM,lj,aq,List.set_set]
  refine⟨_,rfl, ?_,vX O rfl⟩
  have:=av.set j F J
  rw[Array.toList_setIfInBounds,List.set_set]at this
  rw[Array.toList_setIfInBounds];exact this
 case any=>exact D.elim
 all_goals
  refine⟨rfl, ?_⟩
  simp only[aM]
  have hp:lj v j jT=jT:=by
   grind [aq,PRel,B5]
  rw[hp];exact J
end
def X8(P:Program)(f:Nat)(F:Bool)(args:List T)(sh:List ah)(r:T)(H:List ah):Prop:=
 ∀(w:World) (β:aQ) (M:MSet) (D:Array Value),bh ⟨w,M,eE sh β⟩ (bare .nil sh) w β M→jm F β (bare .nil sh).gens w M args D.toList→
  Calls P f D w fun e w'=> ∃cv I M',e= .returned cv∧bh ⟨w,M,eE sh β⟩ (bare .nil H) w' I M'∧(∀n g,g≤(aI sh n).g→I .S n g=β .S n g)∧(∀n,(aI sh n).g≤(aI H n).g)∧po F I (bare .nil H).gens w' M' r cv
theorem MY(p x y:T)(j:Nat)(h:single x=true):aM (aM p j x) j y=aM p j y:=by
 cases p
 case tup vs=>
  by_cases r:j<100
  ·grind [aM,List.set_set]
  grind [aM,List.set_eq_of_length_le,hi,List.getElem?_set_self,List.set_set,List.getElem?_eq_none_iff.1,List.getElem?_eq_some_iff.1]
 case agg vs=>simp only[aM,List.set_set]
 all_goals first|(simp only[aM];done)|(simp only[aM];cases x <;> first|rfl|cases h)
def az6(w w':World)(M:MSet)(r:T)(j:Nat)(cs:List T)(len:Nat)(cv:Value):Prop:=
 ∃(S:JJ) (sz D:Nat) (c:Array Value) (el:TypeId),w.heap.size≤S.blk∧w'.heap[S.blk]? =some (.cells c el (0,0))∧S.off+S.ext≤c.size∧cs.length≤S.ext∧PList w' M cs ((c.toList.drop S.off).take cs.length)∧(mQ (aM r j .nilsl)=true∨ ∀i,i<S.ext→M S.blk (S.off+i))∧
  cs.all single=true∧cs.length=len*sz∧len≠0∧len≤D∧D*sz≤S.ext∧PB cv j=some (.slice (some ⟨S.blk,S.off,none⟩) len D)∧ ∀β G,aq β G w' M (aM r j .nilsl) (lj cv j jT)
def SG(P:Program)(f:Nat)(args:List T)(sh:List ah)(j:Nat)(r:T)(F:List ah):Prop:=
 ∀(w:World) (β:aQ) (M:MSet) (D:Array Value),bh ⟨w,M,eE sh β⟩ (bare .nil sh) w β M→jm false β (bare .nil sh).gens w M args D.toList→
  Calls P f D w fun e w'=> ∃cv H M',e= .returned cv∧bh ⟨w,M,eE sh β⟩ (bare .nil F) w' H M'∧
   ((eW r j=some .nilsl∧PRel w' M' r cv)∨ ∃cs len,eW r j=some (.sl cs len false)∧az6 w w' M' r j cs len cv)
def PC(r off D:Nat):Option Nat→Value
 |none=> .tuple #[]
 |some n=> .slice (some ⟨r,off,none⟩) n D
def az7(P:Program)(f:Nat)(h:List T→Option (List T×Option Nat)):Prop:=
 (∀r,h []=some ([],r)→r.getD 0=0→ ∀w:World,Calls P f #[jT] w fun e w'=>e= .returned (match r with|none=> .tuple #[]|some _=>jT)∧RowKit.Below w.heap.size w w')∧
 ∀cs H r,h cs=some (H,r)→H.length=cs.length→ ∀(w:World) (M:MSet) (D off F:Nat) (c:Array Value) (el:TypeId) (I:List Value),w.heap[D]? =some (.cells c el (0,0))→off+cs.length≤c.size→cs.length≤F→(c.toList.drop off).take cs.length=I→PList w M cs I→
  Calls P f #[.slice (some ⟨D,off,none⟩) cs.length F] w fun e w'=> ∃us,e= .returned (PC D off F r)∧PList w M H us∧RowKit.Below w.heap.size (setBlock w D (.cells (splice c.toList off us).toArray el)) w'
def qg(P:Program)(E:Env):Prop:=
 (∀f af,E.fn f=some af→ ∃hs F,P.funcs[f]? =some F∧EP P hs af.eff F=some af)∧
 (∀f g,E.fn f=none→E.ext f=some g→(∃F,P.funcs[f]? =some F∧(F.name== "runtime.NumGoroutine")=false∧F.body.isSome=true)∧
   ∀args r,g args=some r→ ∀(w:World) (M:MSet) (D:Array Value),(∀b o,M b o→b<w.heap.size)→PList w M args D.toList→
    Calls P f D w fun e w'=> ∃cv,e= .returned cv∧RowKit.Below w.heap.size w w'∧PRel w' (fun b _=>b<w.heap.size) r cv)∧
 (∀f h,E.fn f=none→E.ext f=none→E.wr f=some h→(∃F,P.funcs[f]? =some F∧(F.name== "runtime.NumGoroutine")=false∧F.body.isSome=true)∧
   az7 P f h)
def vY(P:Program)(E:Env)(call:ku):Prop:= ∀f af args sh r D,E.fn f=some af→call f args sh=some (r,D)→(af.own=none→X8 P f af.eff args sh r D)∧(∀j,af.own=some j→af.eff=false∧SG P f args sh j r D)
def B6{st bt:St}{a:Act}{w w':World}{β ba:aQ}{M M':MSet}{n:Nat}{d:Option Nat}{v:T}{cv:Value}{fr:Fr}(r:jk st a w β M n)(H:Tr st w β M bt w' ba M')(D:im st.fr n d v=some fr)(I:aq ba bt.gens w' M' v cv):
  jk {bt with fr} (a.put d cv) w' ba M' n:=by
 cases d with
 |none=>
  simp[im]at D;subst D
  exact⟨r.size,r.defers,fun t=>H.val (r.slot t)⟩
 |some d=>
  simp only[im]at D
  split at D
  ·rename_i J
   simp at D;subst D
   refine⟨by simp[Act.put,r.size],r.defers,fun t=> ?_⟩
   have e1:aa (cN st.fr d v) t=if t=d then v else aa st.fr t:=lU st.fr d v t
   have e2:(a.put (some d) cv).tmps.getD t undef=if t=d then cv else a.tmps.getD t undef:=by
    simp only[Act.put,Array.getD_eq_getD_getElem?,Array.getElem?_setIfInBounds]
    by_cases F:d=t
    ·subst F;rw[if_pos rfl,if_pos (by rw[r.size];exact J),if_pos rfl];rfl
    ·grind
   show aq ba bt.gens w' M' (aa (cN st.fr d v) t) _
   rw[e1,e2]
   split
   ·exact I
   ·exact H.val (r.slot t)
  ·cases D
end Go.Ev
namespace Go.Ev
open Go
def aeH{B:eZ}{st:St}{w:World}{β:aQ}{M:MSet}(h:bh B st w β M)(fr:Fr):bh B {st with fr} w β M:=
 ⟨h.obj,h.dist,h.mlt,h.lblk,h.sblk,h.os,h.tape,h.output,h.size,h.same,h.keep,h.msup⟩
theorem Tr.fr{st bt:St}{w w':World}{β ba:aQ}{M M':MSet}(h:Tr st w β M bt w' ba M')(fr:Fr):Tr st w β M {bt with fr} w' ba M':=⟨h.keep,h.beta,h.gens⟩
def MZ{w w':World}{M M':MSet}{r:T}{cv:Value}(hs:scalar r=true)(h:PRel w M r cv):PRel w' M' r cv:=by
 cases r <;> simp[scalar]at hs
 case tup vs=>
  simp only[PRel]at h ⊢
  obtain⟨a,rfl,D⟩:=h
  refine⟨a,rfl, ?_⟩
  generalize a.toList=l at D
  induction vs generalizing l with
  |nil=>grind [PList]
  |cons t ts ih=>
   simp only[PList]at D ⊢
   obtain⟨u,us,rfl,h1,h2⟩:=D
   have F:=hs t yv
   grind [PRel]
 all_goals simpa only[PRel]using h
theorem tW{β ba:aQ}{G G':Sp→Nat→Nat}{w w':World}{M M':MSet}: ∀{cs:List T} {r:List Value},cs.all jh=true→av β G w M cs r→av ba G' w' M' cs r
 | [],r,_,h=>by grind [av]
 |t::ts,r,hs,h=>by
  simp only[List.all_cons,Bool.and_eq_true]at hs
  simp only[av]at h ⊢
  obtain⟨u,us,rfl,h1,h2⟩:=h
  refine⟨u,us,rfl, ?_,tW hs.2 h2⟩
  have D:=hs.1
  cases t <;> simp[jh]at D <;> simpa only[aq]using h1
def SI{w w':World}{M M':MSet}{r:T}{cv:Value}(hs:mQ r=true)(h:PRel w M r cv):PRel w' M' r cv:=by
 cases r <;> simp[mQ,jh]at hs
 case tup vs=>
  simp only[PRel]at h ⊢
  obtain⟨a,rfl,D⟩:=h
  refine⟨a,rfl, ?_⟩
  generalize a.toList=l at D
  induction vs generalizing l with
  |nil=>grind [PList]
  |cons t ts ih=>
   simp only[PList]at D ⊢
   obtain⟨u,us,rfl,h1,h2⟩:=D
   have H:=hs t yv
   refine⟨u,us,rfl, ?_,ih (fun x hx=>hs x (by simp[hx])) us h2⟩
   cases t <;> simp[jh]at H <;> try (simpa only[PRel]using h1;done)
   simp only[PRel]at h1 ⊢
   obtain⟨b,rfl,I,F⟩:=h1
   exact⟨b,rfl,su (List.all_eq_true.2 fun x hx=>H x hx) I,F⟩
 case agg vs=>
  simp only[PRel]at h ⊢
  obtain⟨a,rfl,D,F⟩:=h
  exact⟨a,rfl,su (List.all_eq_true.2 fun x hx=>hs x hx) D,F⟩
 all_goals simpa only[PRel]using h
def M0{β ba:aQ}{G G':Sp→Nat→Nat}{w w':World}{M M':MSet}{r:T}{cv:Value}(hs:mQ r=true)(h:aq β G w M r cv):aq ba G' w' M' r cv:=by
 cases r <;> simp[mQ,jh]at hs
 case tup vs=>
  simp only[aq]at h ⊢
  obtain⟨a,rfl,D⟩:=h
  refine⟨a,rfl, ?_⟩
  generalize a.toList=l at D
  induction vs generalizing l with
  |nil=>grind [av]
  |cons t ts ih=>
   simp only[av]at D ⊢
   obtain⟨u,us,rfl,h1,h2⟩:=D
   have H:=hs t yv
   refine⟨u,us,rfl, ?_,ih (fun x hx=>hs x (by simp[hx])) us h2⟩
   cases t <;> simp[jh]at H <;> try (simpa only[aq]using h1;done)
   simp only[aq]at h1 ⊢
   obtain⟨b,rfl,I,F⟩:=h1
   exact⟨b,rfl,tW (List.all_eq_true.2 fun x hx=>H x hx) I,F⟩
 case agg vs=>
  simp only[aq]at h ⊢
  obtain⟨a,rfl,D,F⟩:=h
  exact⟨a,rfl,tW (List.all_eq_true.2 fun x hx=>hs x hx) D,F⟩
 all_goals simpa only[aq]using h
section
variable{P:Program}{E:Env}{call:ku}{B:eZ}{st:St}{a:Act}{w:World}{β:aQ}{M:MSet}{o:Oper}
def px{f:Nat}{D:Func}(H:P.funcs[f]? =some D)(I:(D.name== "runtime.NumGoroutine")=false)(F:D.body.isSome=true)(r:Array Value)(w:World):(callFunc f r).run P w= .ok (.enter f r) w:=by
 have h1: ¬D.name= "runtime.NumGoroutine" :=by simpa using I
 have h2: ¬D.body=none:=by intro e;rw[e]at F;simp at F
 simp[callFunc,H,h1,h2]
def SJ(I:kD β st.gens w M st.rho a.eval){c:Call}(N:o.op= .call c){sh:Nat}{Mo:mP}(hc:oh P sh c=some Mo){f:Nat}{r:List T}(F:bD st.rho Mo=some (some (f,r))):
  ∃D:Array Value,(execOp a.eval o).run P w=(callFunc f D).run P w∧av β st.gens w M r D.toList:=by
 unfold oh at hc
 split at hc
 ·rename_i O H
  simp only[Option.map_eq_some_iff]at hc
  obtain⟨as,h1,rfl⟩:=hc
  simp[bD]at F
  obtain⟨rfl,rfl⟩:=F
  refine⟨c.args.map a.eval, ?_,by simpa using sk I h1⟩
  simp[execOp,N,resolve,H,Deferred.ofValue,Act.eval,invoke]
 ·rename_i x U H
  split at hc
  ·rename_i y as h1 h2
   simp at hc;subst hc
   simp only[bD,Option.some.injEq]at F
   split at F
   ·rename_i O Z fc e
    simp at F
    obtain⟨rfl,rfl⟩:=F
    have J:=I x y h1
    rw[e]at J
    simp only[aq]at J
    obtain⟨V,W,e1,X,Y⟩:=J
    refine⟨V++c.args.map a.eval++W, ?_, ?_⟩
    ·simp[execOp,N,resolve,H,e1,Deferred.ofValue,invoke]
    ·have:=av.append (av.append X (sk I h2)) Y
     simpa using this
   ·simp at F
  ·cases hc
 all_goals
  exfalso
  revert F
  try (simp only[Option.map_eq_some_iff]at hc;obtain⟨as,h1,rfl⟩:=hc;simp[bD];done)
  try (cases hc;done)
 ·grind [bD]
 ·split at hc
  ·grind [bD]
  ·cases hc
def SK{sh:Nat}{op:Op}{Mo:mP}{ρ:aV→T}{x:Option (Nat×List T)}(h:cH P sh op=some Mo)(hc:bD ρ Mo=some x): ∃c,op= .call c∧oh P sh c=some Mo:=by
 cases op with
 |call c=>exact⟨c,rfl,h⟩
 |makeFunc D first F=>
  exfalso
  cases D <;> simp only[cH]at h <;> try (cases h;done)
  grind [bD]
 |makeMap t r=>
  exfalso
  cases r <;> simp only[cH]at h
  ·grind [bD]
  ·cases h
 |_=>
  grind [cH,Option.map_eq_some_iff,bD]
theorem az8(h:bh B st w β M){f:Nat}{g:List T→Option (List T×Option Nat)}
  (hnil: ∀r,g []=some ([],r)→r.getD 0=0→ ∀w:World,Calls P f #[jT] w fun e w'=>e= .returned (match r with|none=> .tuple #[]|some _=>jT)∧RowKit.Below w.heap.size w w')
  (qW: ∀cs ys r,g cs=some (ys,r)→ys.length=cs.length→ ∀(w:World) (M:MSet) (V off J:Nat) (c:Array Value) (el:TypeId) (vs:List Value),w.heap[V]? =some (.cells c el (0,0))→off+cs.length≤c.size→cs.length≤J→(c.toList.drop off).take cs.length=vs→PList w M cs vs→
    Calls P f #[.slice (some ⟨V,off,none⟩) cs.length J] w fun e w'=> ∃us,e= .returned (PC V off J r)∧PList w M ys us∧RowKit.Below w.heap.size (setBlock w V (.cells (splice c.toList off us).toArray el)) w')
  {N:List T} {H:Array Value} (hv:av β st.gens w M N H.toList) {r:T} {O:St} (F:XK g st N=some (r,O)):
  O.fr=st.fr∧Calls P f H w fun e w'=> ∃cv W M',e= .returned cv∧bh B O w' W M'∧Tr st w β M O w' W M'∧w.heap.size≤w'.heap.size∧aq W O.gens w' M' r cv:=by
 unfold XK at F
 split at F
 ·have hc:H= #[jT]:=by
   grind [av,aq,Array.toList_inj.1]
  subst hc
  have fin: ∀X:Option Nat,g []=some ([],X)→X.getD 0=0→O=st→(∀W M' w',aq W st.gens w' M' r (match X with|none=> .tuple #[]|some _=>jT))→
    O.fr=st.fr∧Calls P f #[jT] w fun e w'=> ∃cv W M',e= .returned cv∧bh B O w' W M'∧Tr st w β M O w' W M'∧w.heap.size≤w'.heap.size∧aq W O.gens w' M' r cv:=by
   rintro X hg h0 rfl hr
   refine⟨rfl,(hnil X hg h0 w).mono ?_⟩
   rintro e w' ⟨rfl,D⟩
   obtain⟨o1,o2⟩:=JX h D.os D.tape D.output D.size D.block
   exact⟨_,β,M,rfl,o1,o2,D.size,hr _ _ _⟩
  split at F
  ·grind [Option.some.injEq,Prod.mk.injEq,aq,av]
  ·rename_i hg
   simp only[Option.some.injEq,Prod.mk.injEq]at F
   obtain⟨rfl,rfl⟩:=F
   simp_all[aq,jT]
  ·cases F
 ·rename_i sp k g0 off len
  simp only[av,aq]at hv
  obtain⟨u,us,h1,⟨aNF,J,rfl,hlc,hce⟩,rfl⟩:=hv
  have hc:H= #[.slice (some ⟨(β sp k g0).blk,(β sp k g0).off+off,none⟩) len J]:=Array.toList_inj.1 h1
  subst hc
  generalize he:st.get sp k=e0 at F
  obtain⟨U,ob⟩:=e0
  cases ob with
  |none=>cases F
  |map _ _ _=>cases F
  |cells cs wm bx=>
  cases bx with
  |true=>cases F
  |false=>
  dsimp only at F
  split at F
  ·rename_i az9
   obtain⟨rfl,JR,gG⟩:=az9
   split at F
   ·rename_i ys X hg
    split at F
    ·rename_i hys
     obtain⟨MR,hy2,hy3⟩:=hys
     simp only[Option.some.injEq,Prod.mk.injEq]at F
     obtain⟨rfl,rfl⟩:=F
     have Ab:=h.obj sp k
     rw[he]at Ab
     unfold dV at Ab
     obtain⟨c,el,fz,sr,h2,h3,h4,h5,h6,h7,h8⟩:=Ab
     dsimp only at sr h2 h3 h4 h5 h6
     subst h4
     have I:((cs.drop off).take len).length=len:=by rw[List.length_take,List.length_drop];omega
     have hcl:c.toList.length=c.size:=yv
     have hpl:PList w M ((cs.drop off).take len) ((c.toList.drop ((β sp k U).off+off)).take len):=by
      have q:=PList.take len (PList.drop off (show PList w M cs ((c.toList.drop (β sp k U).off).take cs.length)from h5))
      rw[List.drop_take,List.take_take,List.drop_drop,Nat.min_eq_left zV]at q
      exact q
     have aC:=qW _ ys X hg (by rw[I];exact MR) w M (β sp k U).blk ((β sp k U).off+off) J c el _ sr (by rw[I];omega) (by rw[I];exact hlc) (by rw[I]) hpl
     rw[I]at aC
     refine⟨ak2 _ _,aC.mono ?_⟩
     rintro e w' ⟨us,rfl,hpu,D⟩
     have hul:us.length=len:=by rw[←PList.length _ _ hpu];exact MR
     have Y:=vR h he U (Nat.le_refl _) sr off us (splice cs off ys) JR zV (by rw[cU];omega) (by rw[cU];exact h3) (pw h7 hy2) (by
      rw[cU]
      have XY:(splice (c.toList.drop (β sp k U).off) off us).take cs.length=splice ((c.toList.drop (β sp k U).off).take cs.length) off us:=by
       apply List.ext_getElem?
       intro j
       rw[List.getElem?_take,eX,eX,List.getElem?_take,List.length_take]
       by_cases hj:j<cs.length
       ·rw[if_pos hj,if_pos hj]
        by_cases hc:off≤j∧j<off+us.length∧j<(c.toList.drop (β sp k U).off).length
        ·rw[if_pos hc,if_pos zV]
        ·rw[if_neg hc,if_neg zV]
       ·rw[if_neg hj,if_neg hj,if_neg zV]
      rw[XY]
      exact PList.splice h5 hpu)
     rw[om]at Y
     have Z:=eh w (β sp k U).blk (.cells (splice c.toList ((β sp k U).off+off) us).toArray el)
     obtain⟨o1,o2⟩:=JX Y.1 D.os D.tape D.output D.size fun b hb=>D.block b (by rw[Z]at hb;exact hb)
     refine⟨_,β,M,rfl,o1,Y.2.trans o2 (by rw[Z];exact Nat.le_refl _),by rw[←Z];exact D.size, ?_⟩
     cases X with
     |none=>simp[anm,PC,aq,av]
     |some n=>
      simp only[anm,PC,aq]
      refine⟨?_,J,rfl, ?_,hce⟩
      ·rw[eD,if_pos ⟨rfl,rfl⟩];exact Nat.le_refl _
      ·simp at hy3;omega
    ·cases F
   ·cases F
  ·cases F
 ·cases F
def SL(hE:qg P E)(hO:vY P E call)(h:bh B st w β M){f:Nat}{O:List T}{F:Array Value}(hv:av β st.gens w M O F.toList){r:T}{W:St}{d:Nat}(D:br E call d st f O=some (r,W)):
  (callFunc f F).run P w= .ok (.enter f F) w∧W.fr=st.fr∧
  Calls P f F w fun e w'=> ∃cv I M',e= .returned cv∧bh B W w' I M'∧Tr st w β M W w' I M'∧w.heap.size≤w'.heap.size∧aq I W.gens w' M' r cv:=by
 unfold br at D
 split at D
 ·rename_i af Av
  obtain⟨hs,fn,hf,ym⟩:=hE.1 f af Av
  have hnb:(fn.name== "runtime.NumGoroutine")=false∧fn.body.isSome=true:=by
   grind [EP]
  refine⟨px hf hnb.1 hnb.2 _ _, ?_⟩
  split at D
  ·rename_i q hq
   obtain⟨ts,us⟩:=q
   obtain⟨M1,q1,q2,q3,q4,q5,q6⟩:=j0 (fun t=>zr af.eff st aJ t) O B st w β M _ ts us _ (Fz.refl st) h hv hq
   split at D
   ·rename_i py
    simp only[Option.map_eq_some_iff]at D
    obtain⟨⟨U,aR⟩,aC,D⟩:=D
    simp at D
    obtain⟨rfl,rfl⟩:=D
    refine⟨Gx st us, ?_⟩
    have J:af.own=none:=by
     cases ho:af.own with
     |none=>rfl
     |some j=>rw[((hO f af ts (st.ups us).sh U aR Av aC).2 j ho).1]at py;cases py
    have Z:=(hO f af ts (st.ups us).sh U aR Av aC).1 J
    rw[py]at q4 Z
    have hx:jm true β (bare .nil (st.ups us).sh).gens w M1 ts F.toList:=by
     intro I G' p1 p2
     refine q4 I G' (fun k g hg=>p1 k g ?_) (fun k=>Nat.le_trans (Nat.le_of_eq ?_) (p2 k))
     ·have:(bare .nil (st.ups us).sh).gens .S k=(st.ups us).gens .S k:=rfl
      rw[this,q2.gens];exact hg
     ·have:(bare .nil (st.ups us).sh).gens .S k=(st.ups us).gens .S k:=rfl
      rw[this,q2.gens]
    refine(Z w β M1 F (aeE q1 .nil) hx).mono ?_
    rintro e w' ⟨cv,I,M',rfl,H,DQ,hG,hr⟩
    obtain⟨b1,b2⟩:=anP q1 H DQ hG
    refine⟨cv,_,M',rfl,b1,(Tr.fz q2 q3).trans b2 (Nat.le_refl _),H.size, ?_⟩
    exact hr _ _ (fun _ _ _=>rfl) (fun _=>Nat.le_refl _)
   ·rename_i py
    simp at py
    split at D
    ·rename_i r0 aC
     obtain⟨U,aR⟩:=r0
     rw[py]at q4
     have Af: ∀b,¬eE [] β b:=by rintro b ⟨k,hl,_⟩;simp[aI,aH]at hl;exact hl.elim
     have DX:bh ⟨w,M1,eE [] β⟩ (bare .nil []) w β M1:=by
      have h0:=X4 q1 .nil
      exact⟨h0.obj,h0.dist,h0.mlt,fun k hl=>h0.lblk k hl,fun k hl=>(h0.sblk k hl).imp (fun e=>e.elim) id,rfl,rfl,rfl,Nat.le_refl _,fun _ _ _=>rfl,dG.refl w M1,fun _ _ _ _ hm=>hm⟩
     have X: ∀(c:Bool),(c=true→ ∀{w1 M1 w2 M2 cv},PRel w1 M1 U cv→PRel w2 M2 U cv)→ ∀(w':World) (cv:Value) (I:aQ) (M':MSet) (SM:St),SM=(if c=true then st else st.ups us)→bh ⟨w,M1,eE [] β⟩ (bare .nil aR) w' I M'→PRel w' M' U cv→
       ∃Y I M',Ending.returned cv= .returned Y∧bh B SM w' I M'∧Tr st w β M SM w' I M'∧w.heap.size≤w'.heap.size∧aq I SM.gens w' M' U Y:=by
      intro c qn w' cv I M' SM vZ H hr'
      have V:=fun b (hb:b<w.heap.size)=>H.same b hb (Af b)
      by_cases fw:c=true
      ·rw[if_pos fw]at vZ;subst vZ
       obtain⟨o1,o2⟩:=JX h H.os H.tape H.output H.size V
       exact⟨cv,β,M,rfl,o1,o2,H.size,PRel.toV _ _ _ _ (qn fw hr')⟩
      ·rw[if_neg fw]at vZ;subst vZ
       obtain⟨o1,o2⟩:=JX q1 H.os H.tape H.output H.size V
       refine⟨cv,β,M1,rfl,o1,(Tr.fz q2 q3).trans o2 (Nat.le_refl _),H.size,PRel.toV _ _ _ _ (PRel.mono (dq ?_) _ _ hr')⟩
       intro b x hm
       have hb:=q1.mlt b x hm
       exact H.msup b x hb (Af b) hm
     cases J:af.own with
     |none=>
      simp only[J]at D
      simp at D
      obtain⟨rfl,vZ⟩:=D
      have Z:=(hO f af ts [] U aR Av aC).1 J
      rw[py]at Z
      have anS:W.fr=st.fr:=by rw[←vZ];split;rfl;exact Gx st us
      refine⟨anS,(Z w β M1 F DX q4).mono ?_⟩
      rintro e w' ⟨cv,I,M',rfl,H,DQ,hG,hr⟩
      exact X (scalar U) (fun h=>MZ h) w' cv I M' W vZ.symm H hr
     |some j=>
      simp only[J]at D
      have Z:=((hO f af ts [] U aR Av aC).2 j J).2
      unfold BD at D
      have anS:W.fr=st.fr:=by
       split at D
       ·simp at D;obtain⟨_,rfl⟩:=D;split;rfl;exact Gx st us
       ·split at D
        ·simp at D;obtain⟨_,rfl⟩:=D;show(ite _ _ _:St).fr=_;split;rfl;exact Gx st us
        ·cases D
       ·cases D
      refine⟨anS,(Z w β M1 F DX q4).mono ?_⟩
      rintro e w' ⟨cv,I,M',rfl,H,hr⟩
      rcases hr with⟨hc,hr⟩|⟨cs,len,hc,S,sz,cap,c,el,s1,s2,s3,s4,s5,s6,s7,s8,s9,s10,s11,s12,s13⟩
      ·rw[hc]at D
       simp at D;obtain⟨rfl,vZ⟩:=D
       exact X (mQ U) (fun h=>SI h) w' cv I M' W vZ.symm H hr
      ·rw[hc]at D
       simp only at D
       split at D
       ·rename_i hcs
        have hsz:cs.length/len=sz:=by rw[s8];exact Nat.mul_div_cancel_left _ (Nat.pos_of_ne_zero s9)
        rw[hsz]at D
        have V:=fun b (hb:b<w.heap.size)=>H.same b hb (Af b)
        have fin: ∀(SM:St) (M3:MSet),bh B SM w β M3→Tr st w β M SM w β M3→(∀β G,aq β G w' (JY M3 S) (aM U j .nilsl) (lj cv j jT))→
          some (aM U j (.isl .L d ((SM.get .L d).g+1) 0 len sz),SM.up (.L,d,⟨(SM.get .L d).g+1,.cells cs 0 false⟩))=some (r,W)→
          ∃Y I M',Ending.returned cv= .returned Y∧bh B W w' I M'∧Tr st w β M W w' I M'∧w.heap.size≤w'.heap.size∧aq I W.gens w' M' r Y:=by
         intro SM M3 h3 t3 UT D
         simp only[Option.some.injEq,Prod.mk.injEq]at D
         obtain⟨rfl,rfl⟩:=D
         obtain⟨o1,o2⟩:=anQ h3 H.os H.tape H.output H.size V d ((SM.get .L d).g+1) (Nat.lt_succ_self _) S s1 (mR s2) (.cells cs 0 false) (by
          unfold dV
          simp only[bN]
          exact⟨c,el,(0,0),s2,s3,s4,rfl,su hcs.1 s5,fun i _ hi=> .inr ⟨rfl,by omega,by omega⟩,s7,Nat.zero_le _⟩)
         refine⟨cv,_,_,rfl,o1,t3.trans o2 (Nat.le_refl _),H.size,aeF (UT _ _) s12 ?_ rfl⟩
         simp only[aq]
         rw[bN]
         exact⟨by simp[eD],cap,rfl,s10,by simpa using s11⟩
        by_cases fw:mQ (aM U j .nilsl)=true
        ·simp only[fw,if_true]at D
         exact fin st M h (Tr.refl _ _ _ _) (fun β G=>M0 fw (s13 β G)) D
        ·simp only[fw,Bool.false_eq_true,if_false]at D
         refine fin (st.ups us) M1 q1 (Tr.fz q2 q3) (fun β G=>aq.mono (dq ?_) (fun _ _ _ _=>rfl) (fun _ _=>Nat.le_refl _) _ _ (s13 β G)) D
         rintro b x (hm|⟨rfl,h1,h2⟩)
         ·exact H.msup b x (q1.mlt b x hm) (Af b) hm
         ·have:=(s6.resolve_left fw) (x-S.off) zV
          rwa [show S.off+(x-S.off)=x by omega]at this
       ·cases D
    ·cases D
  ·cases D
 ·rename_i g Av JS
  split at D
  ·rename_i q hq
   obtain⟨ts,us⟩:=q
   simp only[Option.map_eq_some_iff]at D
   obtain⟨U,hg,D⟩:=D
   simp at D
   obtain⟨rfl,rfl⟩:=D
   obtain⟨⟨fn,hf,hn,hb⟩,Z⟩:=hE.2.1 f g Av JS
   obtain⟨M1,q1,q2,q3,q4,q5,q6⟩:=j0 (fun t=>zr false st aJ t) O B st w β M _ ts us _ (Fz.refl st) h hv hq
   refine⟨px hf hn hb _ _,rfl,(Z ts U hg w M1 F q1.mlt q4).mono ?_⟩
   rintro e w' ⟨cv,rfl,N,hr⟩
   obtain⟨o1,o2⟩:=JX h N.os N.tape N.output N.size N.block
   exact⟨cv,β,M,rfl,o1,o2,N.size,PRel.toV _ _ _ _ (PRel.mono (dq (fun b x hm=>h.mlt b x hm)) _ _ hr)⟩
  ·cases D
 ·rename_i Av JS
  split at D
  ·rename_i g hwr
   obtain⟨⟨fn,hf,hn,hb⟩,hnil,Z⟩:=hE.2.2 f g Av JS hwr
   refine⟨px hf hn hb _ _, ?_⟩
   grind [az8]
  ·cases D
variable{ops:Array Oper}{Q:Exit→Act→World→Prop}{n:Nat}{K:Act→World→Prop}
def M4(r:jk st a w β M n){j d:Nat}(D:(ops[j]?).bind (·.dst)=some d)(F:aa st.fr d≠ .any):yielded ops a.tmps j=match aa st.fr d with| .b x=>some x|_=>none:=by
 unfold yielded
 rw[D]
 simp only[Option.bind_some]
 have hs:=r.slot d
 rw[Array.getD_eq_getD_getElem?]at hs
 cases hx:a.tmps[d]? with
 |none=>
  rw[hx]at hs
  simp only[Option.getD_none]at hs
  generalize aa st.fr d=t at*
  cases t
  case any=>grind
  all_goals (simp only[aq,PRel,undef]at hs;simp_all)
 |some cv=>
  rw[hx]at hs
  simp only[Option.getD_some]at hs
  generalize aa st.fr d=t at*
  cases t <;> simp only[aq,PRel]at hs
  case b x=>subst hs;rfl
  case any=>grind
  all_goals first
   |(subst hs;rfl)
   |(obtain⟨_,rfl,_⟩:=hs;rfl)
   |(obtain⟨_,_,rfl,_⟩:=hs;rfl)
   |(obtain⟨_,_,_,rfl,_⟩:=hs;rfl)
   |(obtain⟨_,_,_,_,rfl,_⟩:=hs;rfl)
   |(obtain⟨_,rfl⟩:=hs;rfl)
def mV(hE:qg P E)(hO:vY P E call){hs:List Nat}{O:aG}{i:Nat}(hi:ops[i]? =some o)(hc:qP P hs ops o=some O)(h:bh B st w β M)(I:jk st a w β M n){H:St}(N:bp E call n O st=some H)
  (hK: ∀Y w' D M',bh B H w' D M'→jk H Y w' D M' n→Tr st w β M H w' D M'→w.heap.size≤w'.heap.size→K Y w'):wpOp P ops Q i K a w:=by
 have Z:=XM I
 unfold wpOp
 rw[hi]
 simp only
 unfold qP at hc
 split at hc
 ·rename_i Mo BV
  have core: ∀gd,O=⟨o.dst,Mo,gd⟩→(match bD st.rho Mo with
    |some (some c)=>match br E call (o.dst.getD 0) st c.1 c.2 with
     |some r=>(im st.fr n o.dst r.1).map fun fr=>({r.2 with fr}:St)
     |none=>none
    |some none=>none
    |none=>match(bB (o.dst.getD 0) st.rho Mo).run st.get st.sh.length with
     |some (.val v ups)=>(im st.fr n o.dst v).map fun fr=>({st.ups ups with fr}:St)
     |none=>none)=some H→o.wp P a w K Q:=by
   intro gd _ Ad
   unfold Oper.wp
   split at Ad
   ·rename_i c aC
    obtain⟨f,U⟩:=c
    split at Ad
    ·rename_i r V
     obtain⟨r,yl⟩:=r
     simp only[Option.map_eq_some_iff]at Ad
     obtain⟨fr,J,rfl⟩:=Ad
     have F:=SK BV aC
     obtain⟨c,ho,F⟩:=F
     obtain⟨W,hx,sV⟩:=SJ Z ho F aC
     obtain⟨d1,d2,d3⟩:=SL hE hO h sV V
     rw[hx,d1,Oper.upon_enter]
     refine d3.mono ?_
     rintro e w' ⟨cv,D,M',rfl,k1,k2,k3,k4⟩
     refine hK _ _ D M' (aeH k1 fr) ?_ (k2.fr fr) k3
     exact B6 I k2 J k4
    ·cases Ad
   ·cases Ad
   ·split at Ad
    ·rename_i v ups hq
     simp only[Option.map_eq_some_iff]at Ad
     obtain⟨fr,J,rfl⟩:=Ad
     obtain⟨nx,cv,w',D,M',r1,r2,r3,r4,r5,r6⟩:=az3 (P:=P) Z h BV hq
     rw[r1]
     have:=hK (a.put o.dst cv) w' D M' (aeH r3 fr) (B6 I r4 J r6) (r4.fr fr) r5
     rcases r2 with rfl|⟨rfl,rfl⟩
     ·exact this
     ·exact this
    ·cases Ad
  split at hc
  ·grind [Region.wanted,bp]
  ·rename_i j want hg
   split at hc
   ·rename_i d V
    simp at hc;subst hc
    unfold bp at N
    simp only at N
    have X:aa st.fr d≠ .any:=by intro e;rw[e]at N;cases N
    have hy:=M4 (ops:=ops) I V X
    have aGY:(im st.fr n o.dst aU).map (fun fr=>({st with fr}:St))=some H→K (a.put o.dst undef) w:=by
     intro hp
     simp only[Option.map_eq_some_iff]at hp
     obtain⟨fr,J,rfl⟩:=hp
     exact hK _ _ β M (aeH h fr) (B6 I (Tr.refl _ _ _ _) J (by simp[aq,aU,undef,av])) ((Tr.refl _ _ _ _).fr fr) (Nat.le_refl _)
    grind [Region.wanted]
   ·cases hc
 ·cases hc
end
end Go.Ev
namespace Go.Ev
open Go
theorem Q.run_congr{α:Type}{h F:Sp→Nat→ah}{nx r:Nat}: ∀(q:Q α),(∀κ∈q.log h nx,F κ.1 κ.2=h κ.1 κ.2)→(q.asks h nx=true→r=nx)→q.run F r=q.run h nx
 | .ret a,_,_=>rfl
 | .fail,_,_=>rfl
 | .rd sp k f,D,H=>by
   have e:F sp k=h sp k:=D (sp,k) (by simp[Q.log])
   simp only[Q.run,e]
   exact Q.run_congr (f (h sp k)) (fun κ hk=>D κ (by simp[Q.log,hk])) (fun I=>H (by simp[Q.asks,I]))
 | .new f,D,H=>by
   have e:r=nx:=H rfl
   subst e
   simp only[Q.run]
   exact Q.run_congr (f r) (fun κ hk=>D κ (by simp[Q.log,hk])) (fun _=>rfl)
theorem iW(f:T→Q (T×List Up))(h:Sp→Nat→ah)(nx:Nat)(D: ∀t,(f t).asks h nx=false): ∀ts,(bo f ts).asks h nx=false:=by
 have r: ∀{α γ:Type} (q:Q α) (g:α→Q γ),q.asks h nx=false→(∀a,(g a).asks h nx=false)→(q.bind g).asks h nx=false:=by
  intro α γ q g F H
  induction q with
  |ret a=>exact H a
  |fail=>rfl
  |rd sp k f ih=>grind [Q.bind,Q.asks]
  |new f ih=>simp[Q.asks]at F
 intro ts
 induction ts with
 |nil=>rfl
 |cons t ts ih=>
  simp only[bo]
  refine r _ _ (D t) (fun p=>r _ _ ih (fun q=>rfl))
theorem PD(h:Sp→Nat→ah)(nx:Nat): ∀(keep:Bool) (n:Nat) (t:T),(fz keep n t).asks h nx=false:=by
 have r: ∀{α γ:Type} (q:Q α) (g:α→Q γ),q.asks h nx=false→(∀a,(g a).asks h nx=false)→(q.bind g).asks h nx=false:=by
  intro α γ q g D F
  induction q with
  |ret a=>exact F a
  |fail=>rfl
  |rd sp k f ih=>grind [Q.bind,Q.asks]
  |new f ih=>simp[Q.asks]at D
 intro keep n
 induction n generalizing keep with
 |zero=>intro t;rfl
 |succ n ih=>
  intro t
  cases t <;> simp only[fz] <;> try rfl
  ·split
   ·rfl
   ·simp only[Q.asks];split
    ·split
     ·split <;> rfl
     ·split
      ·exact r _ _ (iW _ _ _ (fun t=>ih false t) _) (fun _=>rfl)
      ·rfl
     ·rfl
    ·rfl
  ·split
   ·rfl
   ·simp only[Q.asks];split
    ·split
     ·exact r _ _ (iW _ _ _ (fun t=>ih false t) _) (fun _=>rfl)
     ·rfl
    ·rfl
  ·grind [Q.asks]
  ·exact r _ _ (iW _ _ _ (fun t=>ih keep t) _) (fun _=>r _ _ (iW _ _ _ (fun t=>ih keep t) _) (fun _=>rfl))
  ·exact r _ _ (iW _ _ _ (fun t=>ih keep t) _) (fun _=>rfl)
  ·exact r _ _ (iW _ _ _ (fun t=>ih keep t) _) (fun _=>rfl)
theorem j4{ρ PE:aV→T}{l:List aV}(h: ∀x∈l,PE x=ρ x):l.map PE=l.map ρ:=List.map_congr_left h
theorem lM{ρ PE:aV→T}{d:Nat}{x:Option aV}(h: ∀y∈x.toList,PE y=ρ y):dN PE d x=dN ρ d x:=by
 cases x with
 |none=>rfl
 |some y=>grind [dN]
theorem SN{ρ PE:aV→T}(d:Nat)(op:mP)(h: ∀x∈yf op,PE x=ρ x):bB d PE op=bB d ρ op:=by
 cases op <;> simp only[yf]at h <;> simp only[bB]
 case mv x=>grind
 case pick c a b=>grind
 case box x sh=>grind
 case build z ps=>
  have e: ∀p∈ps,PE p.2.2=ρ p.2.2:=fun p D=>h _ (List.mem_map.2 ⟨p,D,rfl⟩)
  have e1:(ps.all fun p=>decide ((cellsOf (PE p.2.2)).length=p.2.1)&&noTup (PE p.2.2))=(ps.all fun p=>decide ((cellsOf (ρ p.2.2)).length=p.2.1)&&noTup (ρ p.2.2)):=by
   grind
  grind [List.map_congr_left]
 case bsl z len ps=>
  grind [List.map_congr_left]
 case ld x n ag=>grind
 case st x v n=>grind
 case nck x=>grind
 case bin o x y=>grind
 case eq n k x y=>grind
 case un o x=>grind
 case cvi k x=>grind
 case b2s x=>rw[h x yv]
 case mkfn f a c=>rw[j4 (fun x hx=>h x (by simp[hx])),j4 (fun x hx=>h x (by simp[hx]))]
 case mksl z b x sh=>rw[h x yv]
 case slS x l hh=>
  rw[h x yv,lM (x:=l) (fun y r=>h y (by simp at r;simp[r]))]
  split
  ·rw[lM (x:=hh) (fun y r=>h y (by simp at r;simp[r]))]
  ·rfl
 case slV sz x l hh m=>
  rw[h x yv,lM (x:=l) (fun y r=>h y (by simp at r;simp[r]))]
  split
  ·rfl
  ·rw[lM (x:=hh) (fun y r=>h y (by simp at r;simp[r]))]
   split
   ·rfl
   ·rename_i mm _ _;rw[h mm yv]
   ·rfl
 case fa x o=>rw[h x yv]
 case fld x o n ag=>rw[h x yv]
 case ia x y n=>rw[h x yv,h y yv]
 case iaA x y l n=>rw[h x yv,h y yv]
 case ixS x y=>rw[h x yv,h y yv]
 case ixA x y l n ag=>rw[h x yv,h y yv]
 case lk k x y z ok=>rw[h x yv,h y yv]
 case mu k x y z=>rw[h x yv,h y yv,h z yv]
 case ext x j=>rw[h x yv]
 case lenS x=>rw[h x yv]
 case lenV x=>rw[h x yv]
 case lenM x=>rw[h x yv]
 case app s b x y sh nm=>rw[h x yv,h y yv]
 case mm b as=>rw[j4 h]
theorem GB{ρ PE:aV→T}(op:mP)(h: ∀x∈yf op,PE x=ρ x):bD PE op=bD ρ op:=by
 cases op <;> simp only[yf]at h <;> simp only[bD]
 case callf f as=>simp_all
 case callv f as=>rw[h f yv,j4 (fun x hx=>h x (by simp[hx]))]
def X9{ρ:aV→T}{op:mP}(F:quiet op=true)(d:Nat)(h:Sp→Nat→ah)(nx:Nat):bD ρ op=none∧(bB d ρ op).log h nx= []∧(bB d ρ op).asks h nx=false∧ ∀v r,(bB d ρ op).run h nx=some (.val v r)→r= []:=by
 have D: ∀x:Option T,(Ev.val x).log h nx= []∧(Ev.val x).asks h nx=false∧ ∀v r,(Ev.val x).run h nx=some (.val v r)→r= []:=by
  intro x;cases x <;> simp[Ev.val,Q.log,Q.asks,Q.run]
 cases op <;> simp[quiet]at F <;> refine⟨rfl, ?_⟩ <;> simp only[bB]
 case slV sz x l hh m=>
  split
  ·simp[Q.log,Q.asks,Q.run]
  ·split
   ·unfold zp
    grind [Q.bind,Q.log,Q.asks,Q.run]
   ·grind [Q.log,Q.asks,Q.run]
   ·simp[Q.log,Q.asks,Q.run]
 all_goals first
  |exact D _
  |(simp[Q.log,Q.asks,Q.run];done)
  |(repeat' split
    all_goals first
     |exact D _
     |(simp[Q.log,Q.asks,Q.run];done))
end Go.Ev
namespace Go.Ev
open Go
def JZ{us:List Up}{sp:Sp}{k:Nat}:jQ us sp k=true↔(sp,k)∈cW us:=by
 grind [jQ,cW]
def J0(s p:St): ∀(us:List Up) (sp:Sp) (k:Nat),jQ us sp k=true→(s.ups us).get sp k=(p.ups us).get sp k:=by
 intro us
 induction us generalizing s p with
 |nil=>grind [jQ]
 |cons u us ih=>
  grind [St.ups,lL,jQ,fk]
theorem Aw(s p:St)(us:List Up)(sp:Sp)(k:Nat):(s.ups us).get sp k=if(sp,k)∈cW us then(p.ups us).get sp k else s.get sp k:=by
 split
 ·rename_i h;exact J0 s p us sp k (JZ.2 h)
 ·rename_i h
  refine lL s us sp k ?_
  cases r:jQ us sp k with
  |false=>rfl
  |true=>exact absurd (JZ.1 r) h
def M5(s p:St)(hs:s.sh=p.sh): ∀us,(s.ups us).sh=(p.ups us).sh:=by
 intro us
 induction us generalizing s p with
 |nil=>exact hs
 |cons u us ih=>
  simp only[St.ups]
  refine ih _ _ ?_
  obtain⟨a,b,c⟩:=u
  cases a
  ·exact hs
  ·simp[St.up,hs]
def GC(s:St): ∀us,(∀u∈us,u.1= .S→u.2.1<s.sh.length)→(s.ups us).sh.length=s.sh.length:=by
 intro us
 induction us generalizing s with
 |nil=>intro _;rfl
 |cons u us ih=>
  intro h
  obtain⟨a,b,c⟩:=u
  simp only[St.ups]
  have r:(s.up (a,b,c)).sh.length=s.sh.length:=by
   cases a with
   |L=>rfl
   |S=>simp_all[St.up,kz]
  grind
def M6{s p:St}{us:List Up}(h:inB p us=true)(D: ∀sp k,(sp,k)∈cW us→s.get sp k=p.get sp k): ∀u∈us,u.1= .S→u.2.1<s.sh.length:=by
 intro u r e
 unfold inB at h
 rw[List.all_eq_true]at h
 have h1:=h u r
 obtain⟨a,b,c⟩:=u
 dsimp only at e;subst e
 simp at h1
 have h2:=D .S b (by unfold cW;exact List.mem_map.2 ⟨_,r,rfl⟩)
 refine Pt (st:=s) ?_
 grind [zq,live]
def GD{fr fr2:Fr}{n:Nat}{d:Option Nat}{v:T}{g:Fr}(h:im fr n d v=some g): ∃r,im fr2 n d v=some r∧ ∀t,aa r t=if d=some t then aa g t else aa fr2 t:=by
 cases d with
 |none=>exact⟨fr2,rfl,fun t=>by simp⟩
 |some d=>
  grind [im,lU]
def wrote(fp:FP)(sp:Sp)(k:Nat):Prop:=(sp,k)∈fp.w∨(fp.all=true∧sp= .S)
structure aeI (ao:aG) (fp:FP) (s s' p':St):Prop where
 slot: ∀t,aa s'.fr t=if ao.d=some t then aa p'.fr t else aa s.fr t
 key: ∀sp k,(wrote fp sp k→s'.get sp k=p'.get sp k)∧(¬wrote fp sp k→s'.get sp k=s.get sp k)
 len:(fp.all=true→s'.sh.length=p'.sh.length)∧(fp.all=false→s'.sh.length=s.sh.length)
variable{E:Env}{call:ku}{n:Nat}
def SO{s p:St}{r:aG}(h: ∀t∈looks r,aa s.fr t=aa p.fr t): ∀x∈yf r.op,s.rho x=p.rho x:=by
 intro x hx
 cases x with
 |t m=>
  refine h m ?_
  grind [looks,tmpsOf]
 |c v=>rfl
def aeJ{s p:St}{d j:Nat}{r I:T}{us:List Up}{J:St}(D:BD d j r p us=some (I,J))(h: ∀sp k,(sp,k)∈(Sp.L,d)::cW us→s.get sp k=p.get sp k)(O:(s.ups us).sh.length=s.sh.length):
  ∃s2,BD d j r s us=some (I,s2)∧(∀sp k,((sp,k)∈(Sp.L,d)::cW us→s2.get sp k=J.get sp k)∧((sp,k)∉(Sp.L,d)::cW us→s2.get sp k=s.get sp k))∧s2.sh.length=s.sh.length:=by
 have base: ∀(c:Bool) (sp:Sp) (k:Nat),((sp,k)∈(Sp.L,d)::cW us→(if c=true then s else s.ups us).get sp k=(if c=true then p else p.ups us).get sp k)∧((sp,k)∉(Sp.L,d)::cW us→(if c=true then s else s.ups us).get sp k=s.get sp k):=by
  grind [Bool.false_eq_true,Aw]
 have len: ∀c:Bool,(if c=true then s else s.ups us).sh.length=s.sh.length:=by
  grind
 unfold BD at D ⊢
 split at D
 ·rename_i hc
  simp only[Option.some.injEq,Prod.mk.injEq]at D ⊢
  obtain⟨rfl,rfl⟩:=D
  exact⟨_,⟨rfl,rfl⟩,base _,len _⟩
 ·rename_i cs XN ex hc
  split at D
  ·rename_i H
   rw[if_pos H]
   simp only[Option.some.injEq,Prod.mk.injEq]at D ⊢
   obtain⟨rfl,rfl⟩:=D
   have N:=(base (mQ (aM r j .nilsl)) .L d).1 (List.mem_cons_self ..)
   rw[N]
   refine⟨_,⟨rfl,rfl⟩,fun sp k=>⟨fun F=> ?_,fun F=> ?_⟩, ?_⟩
   ·rw[fk,fk]
    split
    ·rfl
    ·exact(base _ sp k).1 F
   ·rw[fk,if_neg (by rintro⟨rfl,rfl⟩;exact F (List.mem_cons_self ..))]
    exact(base _ sp k).2 F
   ·exact len _
  ·cases D
 ·cases D
def J1{D:aG}{fp:FP}{s p U:St}(he:bp E call n D p=some U)(dr:bU E call D p=some fp)(h1: ∀t∈looks D,aa s.fr t=aa p.fr t)(h2: ∀sp k,(sp,k)∈fp.r∨(sp,k)∈fp.w→s.get sp k=p.get sp k)(h3:fp.all=true→s.sh=p.sh):
  ∃N,bp E call n D s=some N∧aeI D fp s N U:=by
 have V:=SO h1
 have aGY:(im p.fr n D.d aU).map (fun fr=>({p with fr}:St))=some U→fp=fW→ ∃N,(im s.fr n D.d aU).map (fun fr=>({s with fr}:St))=some N∧aeI D fp s N U:=by
  intro hp hn
  subst hn
  simp only[Option.map_eq_some_iff]at hp
  obtain⟨g,W,rfl⟩:=hp
  obtain⟨g2,e1,e2⟩:=GD (fr2:=s.fr) W
  refine⟨{s with fr:=g2},by rw[e1];rfl,e2,fun sp k=>⟨fun hw=> ?_,fun _=>rfl⟩,⟨(fun I=>by cases I),fun _=>rfl⟩⟩
  rcases hw with hw|hw
  ·simp[fW]at hw
  ·cases hw.1
 have core:(match bD p.rho D.op with
       |some (some c)=>match br E call (D.d.getD 0) p c.1 c.2 with
        |some r=>(im p.fr n D.d r.1).map fun fr=>({r.2 with fr}:St)
        |none=>none
       |some none=>none
       |none=>match(bB (D.d.getD 0) p.rho D.op).run p.get p.sh.length with
        |some (.val v ups)=>(im p.fr n D.d v).map fun fr=>({p.ups ups with fr}:St)
        |none=>none)=some U→(match bD p.rho D.op with
       |some (some c)=>eN E call (D.d.getD 0) p c.1 c.2
       |some none=>none
       |none=>
        let q:=bB (D.d.getD 0) p.rho D.op
        match q.run p.get p.sh.length with
        |some (.val _ ups)=>if q.asks p.get p.sh.length||inB p ups then some (⟨q.asks p.get p.sh.length,q.log p.get p.sh.length,cW ups⟩:FP)else none
        |none=>none)=some fp→
   ∃N,(match bD s.rho D.op with
    |some (some c)=>match br E call (D.d.getD 0) s c.1 c.2 with
     |some r=>(im s.fr n D.d r.1).map fun fr=>({r.2 with fr}:St)
     |none=>none
    |some none=>none
    |none=>match(bB (D.d.getD 0) s.rho D.op).run s.get s.sh.length with
     |some (.val v ups)=>(im s.fr n D.d v).map fun fr=>({s.ups ups with fr}:St)
     |none=>none)=some N∧aeI D fp s N U:=by
  intro Ad F
  rw[GB D.op V]
  split at Ad
  ·rename_i c hc
   obtain⟨f,args⟩:=c
   rw[hc]at F
   simp only[hc]at F ⊢
   split at Ad
   ·rename_i r H
    obtain⟨r,p2⟩:=r
    simp only[Option.map_eq_some_iff]at Ad
    obtain⟨g,W,rfl⟩:=Ad
    obtain⟨g2,e1,e2⟩:=GD (fr2:=s.fr) W
    suffices hs: ∃s2,br E call (D.d.getD 0) s f args=some (r,s2)∧(∀sp k,(wrote fp sp k→s2.get sp k=p2.get sp k)∧(¬wrote fp sp k→s2.get sp k=s.get sp k))∧(fp.all=true→s2.sh.length=p2.sh.length)∧(fp.all=false→s2.sh.length=s.sh.length)by
     obtain⟨s2,d1,d2,d3⟩:=hs
     refine⟨{s2 with fr:=g2},by rw[d1];simp[e1],e2,d2,d3⟩
    unfold eN at F
    unfold br at H ⊢
    split at H
    ·rename_i af Av
     simp only[Av]at F ⊢
     cases J:(bo (fz af.eff aJ) args).run p.get p.sh.length with
     |none=>simp[J]at H
     |some q=>
      obtain⟨ts,us⟩:=q
      simp only[J]at H F
      split at F
      ·cases F
      ·rename_i SP
       simp at SP
       have BJ: ∀κ∈(bo (fz af.eff aJ) args).log p.get p.sh.length,κ∈fp.r:=by
        grind
       have X:(bo (fz af.eff aJ) args).run s.get s.sh.length=some (ts,us):=by
        rw[←J]
        refine Q.run_congr _ (fun κ hk=>h2 _ _ (.inl (BJ κ hk))) (fun I=> ?_)
        rw[iW _ _ _ (fun t=>PD _ _ _ _ t)]at I;cases I
       rw[X]
       simp only
       split at H
       ·rename_i py
        simp only[py,if_true]at F ⊢
        simp at F;subst F
        simp only[Option.map_eq_some_iff]at H
        obtain⟨⟨r',aR⟩,aC,H⟩:=H
        simp at H;obtain⟨rfl,rfl⟩:=H
        have Y:=h3 rfl
        have aGZ:=M5 s p Y us
        refine⟨{s.ups us with sh:=aR},by rw[aGZ,aC];rfl,fun sp k=> ?_,fun _=>rfl,(fun I=>by cases I)⟩
        cases sp with
        |S=>exact⟨fun _=>rfl,fun hw=>absurd (.inr ⟨rfl,rfl⟩) hw⟩
        |L=>
         have:=Aw s p us .L k
         refine⟨fun hw=> ?_,fun hw=> ?_⟩
         ·rcases hw with hw|hw
          ·rw[if_pos hw]at this;exact this
          ·cases hw.2
         ·rw[if_neg (fun e=>hw (.inl e))]at this;exact this
       ·rename_i py
        simp only[py,Bool.false_eq_true,if_false]at F ⊢
        split at H
        ·rename_i r0 aC
         simp only[aC]at F ⊢
         cases O:af.own with
         |some j=>
          simp only[O]at F H ⊢
          simp at F;subst F
          obtain⟨s2,g1,g2,g3⟩:=aeJ (s:=s) H (fun sp k hk=>h2 sp k (.inr hk)) (GC s us (M6 SP (fun sp k hk=>h2 sp k (.inr (List.mem_cons_of_mem _ hk)))))
          refine⟨s2,g1,fun sp k=>⟨fun hw=> ?_,fun hw=>(g2 sp k).2 (fun e=>hw (.inl e))⟩,(fun I=>by cases I),fun _=>g3⟩
          rcases hw with hw|hw
          ·exact(g2 sp k).1 hw
          ·cases hw.1
         |none=>
         simp only[O]at F H ⊢
         simp at F;subst F
         simp at H;obtain⟨rfl,rfl⟩:=H
         by_cases fw:scalar r0.1=true
         ·simp only[fw,if_true]
          refine⟨s,rfl,fun sp k=>⟨fun hw=> ?_,fun _=>rfl⟩,(fun I=>by cases I),fun _=>rfl⟩
          rcases hw with hw|hw
          ·simp at hw
          ·cases hw.1
         ·simp only[fw,Bool.false_eq_true,if_false]
          refine⟨s.ups us,rfl,fun sp k=> ?_,(fun I=>by cases I),fun _=> ?_⟩
          ·have:=Aw s p us sp k
           refine⟨fun hw=> ?_,fun hw=> ?_⟩
           ·rcases hw with hw|hw
            ·rw[if_pos hw]at this;exact this
            ·cases hw.1
           ·rw[if_neg (fun e=>hw (.inl e))]at this;exact this
          ·exact GC s us (M6 SP (fun sp k hk=>h2 sp k (.inr (by simpa[fw]using hk))))
        ·cases H
    ·rename_i g' Av JS
     simp only[Av,JS]at F ⊢
     simp at F;subst F
     cases J:(bo (fz false aJ) args).run p.get p.sh.length with
     |none=>simp[J]at H
     |some q=>
      simp only[J]at H
      have X:(bo (fz false aJ) args).run s.get s.sh.length=some q:=by
       rw[←J]
       refine Q.run_congr _ (fun κ hk=>h2 _ _ (.inl hk)) (fun I=> ?_)
       rw[iW _ _ _ (fun t=>PD _ _ _ _ t)]at I;cases I
      rw[X]
      simp only[Option.map_eq_some_iff]at H ⊢
      obtain⟨r',hg',H⟩:=H
      simp at H;obtain⟨rfl,rfl⟩:=H
      refine⟨s,⟨r',hg',rfl⟩,fun sp k=>⟨fun hw=> ?_,fun _=>rfl⟩,(fun I=>by cases I),fun _=>rfl⟩
      rcases hw with hw|hw
      ·simp at hw
      ·cases hw.1
    ·rename_i Av JS
     simp only[Av,JS]at F
     cases F
   ·cases Ad
  ·cases Ad
  ·rename_i hc
   simp only[hc]at F ⊢
   rw[SN _ D.op V]
   split at Ad
   ·rename_i v ups J
    simp only[J]at F
    split at F
    ·rename_i SP
     simp at F;subst F
     simp only[Option.map_eq_some_iff]at Ad
     obtain⟨g,W,rfl⟩:=Ad
     obtain⟨g2,e1,e2⟩:=GD (fr2:=s.fr) W
     have X:(bB (D.d.getD 0) p.rho D.op).run s.get s.sh.length=some (.val v ups):=by
      grind [Q.run_congr]
     rw[X]
     refine⟨{s.ups ups with fr:=g2},by simp[e1],e2,fun sp k=> ?_, ?_⟩
     ·have:=Aw s p ups sp k
      refine⟨fun hw=> ?_,fun hw=> ?_⟩
      ·by_cases hm:(sp,k)∈cW ups
       ·rw[if_pos hm]at this;exact this
       ·rcases hw with hw|hw
        ·exact absurd hw hm
        ·obtain⟨Z,rfl⟩:=hw
         have Y:=M5 s p (h3 Z) ups
         show aI (s.ups ups).sh k=aI (p.ups ups).sh k
         rw[Y]
      ·rw[if_neg (fun e=>hw (.inl e))]at this;exact this
     ·refine⟨fun Z=> ?_,fun Z=> ?_⟩
      ·have Y:=M5 s p (h3 Z) ups
       show(s.ups ups).sh.length=(p.ups ups).sh.length
       rw[Y]
      ·rw[show(bB (D.d.getD 0) p.rho D.op).asks p.get p.sh.length=false from Z,Bool.false_or]at SP
       exact GC s ups (M6 SP (fun sp k hk=>h2 sp k (.inr hk)))
    ·cases F
   ·cases Ad
 unfold bp at he ⊢
 unfold bU at dr
 cases hgd:D.gd with
 |none=>
  grind
 |some g=>
  obtain⟨j,want⟩:=g
  simp only[hgd]at he dr ⊢
  grind [looks]
end Go.Ev
namespace Go.Ev
open Go
theorem J2(r:List Nat): ∀(ps:List Nat) (D i:Nat),(ps.foldl (fun m p=>m ||| 2 ^ p ||| aH 0 r p) D).testBit i=true↔D.testBit i=true∨ ∃p∈ps,p=i∨(aH 0 r p).testBit i=true
 | [],D,i=>by simp
 |p::ps,D,i=>by
  simp only[List.foldl_cons]
  rw[J2 r ps]
  grind
theorem M7(r ps:List Nat)(i:Nat):(Gq r ps).testBit i=true↔ ∃p∈ps,p=i∨(aH 0 r p).testBit i=true:=by
 unfold Gq;rw[J2];simp
theorem kE{α:Type}(d:α): ∀(l r:List α) (k:Nat),k<l.length→aH d (l++r) k=aH d l k
 | [],r,k,h=>by simp at h
 |x::xs,r,0,h=>rfl
 |x::xs,r,k+1,h=>by simp_all[List.cons_append,aH,kE]
theorem sv{α:Type}(d:α): ∀(l:List α) (x:α),aH d (l++ [x]) l.length=x
 | [],x=>rfl
 |y::r,x=>by simp_all[List.cons_append,List.length_cons,aH,sv]
theorem B7: ∀(nL:List (List Nat)) (r:List Nat),(l9 nL r).length=r.length+nL.length∧(∀k,k<r.length→aH 0 (l9 nL r) k=aH 0 r k)∧
  ∀j ps,nL[j]? =some ps→ ∀i,(aH 0 (l9 nL r) (r.length+j)).testBit i=true↔ ∃p∈ps,p=i∨((if p<r.length+j then aH 0 (l9 nL r) p else 0).testBit i=true)
 | [],r=>by simp[l9]
 |ps::nL,r=>by
  obtain⟨h1,h2,h3⟩:=B7 nL (r++ [Gq r ps])
  simp only[l9]
  refine⟨by rw[h1];simp;omega,fun k hk=> ?_,fun j F D i=> ?_⟩
  ·grind [kE]
  ·cases j with
   |zero=>
    simp at D;subst D
    rw[Nat.add_zero,h2 r.length yv,sv,M7]
    constructor
    ·rintro⟨p,H,e⟩
     refine⟨p,H,e.imp id fun e=> ?_⟩
     by_cases I:p<r.length
     ·grind [kE]
     ·exfalso
      have: ∀(l:List Nat) (k:Nat),l.length≤k→aH 0 l k=0:=by
       intro l
       induction l with
       |nil=>intro k _;rfl
       |cons x xs ih=>intro k hk;cases k with|zero=>simp at hk|succ k=>exact ih k (by simpa using hk)
      grind
    grind [kE]
   |succ j=>
    have:=h3 j F (by simpa using D) i
    grind
theorem we: ∀(nL:List (List Nat)) (r:Nat),vw r nL=true→ ∀j ps,nL[j]? =some ps→ ∀p∈ps,p<r+j
 | [],r,h,j,ps,D,p,F=>by simp at D
 |q::nL,r,h,j,ps,D,p,F=>by
  simp only[vw,Bool.and_eq_true,List.all_eq_true]at h
  cases j with
  |zero=>grind
  |succ j=>
   have:=we nL (r+1) h.2 j ps (by simpa using D) p F
   omega
def B8{m:Nat}{as:List aG}{k:Nat}{a:aG}:(k,a)∈BI m as↔as[k]? =some a∧m.testBit k=false:=by
 unfold BI
 rw[List.mem_filter,List.mem_map]
 constructor
 ·grind
 ·rintro⟨h1,h2⟩
  exact⟨⟨(a,k),List.mem_zipIdx_iff_getElem?.2 h1,rfl⟩,by simpa using h2⟩
theorem wg: ∀(F D:List aG) (N:List Nat),vz N D F=true→ ∀j a,F[j]? =some a→ ∀m,N[j]? =some m→ ∀k H,k<D.length+j→(D++F)[k]? =some H→m.testBit k=false→fY H a=true
 | [],D,N,h,j,a,I,m,J,k,H,hk,O,U=>by simp at I
 |r::F,D,[],h,j,a,I,m,J,k,H,hk,O,U=>by simp at J
 |r::F,D,V::N,h,j,a,I,m,J,k,H,hk,O,U=>by
  simp only[vz,Bool.and_eq_true,List.all_eq_true]at h
  cases j with
  |zero=>
   simp at I J;subst I;subst J
   have:D[k]? =some H:=by rw[List.getElem?_append_left zV]at O;exact O
   exact h.1 (k,H) (B8.2 ⟨this,U⟩)
  |succ j=>
   exact wg F (D++ [r]) N h.2 j a (by simpa using I) m (by simpa using J) k H (by simp;omega) (by simpa using O) U
variable{E:Env}{call:ku}{n:Nat}
theorem B9: ∀(F D:List aG) (I:List Nat) (bu:List FP) (st H:St),bu.length=D.length→I.length=F.length→aK E call n (oi I D F) bu st=some H→
  ∃(pre:Nat→St) (fp:Nat→FP),pre 0=st∧pre F.length=H∧ ∀j a m,F[j]? =some a→I[j]? =some m→bp E call n a (pre j)=some (pre (j+1))∧bU E call a (pre j)=some (fp j)∧
   ∀k J,k<D.length+j→(D++F)[k]? =some J→m.testBit k=false→quiet a.op=false→quiet J.op=false→apart (if k<D.length then aH ⟨true,[],[]⟩ bu k else fp (k-D.length)) (fp j)=true
 | [],D,I,bu,st,H,Y,V,h=>by
   cases I with
   |cons _ _=>simp at V
   |nil=>simp[oi,aK]at h;subst h;exact⟨fun _=>st,fun _=>fW,rfl,rfl,by simp⟩
 |r::F,D,[],bu,st,H,Y,V,h=>by simp at V
 |r::F,D,m0::I,bu,st,H,Y,V,h=>by
  simp only[oi,aK]at h
  cases hf:bU E call r st with
  |none=>simp[hf]at h
  |some W=>
   simp only[hf]at h
   generalize hu:(if quiet r.op=true then []else((BI m0 D).filter fun p=> !quiet p.2.op).map (·.1))=uno at h
   split at h
   ·rename_i bw
    cases he:bp E call n r st with
    |none=>simp[he]at h
    |some fe=>
     simp only[he]at h
     obtain⟨pre,fp,p1,p2,p3⟩:=B9 F (D++ [r]) I (bu++ [W]) fe H (by simp[Y]) (by simpa using V) h
     refine⟨fun j=>match j with|0=>st|j+1=>pre j,fun j=>match j with|0=>W|j+1=>fp j,rfl,p2,fun j a m hj N=> ?_⟩
     cases j with
     |zero=>
      simp at hj N;subst hj;subst N
      refine⟨by simp only;rw[he,p1],hf,fun k J hk Z hb O U=> ?_⟩
      have X:k<D.length:=zV
      rw[if_pos X]
      have ha':D[k]? =some J:=by rw[List.getElem?_append_left X]at Z;exact Z
      rw[List.all_eq_true]at bw
      refine bw k ?_
      rw[←hu,if_neg (by rw[O];simp)]
      exact List.mem_map.2 ⟨(k,J),List.mem_filter.2 ⟨B8.2 ⟨ha',hb⟩,by simp[U]⟩,rfl⟩
     |succ j=>
      obtain⟨e1,e2,e3⟩:=p3 j a m (by simpa using hj) (by simpa using N)
      refine⟨e1,e2,fun k J hk Z hb O U=> ?_⟩
      have:=e3 k J (by simp;omega) (by simpa using Z) hb O U
      by_cases h1:k<D.length
      ·grind [kE]
      ·rw[if_neg h1]
       by_cases h2:k=D.length
       ·subst h2
        rw[if_pos yv,←Y,sv]at this
        simpa using this
       ·rw[if_neg (by simp;omega)]at this
        obtain⟨x,hx⟩: ∃x,k-D.length=x+1:=⟨k-D.length-1,by omega⟩
        rw[hx]
        simp only
        have hx2:k-(D++ [r]).length=x:=by simp;omega
        rw[hx2]at this
        exact this
   ·cases h
def J3{a:aG}{p:St}{fp:FP}(I:quiet a.op=true)(h:bU E call a p=some fp):fp.all=false∧fp.r= []∧fp.w= []:=by
 obtain⟨J,N,O,U⟩:=X9 (ρ:=p.rho) I (a.d.getD 0) p.get p.sh.length
 have H:(match bD p.rho a.op with
       |some (some c)=>eN E call (a.d.getD 0) p c.1 c.2
       |some none=>none
       |none=>
        let q:=bB (a.d.getD 0) p.rho a.op
        match q.run p.get p.sh.length with
        |some (.val _ D)=>if q.asks p.get p.sh.length||inB p D then some (⟨q.asks p.get p.sh.length,q.log p.get p.sh.length,cW D⟩:FP)else none
        |none=>none)=some fp→fp.all=false∧fp.r= []∧fp.w= []:=by
  intro F
  rw[J]at F
  simp only at F
  split at F
  ·rename_i v D hr
   have:=U v D hr;subst this
   split at F
   ·simp at F;subst F;exact⟨O,N,rfl⟩
   ·cases F
  ·cases F
 unfold bU at h
 cases V:a.gd with
 |none=>grind
 |some g=>
  simp only[V]at h
  split at h
  ·split at h
   ·exact H h
   ·simp at h;subst h;exact⟨rfl,rfl,rfl⟩
  ·simp at h;subst h;exact⟨rfl,rfl,rfl⟩
theorem Ya: ∀(a b:List ah),(∀k,aI a k=aI b k)→a.length=b.length→a=b
 | [],[],_,_=>rfl
 | [],y::r,_,h=>by simp at h
 |x::xs,[],_,h=>by simp at h
 |x::xs,y::r,h,D=>by
  have h0:x=y:=h 0
  rw[h0,Ya xs r (fun k=>h (k+1)) (by simpa using D)]
end Go.Ev
namespace Go.Ev
open Go
variable{E:Env}{call:ku}{n:Nat}
structure j5 (E:Env) (call:ku) (n:Nat) (as:List aG) (nL:List (List Nat)) (bit:Nat→Nat→Bool) (pre:Nat→St) (fp:Nat→FP):Prop where
 len:nL.length=as.length
 edges: ∀(j:Nat) (ps:List Nat),nL[j]? =some ps→ ∀p∈ps,p<j
 bits: ∀(j:Nat) (ps:List Nat),nL[j]? =some ps→ ∀i,bit j i=true↔ ∃p∈ps,p=i∨bit p i=true
 run: ∀(j:Nat) (a:aG),as[j]? =some a→bp E call n a (pre j)=some (pre (j+1))∧bU E call a (pre j)=some (fp j)
 slots: ∀(j:Nat) (a:aG) (k:Nat) (a':aG),as[j]? =some a→as[k]? =some a'→k<j→bit j k=false→fY a' a=true
 apart: ∀(j:Nat) (a:aG) (k:Nat) (a':aG),as[j]? =some a→as[k]? =some a'→k<j→bit j k=false→quiet a.op=false→quiet a'.op=false→Ev.apart (fp k) (fp j)=true
variable{as:List aG}{nL:List (List Nat)}{bit:Nat→Nat→Bool}{pre:Nat→St}{fp:Nat→FP}
def Ca(nL:List (List Nat))(L:Nat→Prop):Prop:= ∀(j:Nat) (ps:List Nat),nL[j]? =some ps→L j→ ∀p∈ps,L p
def zG(R:j5 E call n as nL bit pre fp){L:Nat→Prop}(hc:Ca nL L): ∀(j:Nat) (ps:List Nat),nL[j]? =some ps→(∀p∈ps,L p)→ ∀i,bit j i=true→L i:=by
 intro j
 induction j using Nat.strongRecOn with
 |_ j ih=>
  intro ps D H i J
  obtain⟨p,h1,h2⟩:=(R.bits j ps D i).1 J
  rcases h2 with rfl|h2
  ·exact H p h1
  ·have r:=R.edges j ps D p h1
   have F:p<nL.length:=Nat.lt_trans r (List.getElem?_eq_some_iff.1 D).1
   have I:nL[p]? =some nL[p]:=List.getElem?_eq_getElem F
   exact ih p r _ I (hc p _ I (H p h1)) i h2
theorem qX(R:j5 E call n as nL bit pre fp){L:Nat→Prop}(hc:Ca nL L){i j:Nat}(hi:i<as.length)(H:j<as.length)(D: ¬L i)(F: ∀ps,nL[i]? =some ps→ ∀p∈ps,L p)(I:i=j∨(j<i∧bit i j=true)∨(i<j∧bit j i=true)):L j↔j<i:=by
 rcases I with rfl|⟨h1,h2⟩|⟨h1,h2⟩
 ·grind
 ·refine⟨fun _=>h1,fun _=> ?_⟩
  have J:i<nL.length:=by rw[R.len];exact hi
  have r:nL[i]? =some nL[i]:=List.getElem?_eq_getElem J
  exact zG R hc i _ r (F _ r) j h2
 ·refine⟨fun N=>absurd ?_ D,fun h=>by omega⟩
  have DY:j<nL.length:=by rw[R.len];exact H
  have r:nL[j]? =some nL[j]:=List.getElem?_eq_getElem DY
  exact zG R hc j _ r (hc j _ r N) i h2
structure Inv (as:List aG) (pre:Nat→St) (fp:Nat→FP) (L:Nat→Prop) (s:St):Prop where
 slot: ∀t i,i≤as.length→(∀(j:Nat) (a:aG),as[j]? =some a→a.d=some t→(L j↔j<i))→aa s.fr t=aa (pre i).fr t
 key: ∀sp k i,i≤as.length→(∀j,j<as.length→wrote (fp j) sp k→(L j↔j<i))→s.get sp k=(pre i).get sp k
 len: ∀i,i≤as.length→(∀j,j<as.length→(fp j).all=true→(L j↔j<i))→s.sh.length=(pre i).sh.length
def Cb(R:j5 E call n as nL bit pre fp){j:Nat}{a:aG}(r:as[j]? =some a):aeI a (fp j) (pre j) (pre (j+1)) (pre (j+1)):=by
 obtain⟨h1,h2⟩:=R.run j a r
 obtain⟨D,e1,e2⟩:=J1 (s:=pre j) h1 h2 (fun _ _=>rfl) (fun _ _ _=>rfl) (fun _=>rfl)
 grind
theorem J4(R:j5 E call n as nL bit pre fp)(t i:Nat): ∀r,i≤r→r≤as.length→(∀(j:Nat) (a:aG),as[j]? =some a→i≤j→j<r→a.d≠some t)→aa (pre r).fr t=aa (pre i).fr t:=by
 intro r h1
 induction r with
 |zero=>grind
 |succ m ih=>
  intro h2 h3
  by_cases D:i=m+1
  ·subst D;rfl
  ·have PF:m<as.length:=zV
   have F:as[m]? =some as[m]:=List.getElem?_eq_getElem PF
   have H:=(Cb R F).slot t
   grind
theorem PG(R:j5 E call n as nL bit pre fp)(sp:Sp)(k i:Nat): ∀r,i≤r→r≤as.length→(∀j,i≤j→j<r→ ¬wrote (fp j) sp k)→(pre r).get sp k=(pre i).get sp k:=by
 intro r h1
 induction r with
 |zero=>grind
 |succ m ih=>
  intro h2 h3
  by_cases D:i=m+1
  ·subst D;rfl
  ·have PF:m<as.length:=zV
   have F:as[m]? =some as[m]:=List.getElem?_eq_getElem PF
   have H:=((Cb R F).key sp k).2 (h3 m zV zV)
   grind
theorem PH(R:j5 E call n as nL bit pre fp)(i:Nat): ∀r,i≤r→r≤as.length→(∀j,i≤j→j<r→(fp j).all=false)→(pre r).sh.length=(pre i).sh.length:=by
 intro r h1
 induction r with
 |zero=>grind
 |succ m ih=>
  intro h2 h3
  by_cases D:i=m+1
  ·subst D;rfl
  ·have PF:m<as.length:=zV
   have F:as[m]? =some as[m]:=List.getElem?_eq_getElem PF
   have H:=(Cb R F).len.2 (h3 m zV zV)
   grind
def either(R:j5 E call n as nL bit pre fp){i j:Nat}{a r:aG}(hi:as[i]? =some a)(F:as[j]? =some r)(H:i≠j):
  ((j<i∧bit i j=true)∨(i<j∧bit j i=true))∨((fY a r=true∨fY r a=true)∧(quiet a.op=true∨quiet r.op=true∨Ev.apart (fp i) (fp j)=true∨Ev.apart (fp j) (fp i)=true)):=by
 rcases Nat.lt_or_gt_of_ne H with h|h
 ·cases D:bit j i with
  |true=>grind
  |false=>
   refine .inr ⟨.inl (R.slots j r i a F hi h D), ?_⟩
   cases h1:quiet a.op
   ·cases h2:quiet r.op
    ·exact .inr (.inr (.inl (R.apart j r i a F hi h D h2 h1)))
    ·grind
   ·exact .inl rfl
 ·cases D:bit i j with
  |true=>grind
  |false=>
   refine .inr ⟨.inr (R.slots i a j r hi F h D), ?_⟩
   cases h1:quiet a.op
   ·cases h2:quiet r.op
    ·exact .inr (.inr (.inr (R.apart i a j r hi F h D h1 h2)))
    ·grind
   ·exact .inl rfl
theorem DZ{x y:aG}(h:fY x y=true∨fY y x=true){t:Nat}:(x.d=some t→t∉looks y∧y.d≠some t):=by
 grind [fY]
def sw{xs r:List (Sp×Nat)}(h:eM xs r=true){κ:Sp×Nat}(h1:κ∈xs)(h2:κ∈r):False:=by
 grind [eM]
theorem yn{xs:List (Sp×Nat)}(h:Iu xs=true){k:Nat}(h1:(Sp.S,k)∈xs):False:=by
 grind [Iu]
def Yb{x y:FP}(h:Ev.apart x y=true∨Ev.apart y x=true){sp:Sp}{k:Nat}(D:wrote y sp k):(sp,k)∉x.r∧(sp,k)∉x.w∧ ¬(x.all=true∧sp= .S):=by
 rcases h with h|h <;> unfold Ev.apart at h <;> simp only[Bool.and_eq_true,Bool.or_eq_true,Bool.not_eq_true']at h <;> obtain⟨⟨⟨⟨a1,a2⟩,F⟩,a4⟩,a5⟩:=h
 ·rcases D with D|⟨D,rfl⟩
  ·refine⟨fun e=>sw F e D,fun e=>sw a2 e D,fun e=> ?_⟩
   grind [yn]
  ·rcases a5 with a5|a5
   ·grind
   ·refine⟨fun e=>yn a5.1 e,fun e=>yn a5.2 e,fun e=> ?_⟩
    grind
 ·rcases D with D|⟨D,rfl⟩
  ·refine⟨fun e=>sw a1 D e,fun e=>sw a2 D e,fun e=> ?_⟩
   grind [yn]
  ·rcases a4 with a4|a4
   ·grind
   ·refine⟨fun e=>yn a4.1.2 e,fun e=>yn a4.2 e,fun e=> ?_⟩
    grind
def Yc(R:j5 E call n as nL bit pre fp){L:Nat→Prop}(hc:Ca nL L){s:St}(I:Inv as pre fp L s){i:Nat}{a:aG}(hi:as[i]? =some a)(hni: ¬L i)(hpi: ∀ps,nL[i]? =some ps→ ∀p∈ps,L p):
  ∃s',bp E call n a s=some s'∧Inv as pre fp (fun j=>L j∨j=i) s':=by
 have Y:i<as.length:=(List.getElem?_eq_some_iff.1 hi).1
 obtain⟨r1,r2⟩:=R.run i a hi
 have PI: ∀t,(t∈looks a∨a.d=some t)→ ∀(j:Nat) (V:aG),as[j]? =some V→V.d=some t→(L j↔j<i):=by
  intro t ht j V F Z
  have DY:=(List.getElem?_eq_some_iff.1 F).1
  by_cases X:i=j
  ·subst X;exact qX R hc Y DY hni hpi (.inl rfl)
  ·rcases either R hi F X with h|⟨h,_⟩
   ·grind [qX]
   grind [DZ]
 have GF: ∀sp k,((sp,k)∈(fp i).r∨(sp,k)∈(fp i).w∨((fp i).all=true∧sp= .S))→ ∀j,j<as.length→wrote (fp j) sp k→(L j↔j<i):=by
  intro sp k ht j DY hw
  have F:as[j]? =some as[j]:=List.getElem?_eq_getElem DY
  by_cases X:i=j
  ·grind
  ·rcases either R hi F X with h|⟨_,h⟩
   ·grind [qX]
   ·exfalso
    rcases h with h|h|h
    ·obtain⟨q1,q2,q3⟩:=J3 h r2
     rcases ht with ht|ht|ht
     ·rw[q2]at ht;simp at ht
     ·rw[q3]at ht;simp at ht
     ·rw[q1]at ht;cases ht.1
    ·obtain⟨q1,q2,q3⟩:=J3 h (R.run j _ F).2
     rcases hw with hw|hw
     ·rw[q3]at hw;simp at hw
     ·rw[q1]at hw;cases hw.1
    ·obtain⟨z1,z2,z3⟩:=Yb h hw
     rcases ht with ht|ht|ht
     ·exact z1 ht
     ·exact z2 ht
     ·exact z3 ht
 have Yd:(fp i).all=true→ ∀j,j<as.length→(fp j).all=true→(L j↔j<i):=by
  intro W j DY D
  exact GF .S 0 (.inr (.inr ⟨W,rfl⟩)) j DY (.inr ⟨D,rfl⟩)
 obtain⟨s',e1,e2⟩:=J1 (s:=s) r1 r2 (fun t ht=>I.slot t i (Nat.le_of_lt Y) (fun j V F Z=>PI t (.inl ht) j V F Z))
  (fun sp k ht=>I.key sp k i (Nat.le_of_lt Y) (fun j DY hw=>GF sp k (ht.elim .inl fun h=> .inr (.inl h)) j DY hw))
  (fun W=>Ya _ _ (fun k=>I.key .S k i (Nat.le_of_lt Y) (fun j DY hw=>GF .S k (.inr (.inr ⟨W,rfl⟩)) j DY hw)) (I.len i (Nat.le_of_lt Y) (Yd W)))
 refine⟨s',e1,fun t H DT J=> ?_,fun sp k H DT J=> ?_,fun H DT J=> ?_⟩
 ·rw[e2.slot t]
  split
  ·rename_i Z
   have N:i<H:=(J i a hi Z).1 (.inr rfl)
   rw[J4 R t (i+1) H N DT]
   intro j V F h1 h2 Ye
   have hL:=(J j V F Ye).2 h2
   have:=PI t (.inr Z) j V F Ye
   rcases hL with hL|hL
   ·have:=this.1 hL;omega
   ·omega
  ·rename_i Z
   exact I.slot t H DT (fun j V F Ye=>by
    have:=J j V F Ye
    constructor
    ·exact fun hL=>this.1 (.inl hL)
    ·intro O
     rcases this.2 O with hL|hL
     ·exact hL
     ·subst hL;rw[hi]at F;simp at F;subst F;exact absurd Ye Z)
 ·by_cases hw:wrote (fp i) sp k
  ·have N:i<H:=(J i Y hw).1 (.inr rfl)
   rw[(e2.key sp k).1 hw,PG R sp k (i+1) H N DT]
   intro j h1 h2 U
   have DY:j<as.length:=zV
   have hL:=(J j DY U).2 h2
   have:=GF sp k (hw.elim (fun e=> .inr (.inl e)) fun e=> .inr (.inr e)) j DY U
   rcases hL with hL|hL
   ·have:=this.1 hL;omega
   ·omega
  ·rw[(e2.key sp k).2 hw]
   exact I.key sp k H DT (fun j DY U=>by
    have:=J j DY U
    constructor
    ·exact fun hL=>this.1 (.inl hL)
    ·intro O
     rcases this.2 O with hL|hL
     ·exact hL
     ·subst hL;exact absurd U hw)
 ·cases W:(fp i).all with
  |true=>
   have N:i<H:=(J i Y W).1 (.inr rfl)
   rw[e2.len.1 W,PH R (i+1) H N DT]
   intro j h1 h2
   cases D:(fp j).all with
   |false=>rfl
   |true=>
    have DY:j<as.length:=zV
    have hL:=(J j DY D).2 h2
    have:=Yd W j DY D
    rcases hL with hL|hL
    ·have:=this.1 hL;omega
    ·omega
  |false=>
   rw[e2.len.2 W]
   exact I.len H DT (fun j DY D=>by
    have:=J j DY D
    constructor
    ·exact fun hL=>this.1 (.inl hL)
    ·intro O
     rcases this.2 O with hL|hL
     ·exact hL
     ·subst hL;rw[W]at D;cases D)
end Go.Ev
namespace Go.Ev
open Go
section
variable{P:Program}{E:Env}{call:ku}{n:Nat}{hs:List Nat}{ops:Array Oper}
theorem j6: ∀{r:List Oper} {as:List aG},dF P hs ops r=some as→as.length=r.length∧ ∀(j:Nat) (o:Oper),r[j]? =some o→ ∃a,as[j]? =some a∧qP P hs ops o=some a
 | [],as,h=>by grind [dF]
 |o::r,as,h=>by
  simp only[dF]at h
  split at h
  ·rename_i a D h1 h2
   simp at h;subst h
   obtain⟨e1,e2⟩:=j6 h2
   grind
  ·cases h
theorem Yf(O:qg P E)(U:vY P E call){Q:Exit→Act→World→Prop}: ∀(k i:Nat) (as:List aG),i+k=ops.size→dF P hs ops (ops.toList.drop i)=some as→
  ∀{B:eZ} {st D:St} {a:Act} {w:World} {β:aQ} {M:MSet},bh B st w β M→jk st a w β M n→aj E call n as st=some D→
  (∀H w' F M',bh B D w' F M'→jk D H w' F M' n→Tr st w β M D w' F M'→w.heap.size≤w'.heap.size→Q .normal H w')→wpOps P ops Q (List.range' i k) a w
 |0,i,as,Py,hc,B,st,D,a,w,β,M,h,I,r,J=>by
  have W:ops.toList.drop i= []:=List.drop_eq_nil_of_le (by simp;omega)
  rw[W]at hc
  simp[dF]at hc;subst hc
  simp[aj]at r;subst r
  simp only[List.range',wpOps]
  exact J a w β M h I (Tr.refl _ _ _ _) (Nat.le_refl _)
 |k+1,i,as,Py,hc,B,st,D,a,w,β,M,h,I,r,J=>by
  have hi:i<ops.toList.length:=by simp;omega
  rw[List.drop_eq_getElem_cons hi]at hc
  simp only[dF]at hc
  split at hc
  ·rename_i ao N h1 h2
   simp at hc;subst hc
   simp only[aj]at r
   split at r
   ·rename_i fe DR
    rw[List.range'_succ,wpOps_cons]
    refine mV O U (o:=ops.toList[i]) (by simp at hi ⊢) h1 h I DR ?_
    intro H w' F M' X Y Z V
    exact Yf O U k (i+1) N zV h2 X Y r (fun a2 w2 Yg M2 s1 s2 s3 s4=>J a2 w2 Yg M2 s1 s2 (Z.trans s3 V) (Nat.le_trans V s4))
   ·cases r
  ·cases hc
def alb{B:eZ}{s F:St}{w:World}{β:aQ}{M:MSet}(r: ∀sp k,F.get sp k=s.get sp k)(h:bh B s w β M):bh B F w β M:=by
 have D0:F.gens=s.gens:=by funext sp k;show(F.get sp k).g=_;rw[r]
 refine⟨fun sp k=>by rw[r,D0];exact h.obj sp k,fun sp k J k' H I e=> ?_,h.mlt,fun k D=> ?_,fun k D=> ?_,h.os,h.tape,h.output,h.size,h.same,h.keep,h.msup⟩
 ·rw[r]at H I;rw[D0]at e;exact h.dist sp k J k' H I e
 ·rw[r]at D;rw[D0];exact h.lblk k D
 ·rw[r]at D;rw[D0];exact h.sblk k D
def alc{s r:St}{a:Act}{w:World}{β:aQ}{M:MSet}(D: ∀sp k,r.get sp k=s.get sp k)(F: ∀t,aa r.fr t=aa s.fr t)(h:jk s a w β M n):jk r a w β M n:=by
 have D0:r.gens=s.gens:=by funext sp k;show(r.get sp k).g=_;rw[D]
 exact⟨h.size,h.defers,fun t=>by rw[D0,F];exact h.slot t⟩
def Yh{st s r:St}{w w':World}{β ba:aQ}{M M':MSet}(D: ∀sp k,r.get sp k=s.get sp k)(h:Tr st w β M s w' ba M'):Tr st w β M r w' ba M':=by
 have D0:r.gens=s.gens:=by funext sp k;show(r.get sp k).g=_;rw[D]
 exact⟨h.keep,h.beta,by rw[D0];exact h.gens⟩
def anU(hE:qg P E)(hO:vY P E call){Q:Exit→Act→World→Prop}{as:List aG}{bit:Nat→Nat→Bool}{pre:Nat→St}{fp:Nat→FP}(hc:dF P hs ops ops.toList=some as)
  (R:j5 E call n as (ops.toList.map cz) bit pre fp) {B:eZ} {st:St} {w:World} {β:aQ} {M:MSet}:
  ∀(D:Nat) (r:Array Bool) (s:St) (a:Act) (F:World) (Iy:aQ) (M1:MSet),r.size=ops.size→((List.range ops.size).filter fun i=> !r.getD i true).length≤D→Ca (ops.toList.map cz) (fun j=>r.getD j false=true)→
   Inv as pre fp (fun j=>r.getD j false=true) s→bh B s F Iy M1→jk s a F Iy M1 n→Tr st w β M s F Iy M1→w.heap.size≤F.heap.size→
   (∀O w' N M',bh B (pre as.length) w' N M'→jk (pre as.length) O w' N M' n→Tr st w β M (pre as.length) w' N M'→w.heap.size≤w'.heap.size→Q .normal O w')→
   wpAny P .any ops Q D r a F:=by
 obtain⟨hlen,Cd⟩:=j6 hc
 have Yi:as.length=ops.size:=by simpa using hlen
 have done: ∀(r:Array Bool) (s:St) (a:Act) (F:World) (Iy:aQ) (M1:MSet),r.size=ops.size→Ca (ops.toList.map cz) (fun j=>r.getD j false=true)→Inv as pre fp (fun j=>r.getD j false=true) s→bh B s F Iy M1→jk s a F Iy M1 n→Tr st w β M s F Iy M1→w.heap.size≤F.heap.size→
   (∀O w' N M',bh B (pre as.length) w' N M'→jk (pre as.length) O w' N M' n→Tr st w β M (pre as.length) w' N M'→w.heap.size≤w'.heap.size→Q .normal O w')→Region.ready .any ops r= []→Q .normal a F:=by
  intro r s a F Iy M1 hls J I h W X H Y hr
  have all: ∀j,j<ops.size→r.getD j false=true:=by
   intro j
   induction j using Nat.strongRecOn with
   |_ j ih=>
    intro hj
    cases hb:r.getD j false with
    |true=>rfl
    |false=>
     exfalso
     have:j∈Region.ready .any ops r:=by
      unfold Region.ready
      rw[List.mem_filter]
      refine⟨List.mem_range.2 hj, ?_⟩
      have h1:r.getD j true=false:=by
       grind
      rw[h1]
      simp only[Bool.not_false,Bool.true_and]
      have Z:ops[j]? =some ops[j]:=Array.getElem?_eq_getElem hj
      rw[Z]
      simp only[Option.map_some,Option.getD_some]
      rw[←Array.all_toList,List.all_eq_true]
      intro e he
      cases sy:Region.binds .any e with
      |false=>rfl
      |true=>
       simp only[Bool.not_true,Bool.false_or]
       have aeL:e.on∈cz ops[j]:=by
        unfold cz
        exact List.mem_map.2 ⟨e,List.mem_filter.2 ⟨he,sy⟩,rfl⟩
       have hpj:(ops.toList.map cz)[j]? =some (cz ops[j]):=by simp[Z]
       have hlt:=R.edges j _ hpj e.on aeL
       exact ih e.on hlt zV
     grind
  have cond: ∀j,j<as.length→(r.getD j false=true↔j<as.length):=fun j hj=>⟨fun _=>hj,fun _=>all j zV⟩
  have g1: ∀sp k,(pre as.length).get sp k=s.get sp k:=fun sp k=>(I.key sp k as.length (Nat.le_refl _) (fun j hj _=>cond j hj)).symm
  have g2: ∀t,aa (pre as.length).fr t=aa s.fr t:=fun t=>(I.slot t as.length (Nat.le_refl _) (fun j a hj _=>cond j (List.getElem?_eq_some_iff.1 hj).1)).symm
  exact Y a F Iy M1 (alb g1 h) (alc g1 g2 W) (Yh g1 X) H
 intro D
 induction D with
 |zero=>
  intro r s a F Iy M1 hls aeM J I h W X H Y
  have hr:Region.ready .any ops r= []:=by
   simp_all[Region.ready,List.filter_eq_nil_iff,Bool.and_eq_true,List.eq_nil_of_length_eq_zero]
  exact⟨hr,done r s a F Iy M1 hls J I h W X H Y hr⟩
 |succ D ih=>
  intro r s a F Iy M1 hls aeM J I h W X H Y
  refine⟨done r s a F Iy M1 hls J I h W X H Y,fun i hi=> ?_⟩
  unfold Region.ready at hi
  rw[List.mem_filter]at hi
  obtain⟨hir,Ax⟩:=hi
  have mF:i<ops.size:=List.mem_range.1 hir
  have Z:ops[i]? =some ops[i]:=Array.getElem?_eq_getElem mF
  rw[Z]at Ax
  simp only[Bool.and_eq_true,Bool.not_eq_true',Option.map_some,Option.getD_some]at Ax
  obtain⟨D1,D2⟩:=Ax
  have U:i<r.size:=zV
  have MW: ¬(r.getD i false=true):=by
   simp[Array.getD_eq_getD_getElem?,Array.getElem?_eq_getElem U]at D1 ⊢; exact D1
  have aAi: ∀ps,(ops.toList.map cz)[i]? =some ps→ ∀p∈ps,r.getD p false=true:=by
   intro ps jF p hp
   simp[Z]at jF;subst jF
   unfold cz at hp
   obtain⟨e,he,rfl⟩:=List.mem_map.1 hp
   obtain⟨DR,he2⟩:=List.mem_filter.1 he
   rw[←Array.all_toList,List.all_eq_true]at D2
   have:=D2 e DR
   simpa[he2]using this
  obtain⟨ao,hao,iz⟩:=Cd i ops[i] yv
  obtain⟨s',he,I'⟩:=Yc R J I hao MW aAi
  refine mV hE hO Z iz h W he ?_
  intro O w' N M' r1 r2 r3 r4
  have JV: ∀j,(r.setIfInBounds i true).getD j false=true↔(r.getD j false=true∨j=i):=by
   intro j
   simp only[Array.getD_eq_getD_getElem?,Array.getElem?_setIfInBounds]
   by_cases hj:i=j
   ·subst hj;simp[U]
   ·rw[if_neg hj]
    exact⟨.inl,fun e=>e.resolve_right (fun e=>hj e.symm)⟩
  refine ih (r.setIfInBounds i true) s' O w' N M' (by simp[hls]) ?_ ?_ ?_ r1 r2 (X.trans r3 H) (Nat.le_trans H r4) Y
  ·have hfe:(List.range ops.size).filter (fun j=> !(r.setIfInBounds i true).getD j true)=((List.range ops.size).filter (fun j=> !r.getD j true)).filter (fun j=>decide (j≠i)):=by
    rw[List.filter_filter]
    apply List.filter_congr
    intro j hj
    simp only[Array.getD_eq_getD_getElem?,Array.getElem?_setIfInBounds]
    by_cases V:i=j
    ·subst V;simp[U]
    ·have: ¬j=i:=fun e=>V e.symm
     rw[if_neg V];simp[this]
   rw[hfe]
   have hlt:(((List.range ops.size).filter (fun j=> !r.getD j true)).filter (fun j=>decide (j≠i))).length<((List.range ops.size).filter (fun j=> !r.getD j true)).length:=by
    rw[List.length_filter_lt_length_iff_exists]
    exact⟨i,List.mem_filter.2 ⟨hir,by rw[D1];rfl⟩,by simp⟩
   omega
  ·intro j ps jF hj p hp
   rw[JV]at hj ⊢
   rcases hj with hj|hj
   ·exact .inl (J j ps jF hj p hp)
   ·subst hj;exact .inl (aAi ps jF p hp)
  ·have:(fun j=>(r.setIfInBounds i true).getD j false=true)=(fun j=>r.getD j false=true∨j=i):=by funext j;exact propext (JV j)
   rw[this];exact I'
end
end Go.Ev
namespace Go.Ev
open Go
def anW:Out→Exit
 | .nrm=> .normal
 | .ext id=> .exit id
 | .ret=> .ret
section
variable{P:Program}{E:Env}{call:ku}{n:Nat}{hs:List Nat}
def Yj{l:List Nat}{j:Nat}(h:j<l.length):l[j]? =some (aH 0 l j):=by
 induction l generalizing j with
 |nil=>simp at h
 |cons x xs ih=>
  cases j with
  |zero=>rfl
  |succ j=>grind [aH]
def Yk(hE:qg P E)(hO:vY P E call)(hm:P.follows .mixedOrders=true){id:Nat}{ops:Array Oper}{as:List aG}(hc:dF P hs ops ops.toList=some as)(DR:vw 0 (ops.toList.map cz)=true)(U:vz (l9 (ops.toList.map cz) []) [] as=true)
  {B:eZ} {st J:St} {a:Act} {w:World} {β:aQ} {M:MSet} (h:bh B st w β M) (V:jk st a w β M n) (W:aK E call n (oi (l9 (ops.toList.map cz) []) [] as) [] st=some J) {Q:Exit→Act→World→Prop}
  (hq: ∀I w' X M',bh B J w' X M'→jk J I w' X M' n→Tr st w β M J w' X M'→w.heap.size≤w'.heap.size→Q .normal I w'):(Code.region id ops true).wp P Q a w:=by
 obtain⟨F,Cd⟩:=j6 hc
 obtain⟨m1,m2,m3⟩:=B7 (ops.toList.map cz) []
 have PF:(l9 (ops.toList.map cz) []).length=as.length:=by rw[m1,F];simp
 obtain⟨pre,fp,Y,p2,p3⟩:=B9 as [] _ [] st J rfl PF W
 have H: ∀j,j<as.length→(l9 (ops.toList.map cz) [])[j]? =some (aH 0 (l9 (ops.toList.map cz) []) j):=fun j r=>Yj (by rw[PF];exact r)
 have Z:=we _ 0 DR
 have R:j5 E call n as (ops.toList.map cz) (fun j i=>(aH 0 (l9 (ops.toList.map cz) []) j).testBit i) pre fp:=by
  refine⟨by rw[F];simp,fun j ps r p hp=>by have:=Z j ps r p hp;omega,fun j ps r i=> ?_,fun j I r=> ?_,fun j a1 k a2 r hk D hb=> ?_,fun j a1 k a2 r hk D hb hq1 hq2=> ?_⟩
  ·have:=m3 j ps r i
   simp only[List.length_nil,Nat.zero_add]at this
   grind
  ·obtain⟨e1,e2,_⟩:=p3 j I _ r (H j (List.getElem?_eq_some_iff.1 r).1)
   grind
  ·exact wg as [] _ U j a1 r _ (H j (List.getElem?_eq_some_iff.1 r).1) k a2 (by simpa using D) (by simpa using hk) hb
  ·obtain⟨_,_,e3⟩:=p3 j a1 _ r (H j (List.getElem?_eq_some_iff.1 r).1)
   simp_all
 obtain⟨d1,d2⟩:=Gs h (w.drawn+1)
 refine wp_region_any hm ?_
 have N: ∀j,((Array.replicate ops.size false).getD j false=true)↔False:=by
  intro j
  simp only[Array.getD_eq_getD_getElem?,Array.getElem?_replicate]
  split <;> simp
 have hI:Inv as pre fp (fun j=>(Array.replicate ops.size false).getD j false=true) st:=by
  have aG3:(fun j=>(Array.replicate ops.size false).getD j false=true)=fun _=>False:=by funext j;exact propext (N j)
  rw[aG3]
  refine⟨fun t i hi O=> ?_,fun sp k i hi O=> ?_,fun i hi O=> ?_⟩
  ·rw[J4 R t 0 i (Nat.zero_le _) hi (fun j I r _ D hd=>(O j I r hd).2 D),Y]
  ·rw[PG R sp k 0 i (Nat.zero_le _) hi (fun j _ D hw=>(O j zV hw).2 D),Y]
  ·rw[PH R 0 i (Nat.zero_le _) hi (fun j _ D=>by
    cases hal:(fp j).all with
    |false=>rfl
    |true=>exact((O j zV hal).2 D).elim),Y]
 refine anU (st:=st) (w:=w) (β:=β) (M:=M) hE hO hc R ops.size _ st a _ β M yv ?_ ?_ hI d1 ⟨V.size,V.defers,fun t=>d2.val (V.slot t)⟩ d2 (Nat.le_refl _) ?_
 ·exact Nat.le_trans (List.length_filter_le _ _) yv
 ·intro j ps _ r
  exact((N j).1 r).elim
 grind
def fm{ops:Array Oper}{L:Array Bool}{i:Nat}(hi:i<ops.size):i∈Region.ready .any ops L↔L.getD i true=false∧ ∀p∈cz ops[i],L.getD p false=true:=by
 have r:ops[i]? =some ops[i]:=Array.getElem?_eq_getElem hi
 unfold Region.ready
 rw[List.mem_filter,List.mem_range,r]
 simp only[Bool.and_eq_true,Bool.not_eq_true',Option.map_some,Option.getD_some,hi,true_and]
 refine and_congr_right fun _=> ?_
 rw[←Array.all_toList,List.all_eq_true]
 grind [cz]
def oq{ops:Array Oper}{L:Array Bool}{i:Nat}(h:i∈Region.ready .any ops L):i<ops.size:=by
 grind [Region.ready]
def fv{o:aG}{r:List aG}{st s:St}(h:aj E call n (o::r) st=some s): ∃t,bp E call n o st=some t∧aj E call n r t=some s:=by
 grind [aj]
def aeN(hE:qg P E)(hO:vY P E call)(hm:P.follows .mixedOrders=true){id:Nat}{ops:Array Oper}{o0 o1 o2 o3:aG}(hc:dF P hs ops ops.toList=some [o0,o1,o2,o3])(D:Gr (ops.toList.map cz)=true)
  {B:eZ} {st s1 s2:St} {a:Act} {w:World} {β:aQ} {M:MSet} (h:bh B st w β M) (hf:jk st a w β M n) (e1:aj E call n [o0,o1,o2,o3] st=some s1) (e2:aj E call n [o0,o2,o1,o3] st=some s2) {Q:Exit→Act→World→Prop}
  (q1: ∀H w' r M',bh B s1 w' r M'→jk s1 H w' r M' n→Tr st w β M s1 w' r M'→w.heap.size≤w'.heap.size→Q .normal H w')
  (q2: ∀H w' r M',bh B s2 w' r M'→jk s2 H w' r M' n→Tr st w β M s2 w' r M'→w.heap.size≤w'.heap.size→Q .normal H w'):(Code.region id ops true).wp P Q a w:=by
 obtain⟨hlen,Cd⟩:=j6 hc
 have hsz:ops.size=4:=by simpa using hlen.symm
 obtain⟨t0,f0,e1⟩:=fv e1
 obtain⟨t1,f1,e1⟩:=fv e1
 obtain⟨t2,f2,e1⟩:=fv e1
 obtain⟨t3,f3,e1⟩:=fv e1
 simp only[aj,Option.some.injEq]at e1
 subst e1
 obtain⟨t0',g0,e2⟩:=fv e2
 obtain⟨u1,g1,e2⟩:=fv e2
 obtain⟨u2,g2,e2⟩:=fv e2
 obtain⟨u3,g3,e2⟩:=fv e2
 simp only[aj,Option.some.injEq]at e2
 subst e2
 rw[f0]at g0
 injection g0 with g0
 subst g0
 have dk: ∀j (hj:j<ops.size) (ao:aG),[o0,o1,o2,o3][j]? =some ao→qP P hs ops ops[j]=some ao:=by
  intro j hj ao hao
  obtain⟨x,hx,hy⟩:=Cd j ops[j] yv
  grind
 have jF: ∃p1 p2 Y,ops.toList.map cz= [[],p1,p2,Y]∧0∈p1∧0∈p2∧(∀x∈p1,x<1)∧(∀x∈p2,x<1)∧1∈Y∧2∈Y∧ ∀x∈Y,x<3:=by
  unfold Gr at D
  grind
 obtain⟨p1,p2,Y,aNM,a1,a2,b1,b2,c1,c2,c3⟩:=jF
 have O: ∀j (hj:j<ops.size) (ps:List Nat),[[],p1,p2,Y][j]? =some ps→cz ops[j]=ps:=by
  grind
 have U:0<ops.size:=zV
 have F:1<ops.size:=zV
 have J:2<ops.size:=zV
 have V:3<ops.size:=zV
 have r0:=O 0 U [] rfl
 have r1:=O 1 F p1 rfl
 have r2:=O 2 J p2 rfl
 have r3:=O 3 V Y rfl
 obtain⟨d1,d2⟩:=Gs h (w.drawn+1)
 refine wp_region_any hm ?_
 rw[hsz]
 have base:jk st a {w with drawn:=w.drawn+1} β M n:=⟨hf.size,hf.defers,fun t=>d2.val (hf.slot t)⟩
 have sz0:w.heap.size≤{w with drawn:=w.drawn+1}.heap.size:=Nat.le_refl _
 have X: ∀(t s:St),bp E call n o3 t=some s→(∀H w' r M',bh B s w' r M'→jk s H w' r M' n→Tr st w β M s w' r M'→w.heap.size≤w'.heap.size→Q .normal H w')→
   ∀H w' r M',bh B t w' r M'→jk t H w' r M' n→Tr st w β M t w' r M'→w.heap.size≤w'.heap.size→wpAny P .any ops Q 1 #[true,true,true,false] H w':=by
  intro t s he hq H w' r M' x1 x2 x3 x4
  refine⟨fun hr=> ?_,fun i hi=> ?_⟩
  ·have:3∈Region.ready .any ops #[true,true,true,false]:=(fm V).2 ⟨rfl,fun p D=>by
    rw[r3]at D
    have:=c3 p D
    have:p=0∨p=1∨p=2:=zV
    rcases this with rfl|rfl|rfl <;> rfl⟩
   rw[hr]at this;cases this
  ·have N:=oq hi
   obtain⟨I,_⟩:=(fm N).1 hi
   have:i=0∨i=1∨i=2∨i=3:=zV
   rcases this with rfl|rfl|rfl|rfl
   ·cases I
   ·cases I
   ·cases I
   ·refine mV hE hO (o:=ops[3]) (Array.getElem?_eq_getElem V) (dk 3 V o3 rfl) x1 x2 he ?_
    intro a2 w2 Yg M2 z1 z2 z3 Z
    have hr0:Region.ready .any ops (#[true,true,true,false].setIfInBounds 3 true)= []:=by
     rw[List.eq_nil_iff_forall_not_mem]
     intro i hi
     have N:=oq hi
     obtain⟨I,_⟩:=(fm N).1 hi
     have:i=0∨i=1∨i=2∨i=3:=zV
     rcases this with rfl|rfl|rfl|rfl <;> cases I
    exact⟨hr0,hq a2 w2 Yg M2 z1 z2 (x3.trans z3 x4) (Nat.le_trans x4 Z)⟩
 refine⟨fun hr=> ?_,fun i hi=> ?_⟩
 ·have:0∈Region.ready .any ops (Array.replicate 4 false):=(fm U).2 ⟨rfl,fun p D=>by rw[r0]at D;cases D⟩
  rw[hr]at this;cases this
 ·have N:=oq hi
  obtain⟨I,W⟩:=(fm N).1 hi
  have:i=0∨i=1∨i=2∨i=3:=zV
  rcases this with rfl|rfl|rfl|rfl
  ·refine mV hE hO (o:=ops[0]) (Array.getElem?_eq_getElem U) (dk 0 U o0 rfl) d1 base f0 ?_
   intro H w' r M' x1 x2 x3 x4
   have x3':Tr st w β M t0 w' r M':=d2.trans x3 sz0
   show wpAny P .any ops Q 3 #[true,false,false,false] H w'
   refine⟨fun hr=> ?_,fun i hi=> ?_⟩
   ·have:1∈Region.ready .any ops #[true,false,false,false]:=(fm F).2 ⟨rfl,fun p D=>by
     rw[r1]at D
     have:=b1 p D
     have:p=0:=zV
     subst this;rfl⟩
    rw[hr]at this;cases this
   ·have N:=oq hi
    obtain⟨I,W⟩:=(fm N).1 hi
    have:i=0∨i=1∨i=2∨i=3:=zV
    rcases this with rfl|rfl|rfl|rfl
    ·cases I
    ·refine mV hE hO (o:=ops[1]) (Array.getElem?_eq_getElem F) (dk 1 F o1 rfl) x1 x2 f1 ?_
     intro a2 w2 Yg M2 z1 z2 z3 Z
     have z3':=x3'.trans z3 x4
     show wpAny P .any ops Q 2 #[true,true,false,false] a2 w2
     refine⟨fun hr=> ?_,fun i hi=> ?_⟩
     ·have:2∈Region.ready .any ops #[true,true,false,false]:=(fm J).2 ⟨rfl,fun p D=>by
       rw[r2]at D
       have:=b2 p D
       have:p=0:=zV
       subst this;rfl⟩
      rw[hr]at this;cases this
     ·have N:=oq hi
      obtain⟨I,W⟩:=(fm N).1 hi
      have:i=0∨i=1∨i=2∨i=3:=zV
      rcases this with rfl|rfl|rfl|rfl
      ·cases I
      ·cases I
      ·refine mV hE hO (o:=ops[2]) (Array.getElem?_eq_getElem J) (dk 2 J o2 rfl) z1 z2 f2 ?_
       intro a3 w3 β3 M3 v1 v2 v3 v4
       exact X t2 t3 f3 q1 a3 w3 β3 M3 v1 v2 (z3'.trans v3 (Nat.le_trans x4 Z)) (Nat.le_trans x4 (Nat.le_trans Z v4))
      ·have:=W 2 (by rw[r3];exact c2);cases this
    ·refine mV hE hO (o:=ops[2]) (Array.getElem?_eq_getElem J) (dk 2 J o2 rfl) x1 x2 g1 ?_
     intro a2 w2 Yg M2 z1 z2 z3 Z
     have z3':=x3'.trans z3 x4
     show wpAny P .any ops Q 2 #[true,false,true,false] a2 w2
     refine⟨fun hr=> ?_,fun i hi=> ?_⟩
     ·have:1∈Region.ready .any ops #[true,false,true,false]:=(fm F).2 ⟨rfl,fun p D=>by
       rw[r1]at D
       have:=b1 p D
       have:p=0:=zV
       subst this;rfl⟩
      rw[hr]at this;cases this
     ·have N:=oq hi
      obtain⟨I,W⟩:=(fm N).1 hi
      have:i=0∨i=1∨i=2∨i=3:=zV
      rcases this with rfl|rfl|rfl|rfl
      ·cases I
      ·refine mV hE hO (o:=ops[1]) (Array.getElem?_eq_getElem F) (dk 1 F o1 rfl) z1 z2 g2 ?_
       intro a3 w3 β3 M3 v1 v2 v3 v4
       exact X u2 u3 g3 q2 a3 w3 β3 M3 v1 v2 (z3'.trans v3 (Nat.le_trans x4 Z)) (Nat.le_trans x4 (Nat.le_trans Z v4))
      ·cases I
      ·have:=W 1 (by rw[r3];exact c1);cases this
    ·have:=W 1 (by rw[r3];exact c1);cases this
  ·have:=W 0 (by rw[r1];exact a1);cases this
  ·have:=W 0 (by rw[r2];exact a2);cases this
  ·have:=W 1 (by rw[r3];exact c1);cases this
theorem ot(ks:List Nat)(f:Fr)(j:Nat):aa (vu ks f) j=if j∈ks then .any else aa f j:=by
 induction ks with
 |nil=>simp[vu]
 |cons k ks ih=>
  grind [vu,lU]
theorem E9(ks:List Nat)(l r:aE ah)(j:Nat):aE.get eS (BE ks l r) j=if j∈ks then⟨max (aE.get eS l j).g (aE.get eS r j).g,.none⟩else aE.get eS l j:=by
 induction ks with
 |nil=>simp[BE]
 |cons k ks ih=>
  grind [BE,aE.get_set]
theorem qY(ks:List Nat)(s t:St)(sp:Sp)(k:Nat):(oe ks s t).get sp k=if sp= .L∧k∈ks then⟨max (s.get sp k).g (t.get sp k).g,.none⟩else s.get sp k:=by
 cases sp with
 |S=>rw[if_neg yv];rfl
 |L=>
  show aE.get eS (BE ks s.lh t.lh) k=_
  rw[E9]
  by_cases h:k∈ks
  ·rw[if_pos h,if_pos ⟨rfl,h⟩];rfl
  ·rw[if_neg h,if_neg (by simp[h])];rfl
def yo(ks:List Nat)(s t:St)(sp:Sp)(k:Nat):s.gens sp k≤(oe ks s t).gens sp k:=by
 show(s.get sp k).g≤((oe ks s t).get sp k).g
 rw[qY]
 grind
theorem ou{ks:List Nat}{s t:St}{sp:Sp}{k:Nat}(h:live ((oe ks s t).get sp k)):(oe ks s t).get sp k=s.get sp k∧live (s.get sp k):=by
 rw[qY]at h ⊢
 split at h
 ·exact h.elim
 ·grind
theorem pz{ks:List Nat}{s t:St}{sp:Sp}{k:Nat}(h:live ((oe ks s t).get sp k)):(oe ks s t).gens sp k=s.gens sp k:=by
 show((oe ks s t).get sp k).g=(s.get sp k).g
 rw[(ou h).1]
def Yl(ks:List Nat)(t:St){B:eZ}{s:St}{w:World}{β:aQ}{M:MSet}(h:bh B s w β M):bh B (oe ks s t) w β M:=by
 refine⟨fun sp k=> ?_,fun sp k H k' D F e=> ?_,h.mlt,fun k r=> ?_,fun k r=> ?_,h.os,h.tape,h.output,h.size,h.same,h.keep,h.msup⟩
 ·rw[qY]
  split
  ·unfold dV;trivial
  ·exact dV.mono (dG.refl w M) (fun _ _ _ _=>rfl) (yo ks s t) (Nat.le_refl _) (fun _=>rfl) (fun _ _ h=>h) (h.obj sp k)
 ·rw[pz D,pz F]at e;exact h.dist sp k H k' (ou D).2 (ou F).2 e
 ·rw[pz r];exact h.lblk k (ou r).2
 ·rw[pz r];exact h.sblk k (ou r).2
def Ym(ks:List Nat)(t:St){s:St}{a:Act}{w:World}{β:aQ}{M:MSet}(h:jk s a w β M n):jk (oe ks s t) a w β M n:=by
 refine⟨h.size,h.defers,fun i=> ?_⟩
 show aq β (oe ks s t).gens w M (aa (vu ks s.fr) i) _
 rw[ot]
 split
 ·simp only[aq]
 ·exact aq.mono (dG.refl w M) (fun _ _ _ _=>rfl) (yo ks s t) _ _ (h.slot i)
def Yn(ks:List Nat)(t:St){st s:St}{w w':World}{β ba:aQ}{M M':MSet}(h:Tr st w β M s w' ba M'):Tr st w β M (oe ks s t) w' ba M':=⟨h.keep,h.beta,fun sp k=>Nat.le_trans (h.gens sp k) (yo ks s t sp k)⟩
def Ce{ks:List Nat}{s t:St}(h:BF ks s t)(sp:Sp)(k:Nat):(oe ks s t).get sp k=(oe ks t s).get sp k:=by
 obtain⟨h1,_,h4⟩:=h
 cases sp with
 |S=>show aI s.sh k=aI t.sh k;rw[h1]
 |L=>
  rw[qY,qY]
  by_cases hk:k∈ks
  ·grind
  ·rw[if_neg (by simp[hk]),if_neg (by simp[hk])]
   exact h4 k hk
def aeO{ks:List Nat}{s t:St}(h:BF ks s t)(k:Nat):aa (oe ks s t).fr k=aa (oe ks t s).fr k:=by
 show aa (vu ks s.fr) k=aa (vu ks t.fr) k
 rw[ot,ot]
 split
 ·rfl
 ·rename_i hk;exact h.2.1 k hk
def tX{ks:List Nat}{F H:Option (Out×St)}{o:Out}{s:St}(h:Po ks F H=some (o,s)): ∃r D,F=some (o,r)∧H=some (o,D)∧BF ks r D∧s=oe ks r D:=by
 unfold Po at h
 grind
def J5(a:Code)(D r:ak):Pp P hs a D r= .seq D r∨ ∃id ops F H I J,a= .region id ops true∧dF P hs ops ops.toList=some [F,H,I,J]∧Gr (ops.toList.map cz)=true∧Pp P hs a D r= .fork [F,H,I,J] [F,I,H,J] r:=by
 unfold Pp
 grind
def anZ(hE:qg P E)(hO:vY P E call)(hm:P.follows .mixedOrders=true)(fl:Nat): ∀(c:Code) (ac:ak),ib P hs c=some ac→
  ∀{B:eZ} {st W:St} {a:Act} {w:World} {β:aQ} {M:MSet} {o:Out},bh B st w β M→jk st a w β M n→fX E call fl n ac st=some (o,W)→ ∀{Q:Exit→Act→World→Prop},
  (∀J w' N M',bh B W w' N M'→jk W J w' N M' n→Tr st w β M W w' N M'→w.heap.size≤w'.heap.size→Q (anW o) J w')→c.wp P Q a w:=by
 intro c
 induction c with
 |skip=>
  intro ac hc B st W a w β M o h F r Q D
  simp[ib]at hc;subst hc
  simp[fX]at r;obtain⟨rfl,rfl⟩:=r
  exact wp_skip (D a w β M h F (Tr.refl _ _ _ _) (Nat.le_refl _))
 |region id ops draw=>
  intro ac hc B st W a w β M o h F r Q D
  cases draw with
  |false=>
   simp only[ib,Option.map_eq_some_iff]at hc
   obtain⟨as,h1,rfl⟩:=hc
   simp only[fX,Option.map_eq_some_iff]at r
   obtain⟨Z,h2,h3⟩:=r
   simp at h3;obtain⟨rfl,rfl⟩:=h3
   refine wp_region ?_
   rw[List.range_eq_range']
   exact Yf hE hO ops.size 0 as zV (by simpa using h1) h F h2 D
  |true=>
   simp only[ib]at hc
   split at hc
   ·rename_i as h1
    split at hc
    ·rename_i hcc
     simp only[Bool.and_eq_true]at hcc
     simp at hc;subst hc
     simp only[fX,Option.map_eq_some_iff]at r
     obtain⟨Z,h2,h3⟩:=r
     simp at h3;obtain⟨rfl,rfl⟩:=h3
     exact Yk hE hO hm h1 hcc.1 hcc.2 h F h2 D
    ·cases hc
   ·cases hc
 |seq x y X Y=>
  intro ac hc B st W a w β M o h F r Q D
  simp only[ib]at hc
  split at hc
  ·rename_i H ay h1 h2
   simp only[Option.some.injEq]at hc
   rcases J5 (P:=P) (hs:=hs) x H ay with hj|⟨id,ops,o0,o1,o2,o3,rfl,iz,Cf,hj⟩
   rotate_left
   ·rw[hj]at hc
    subst hc
    simp only[fX]at r
    split at r
    ·rename_i s1 s2 e1 e2
     obtain⟨t1,t2,g1,g2,tz,rfl⟩:=tX r
     refine wp_seq ?_
     refine aeN hE hO hm iz Cf h F e1 e2 ?_ ?_
     ·intro J w' N M' O U V I
      exact Y ay h2 O U g1 (fun a2 w2 Yg M2 z1 z2 z3 z4=>D a2 w2 Yg M2 (Yl _ _ z1) (Ym _ _ z2) (Yn _ _ (V.trans z3 I)) (Nat.le_trans I z4))
     ·intro J w' N M' O U V I
      exact Y ay h2 O U g2 (fun a2 w2 Yg M2 z1 z2 z3 z4=>D a2 w2 Yg M2 (alb (Ce tz) (Yl _ _ z1)) (alc (Ce tz) (aeO tz) (Ym _ _ z2)) (Yh (Ce tz) (Yn _ _ (V.trans z3 I))) (Nat.le_trans I z4))
    ·cases r
   rw[hj]at hc
   subst hc
   simp only[fX]at r
   refine wp_seq ?_
   cases hx:fX E call fl n H st with
   |none=>simp[hx]at r
   |some p=>
    obtain⟨ox,Z⟩:=p
    cases ox with
    |nrm=>
     simp only[hx]at r
     refine X H h1 h F hx ?_
     intro J w' N M' O U V I
     exact Y ay h2 O U r (fun a2 w2 Yg M2 s1 s2 s3 s4=>D a2 w2 Yg M2 s1 s2 (V.trans s3 I) (Nat.le_trans I s4))
    |ext id=>
     simp[hx]at r;obtain⟨rfl,rfl⟩:=r
     exact X H h1 h F hx D
    |ret=>
     simp[hx]at r;obtain⟨rfl,rfl⟩:=r
     exact X H h1 h F hx D
  ·cases hc
 |cond c x y X Y=>
  intro ac hc B st W a w β M o h F r Q D
  simp only[ib]at hc
  split at hc
  ·rename_i c' H ay h0 h1 h2
   simp at hc;subst hc
   simp only[fX]at r
   have vc:=XM F c c' h0
   split at r
   ·rename_i e
    rw[e]at vc
    exact wp_cond_true vc.bool (X H h1 h F r D)
   ·rename_i e
    rw[e]at vc
    exact wp_cond_false vc.bool (Y ay h2 h F r D)
   ·cases r
  ·cases hc
 |block id x ih=>
  intro ac hc B st W a w β M o h F r Q D
  simp only[ib,Option.map_eq_some_iff]at hc
  obtain⟨H,h1,rfl⟩:=hc
  simp only[fX]at r
  refine wp_block ?_
  cases hx:fX E call fl n H st with
  |none=>simp[hx]at r
  |some p=>
   obtain⟨ox,Z⟩:=p
   cases ox with
   |nrm=>simp[hx]at r;obtain⟨rfl,rfl⟩:=r;exact ih H h1 h F hx D
   |ret=>simp[hx]at r;obtain⟨rfl,rfl⟩:=r;exact ih H h1 h F hx D
   |ext SA=>
    simp only[hx]at r
    by_cases hid:SA=id
    ·simp only[hid,if_true,Option.some.injEq,Prod.mk.injEq]at r
     obtain⟨rfl,rfl⟩:=r
     refine ih H h1 h F hx ?_
     intro J w' N M' O U V I
     show Exit.inBlock id Q (.exit SA) J w'
     simp only[Exit.inBlock,hid,if_true]
     exact D J w' N M' O U V I
    ·simp only[hid,if_false,Option.some.injEq,Prod.mk.injEq]at r
     obtain⟨rfl,rfl⟩:=r
     refine ih H h1 h F hx ?_
     intro J w' N M' O U V I
     show Exit.inBlock id Q (.exit SA) J w'
     simp only[Exit.inBlock,hid,if_false]
     exact D J w' N M' O U V I
 |loop x ih=>
  intro ac hc B st W a w β M o h F r Q D
  simp only[ib,Option.map_eq_some_iff]at hc
  obtain⟨H,h1,rfl⟩:=hc
  simp only[fX]at r
  have key: ∀(m:Nat) (Z:St) (a1:Act) (w1:World) (Iy:aQ) (M1:MSet),bh B Z w1 Iy M1→jk Z a1 w1 Iy M1 n→Tr st w β M Z w1 Iy M1→w.heap.size≤w1.heap.size→iter (fX E call fl n H) m Z=some (o,W)→Code.rounds P x Q m a1 w1:=by
   intro m
   induction m with
   |zero=>grind [iter]
   |succ m ihm=>
    intro Z a1 w1 Iy M1 g1 g2 g3 g4 hi
    rw[rounds_succ]
    simp only[iter]at hi
    cases hx:fX E call fl n H Z with
    |none=>simp[hx]at hi
    |some p=>
     obtain⟨ox,yl⟩:=p
     cases ox with
     |nrm=>
      simp only[hx]at hi
      refine ih H h1 g1 g2 hx ?_
      intro J w' N M' O U V I
      exact ihm yl J w' N M' O U (g3.trans V g4) (Nat.le_trans g4 I) hi
     |ext id=>
      simp[hx]at hi;obtain⟨rfl,rfl⟩:=hi
      refine ih H h1 g1 g2 hx ?_
      intro J w' N M' O U V I
      exact D J w' N M' O U (g3.trans V g4) (Nat.le_trans g4 I)
     |ret=>
      simp[hx]at hi;obtain⟨rfl,rfl⟩:=hi
      refine ih H h1 g1 g2 hx ?_
      intro J w' N M' O U V I
      exact D J w' N M' O U (g3.trans V g4) (Nat.le_trans g4 I)
  exact wp_loop_rounds fl (key fl st a w β M h F (Tr.refl _ _ _ _) (Nat.le_refl _) r)
 |exit id=>
  intro ac hc B st W a w β M o h F r Q D
  simp[ib]at hc;subst hc
  simp[fX]at r;obtain⟨rfl,rfl⟩:=r
  exact wp_exit (D a w β M h F (Tr.refl _ _ _ _) (Nat.le_refl _))
 |ret=>
  intro ac hc B st W a w β M o h F r Q D
  simp[ib]at hc;subst hc
  simp[fX]at r;obtain⟨rfl,rfl⟩:=r
  exact wp_ret (D a w β M h F (Tr.refl _ _ _ _) (Nat.le_refl _))
 |rangeFunc _ _ _ _=>grind [ib]
 |scope _=>grind [ib]
 |label _=>grind [ib]
 |goto _=>grind [ib]
 |refuse _=>grind [ib]
end
end Go.Ev
namespace Go.Ev
open Go
section
variable{P:Program}{E:Env}{n:Nat}
def GG(ts:Array Value)(r:ResultVar):Sem Value:=
 match r with
 | .tmp t=>pure (ts.getD t undef)
 | .cell D t=>do loadVar t (←asAddr (ts.getD D undef))
theorem M8(D:Func)(ts:Array Value):results D ts=(do
  let r ←(List.toArray <$> D.results.toList.mapM (GG ts))
  pure (if h:r.size=1 then r[0]else .tuple r)):=by
 unfold results
 rw[Array.mapM_eq_mapM_toList]
 congr 2
theorem tY{B:eZ}{st:St}{a:Act}{w:World}{β:aQ}{M:MSet}(h:bh B st w β M)(I:jk st a w β M n): ∀(rs:List ResultVar) (r:List tT) (H:List T),pk P rs=some r→iO st r=some H→
  ∃F:List Value,(rs.mapM (GG a.tmps)).run P w=Result.ok F w∧av β st.gens w M H F
 | [],r,H,hc,hr=>by
   simp_all[pk,iO,av]
 | .tmp t::rs,r,H,hc,hr=>by
   simp only[pk,Option.map_eq_some_iff]at hc
   obtain⟨D,h1,rfl⟩:=hc
   simp only[iO,JI]at hr
   split at hr
   ·rename_i v J e1 e2
    simp at hr e1;subst hr;subst e1
    obtain⟨F,N,O⟩:=tY h I rs D J h1 e2
    refine⟨a.tmps.getD t undef::F, ?_, ?_⟩
    ·grind [GG,Sem.run_bind,Sem.run_pure,Result.andThen_ok]
    ·simp only[av];exact⟨_,_,rfl,I.slot t,O⟩
   ·cases hr
 | .cell U t::rs,r,H,hc,hr=>by
   simp only[pk]at hc
   split at hc
   ·rename_i sz Y D h1 h2 h3
    simp at hc;subst hc
    simp only[iO,JI]at hr
    split at hr
    ·rename_i v J e1 e2
     simp at hr;subst hr
     obtain⟨F,N,O⟩:=tY h I rs D J h3 e2
     obtain⟨V,cv,W,X,Z⟩:=JO (P:=P) h h1 h2 (I.slot U) e1
     refine⟨cv::F, ?_, ?_⟩
     ·rw[List.mapM_cons]
      simp only[GG,Sem.run_bind,W,asAddr,Sem.run_pure,Result.andThen_ok,X,N]
     ·grind [av]
    ·cases hr
   ·cases hc
def SQ{β:aQ}{G:Sp→Nat→Nat}{w:World}{M:MSet}{args:List T}{r:Array Value}(H:av β G w M args r.toList)(k:Nat)(t:Nat):aq β G w M (aa (lI args) t) ((r++Array.replicate k undef).getD t undef):=by
 have D:=av.length _ _ H
 by_cases I:t<args.length
 ·have J:args[t]? =some args[t]:=List.getElem?_eq_getElem I
  obtain⟨cv,N,V⟩:=H.get J
  have e1:aa (lI args) t=args[t]:=by
   rw[EW]
   have: ∀(l:List T) (j:Nat) (F:j<l.length),aH aU l j=l[j]:=by
    intro l
    induction l with
    |nil=>grind
    |cons x xs ih=>intro j F;cases j with|zero=>rfl|succ j=>exact ih j (by simpa using F)
   grind
  have O:r[t]? =some cv:=by simpa using N
  have U:t<r.size:=by simp at D;omega
  simp_all[Array.getD_eq_getD_getElem?,Array.getElem?_append_left]
 ·have e1:aa (lI args) t=aU:=by
   rw[EW]
   have: ∀(l:List T) (j:Nat),l.length≤j→aH aU l j=aU:=by
    intro l
    induction l with
    |nil=>intro j _;rfl
    |cons x xs ih=>intro j F;cases j with|zero=>simp at F|succ j=>exact ih j (by simpa using F)
   grind
  have e2:(r++Array.replicate k undef).getD t undef=undef:=by
   rw[Array.getD_eq_getD_getElem?,Array.getElem?_append_right (by simp at D;omega),Array.getElem?_replicate]
   split <;> rfl
  rw[e1,e2]
  simp[aq,aU,undef,av]
def pack:List T→T
 | [v]=>v
 |vs=> .tup vs
def M9{keep:Bool}{n:Nat}:fz keep (n+1) .nilsl= .ret (.nilsl,[]):=rfl
theorem wh{f:T→Q (T×List Up)}{h:Sp→Nat→ah}{nx:Nat}(F:f .nilsl= .ret (.nilsl,[])): ∀(ts:List T) {j:Nat} {q:List T×List Up},(bo f ts).run h nx=some q→ts[j]? =some .nilsl→q.1[j]? =some .nilsl
 | [],j,q,_,D=>by simp at D
 |t::ts,j,q,r,D=>by
  simp only[bo,Q.run_bind]at r
  cases h1:(f t).run h nx with
  |none=>simp[h1]at r
  |some p=>
   simp only[h1,Option.bind_some]at r
   cases h2:(bo f ts).run h nx with
   |none=>simp[h2]at r
   |some H=>
    simp only[h2,Option.bind_some,Q.run,Option.some.injEq]at r
    subst r
    cases j with
    |zero=>
     grind [Q.run]
    |succ j=>simpa using wh F ts h2 (by simpa using D)
theorem GH{f:T→Q (T×List Up)}{h:Sp→Nat→ah}{nx:Nat}: ∀(ts:List T) {j:Nat} {q:List T×List Up} {x:T},(bo f ts).run h nx=some q→ts[j]? =some x→ ∃p,(f x).run h nx=some p∧q.1[j]? =some p.1
 | [],j,q,x,_,D=>by simp at D
 |t::ts,j,q,x,r,D=>by
  simp only[bo,Q.run_bind]at r
  cases h1:(f t).run h nx with
  |none=>simp[h1]at r
  |some p=>
   simp only[h1,Option.bind_some]at r
   cases h2:(bo f ts).run h nx with
   |none=>simp[h2]at r
   |some F=>
    simp only[h2,Option.bind_some,Q.run,Option.some.injEq]at r
    subst r
    cases j with
    |zero=>grind
    |succ j=>simpa using GH ts h2 (by simpa using D)
def GI{n:Nat}{cs:List T}{h:Sp→Nat→ah}{nx:Nat}{p:T×List Up}(r:(fz false (n+1) (.agg cs)).run h nx=some p): ∃q,(bo (fz false n) cs).run h nx=some q∧p.1= .agg q.1:=by
 have r:((bo (fz false n) cs).bind fun q=>Q.ret (T.agg q.1,q.2)).run h nx=some p:=r
 rw[Q.run_bind]at r
 cases h1:(bo (fz false n) cs).run h nx with
 |none=>simp[h1]at r
 |some q=>
  grind [Q.run,Option.some.injEq]
def an2{r t y:T}{us:List Up}{h:Sp→Nat→ah}{nx j:Nat}(D:(fz false aJ (aM r j .nilsl)).run h nx=some (t,us))(hc:eW r j=some y):okC t j:=by
 cases r
 case tup vs=>
  by_cases F:j<100
  ·simp only[aM,F,if_true]at D
   have D:((bo (fz false 7) (vs.set j .nilsl)).bind fun q=>Q.ret (T.tup q.1,q.2)).run h nx=some (t,us):=D
   rw[Q.run_bind]at D
   cases h1:(bo (fz false 7) (vs.set j .nilsl)).run h nx with
   |none=>simp[h1]at D
   |some q=>
    simp only[h1,Option.bind_some,Q.run,Option.some.injEq,Prod.mk.injEq]at D
    obtain⟨rfl,rfl⟩:=D
    exact .inl F
  ·simp only[eW,F,if_false]at hc
   cases hi:vs[j/100-1]? with
   |none=>grind
   |some H=>
    rw[hi]at hc
    cases H <;> try (simp only at hc;cases hc;done)
    rename_i cs
    simp only[aM,F,if_false,hi]at D
    have D:((bo (fz false 7) (vs.set (j/100-1) (.agg (cs.set (j%100) .nilsl)))).bind fun q=>Q.ret (T.tup q.1,q.2)).run h nx=some (t,us):=D
    rw[Q.run_bind]at D
    cases h1:(bo (fz false 7) (vs.set (j/100-1) (.agg (cs.set (j%100) .nilsl)))).run h nx with
    |none=>simp[h1]at D
    |some q=>
     simp only[h1,Option.bind_some,Q.run,Option.some.injEq,Prod.mk.injEq]at D
     obtain⟨rfl,rfl⟩:=D
     obtain⟨p,I,J⟩:=GH _ h1 (List.getElem?_set_self (List.getElem?_eq_some_iff.1 hi).1)
     obtain⟨N,_,e⟩:=GI I
     exact .inr ⟨N.1,by rw[J,e]⟩
 case agg vs=>
  simp only[aM]at D
  obtain⟨q,_,e⟩:=GI (n:=7) D
  rw[show t=_ from e]
  trivial
 case any=>simp[eW]at hc
 all_goals
  simp[aM,aJ,fz,Q.run]at D
  obtain⟨rfl,rfl⟩:=D
  trivial
theorem aeP{r t:T}{us:List Up}{h:Sp→Nat→ah}{nx j:Nat}(D:(fz false aJ r).run h nx=some (t,us))(hc:eW r j=some .nilsl):eW t j=some .nilsl:=by
 cases r
 case tup vs=>
  have D:((bo (fz false 7) vs).bind fun q=>Q.ret (T.tup q.1,q.2)).run h nx=some (t,us):=D
  rw[Q.run_bind]at D
  cases h1:(bo (fz false 7) vs).run h nx with
  |none=>simp[h1]at D
  |some q=>
   simp only[h1,Option.bind_some,Q.run,Option.some.injEq,Prod.mk.injEq]at D
   obtain⟨rfl,rfl⟩:=D
   simp only[eW]at hc ⊢
   by_cases F:j<100
   ·rw[if_pos F]at hc ⊢
    exact wh M9 vs h1 hc
   ·rw[if_neg F]at hc ⊢
    cases hi:vs[j/100-1]? with
    |none=>grind
    |some H=>
     rw[hi]at hc
     cases H <;> try (simp only at hc;cases hc;done)
     rename_i cs
     obtain⟨p,I,J⟩:=GH _ h1 hi
     obtain⟨N,e1,e2⟩:=GI I
     rw[J,e2]
     exact wh M9 cs e1 hc
 case agg vs=>
  have D:((bo (fz false 7) vs).bind fun q=>Q.ret (T.agg q.1,q.2)).run h nx=some (t,us):=D
  rw[Q.run_bind]at D
  cases h1:(bo (fz false 7) vs).run h nx with
  |none=>simp[h1]at D
  |some q=>
   simp only[h1,Option.bind_some,Q.run,Option.some.injEq,Prod.mk.injEq]at D
   obtain⟨rfl,rfl⟩:=D
   exact wh M9 vs h1 hc
 all_goals
  simp only[eW,Option.some.injEq]at hc
  try (cases hc;done)
 simp[aJ,fz,Q.run]at D
 obtain⟨rfl,rfl⟩:=D
 rfl
def Cg(hE:qg P E)(hm:P.follows .mixedOrders=true){m:Nat}(hO:vY P E (cQ E m)){f:Nat}{af:ai}{args:List T}{sh:List ah}{r:T}{Z:List ah}(Av:E.fn f=some af)(D:cQ E (m+1) f args sh=some (r,Z))
  {w:World} {β:aQ} {M:MSet} {cargs:Array Value} (O:bh ⟨w,M,eE sh β⟩ (bare .nil sh) w β M) (hV0:av β (bare .nil sh).gens w M args cargs.toList) {Q:Ending→World→Prop}
  (hQ: ∀J F w' V M' v,bh ⟨w,M,eE sh β⟩ J w' V M'→sg af.own af.eff F J=some (r,Z)→aq V J.gens w' M' (pack F) v→Tr (bare (lI args) sh) w β M J w' V M'→Q (.returned v) w'):Calls P f cargs w Q:=by
  obtain⟨hs,fn,hf,H⟩:=hE.1 f af Av
  simp only[cQ,Av]at D
  split at D
  ·cases D
  ·rename_i hlen
   unfold EP at H
   split at H
   ·cases H
   ·split at H
    ·cases H
    ·rename_i code aAl
     split at H
     ·rename_i ac X h1 h2
      simp at H
      have hV:av β (bare (lI args) sh).gens w M args cargs.toList:=hV0
      have hcl:=av.length _ _ hV
      have hn:fn.ntmps=af.n:=by rw[←H]
      have aAm:af.code=ac:=by rw[←H]
      have DV:af.res=X:=by rw[←H]
      rw[aAm]at D
      cases I:fX E (cQ E m) m af.n ac {fr:=lI args,lh:= .nil,sh}with
      |none=>simp[I]at D
      |some p=>
       obtain⟨o,J⟩:=p
       have SF:o≠ .nrm→o≠ .ret→False:=by
        intro n1 n2
        cases o with
        |nrm=>exact n1 rfl
        |ret=>exact n2 rfl
        |ext id=>simp[I]at D
       have yp: ∃F,iO J af.res=some F∧sg af.own af.eff F J=some (r,Z):=by
        cases o with
        |nrm=>
         simp only[I]at D
         split at D
         ·rename_i F hv
          exact⟨F,hv,D⟩
         ·cases D
        |ret=>
         simp only[I]at D
         split at D
         ·rename_i F hv
          exact⟨F,hv,D⟩
         ·cases D
        |ext id=>exact(SF yv yv).elim
       obtain⟨N,aG6,yp⟩:=yp
       have hF:jk (bare (lI args) sh) {tmps:=cargs++Array.replicate (fn.ntmps-cargs.size) undef,defers:= []} w β M af.n:=by
        refine⟨by simp at hcl ⊢; omega,rfl,fun t=>SQ hV _ t⟩
       refine calls_of_wp hf aAl ?_
       refine anZ (n:=af.n) hE hO hm m code ac h1 (B:=⟨w,M,eE sh β⟩) (st:=bare (lI args) sh) (aeH O (lI args)) hF I ?_
       intro a' w' V M' r1 r2 r3 r4
       have post:a'.defers= []∧ ∃v,(results fn a'.tmps).run P w'= .ok v w'∧Q (.returned v) w':=by
        refine⟨r2.defers, ?_⟩
        have Y:=aG6
        rw[DV]at Y
        obtain⟨U,q1,W⟩:=tY (P:=P) r1 r2 fn.results.toList X N h2 Y
        have aAn:(results fn a'.tmps).run P w'= .ok (if hh:U.toArray.size=1 then U.toArray[0]else .tuple U.toArray) w':=by
         rw[M8]
         simp only[Sem.run_bind,Sem.run_map,q1,Result.andThen_ok,Sem.run_pure]
        have Yo:aq V J.gens w' M' (pack N) (if hh:U.toArray.size=1 then U.toArray[0]else .tuple U.toArray):=by
         have UU:=av.length _ _ W
         cases N with
         |nil=>
          simp only[av]at W;subst W
          simp[pack,aq,av]
         |cons v F=>
          cases F with
          |nil=>
           simp only[av]at W
           obtain⟨u,us,rfl,k1,rfl⟩:=W
           simpa[pack]using k1
          |cons v2 F=>
           have:U.toArray.size≠1:=by simp at UU ⊢; omega
           rw[dif_neg this]
           simp only[pack,aq]
           exact⟨_,rfl,by simpa using W⟩
        exact⟨_,aAn,hQ J N w' V M' _ r1 yp Yo r3⟩
       cases o with
       |nrm=>exact post
       |ret=>exact post
       |ext id=>exact(SF yv yv).elim
     ·cases H
theorem zH(r:Bool)(D:List T)(st:St):answer r D st=match(fz r aJ (pack D)).run st.get st.sh.length with
 |some p=>some (p.1,(st.ups p.2).sh)
 |none=>none:=by
 cases D with
 |nil=>rfl
 |cons v D=>cases D <;> rfl
theorem GJ(j:Nat)(r:List T)(st:St):pj j r st=match eW (pack r) j with
 |some .nilsl=>answer false r st
 |some (.isl .L k g 0 len sz)=>
  (match(fz false aJ (aM (pack r) j .nilsl)).run st.get st.sh.length with
  |some p=>(match(st.ups p.2).get .L k with
   |⟨D,.cells cs F false⟩=>if D=g∧cs.length=len*sz∧len≠0∧(F=0∨mQ (aM p.1 j .nilsl)=true)then some (aM p.1 j (.sl cs len false),(st.ups p.2).sh)else none
   |_=>none)
  |none=>none)
 |_=>none:=by
 cases r with
 |nil=>rfl
 |cons v r=>cases r <;> rfl
def Fa{B:eZ}{D:St}{J:List T}{w':World}{H:aQ}{M':MSet}{v:Value}{F:Bool}{r:T}{N:List ah}(O:bh B D w' H M')(I:answer F J D=some (r,N))(Yo:aq H D.gens w' M' (pack J) v):
  ∃M2 us,bh B (D.ups us) w' H M2∧(D.ups us).gens=D.gens∧N=(D.ups us).sh∧po F H D.gens w' M2 r v:=by
 rw[zH]at I
 split at I
 ·rename_i p U
  obtain⟨V,us⟩:=p
  simp at I
  obtain⟨rfl,rfl⟩:=I
  obtain⟨M2,W,X,Z,Y,z5⟩:=zr F D aJ _ _ D w' H M' _ V us _ (Fz.refl D) O Yo U
  exact⟨M2,us,W,X.gens,rfl,Y⟩
 ·cases I
theorem J6(hE:qg P E)(hm:P.follows .mixedOrders=true): ∀m,vY P E (cQ E m)
 |0=>by
  intro f af args sh r aR Av hc
  simp[cQ]at hc
 |m+1=>by
  have hO:=J6 hE hm m
  intro f af args sh r aR Av aC
  refine⟨fun J=> ?_,fun j J=> ?_⟩
  ·intro w β M U H I
   refine Cg hE hm hO Av aC H (jm.toV I) ?_
   intro F vs w' N M' v r1 D hv r3
   rw[J]at D
   obtain⟨M2,us,V,z2,rfl,O⟩:=Fa r1 D hv
   refine⟨v,N,M2,rfl,GA V .nil,fun k g hg=>r3.beta .S k g hg,fun k=> ?_, ?_⟩
   ·have e1:(aI (F.ups us).sh k).g=(F.ups us).gens .S k:=rfl
    rw[e1,z2]
    exact r3.gens .S k
   ·have W: ∀k,(bare .nil (F.ups us).sh).gens .S k=F.gens .S k:=by
     intro k
     have e1:(bare .nil (F.ups us).sh).gens .S k=(F.ups us).gens .S k:=rfl
     rw[e1,z2]
    cases X:af.eff with
    |false=>rw[X]at O;exact O
    |true=>
     rw[X]at O
     intro b g p q
     exact O b g (fun k x hx=>p k x (by rw[W];exact hx)) (fun k=>by rw[←W];exact q k)
  ·have X:af.eff=false:=by
    grind [cQ,sg]
   refine⟨X, ?_⟩
   intro w β M U H I
   refine Cg hE hm hO Av aC H (jm.toV I) ?_
   intro F vs w' N M' v r1 D hv r3
   rw[J,X]at D
   have D:pj j vs F=some (r,aR):=by simpa[sg]using D
   rw[GJ]at D
   split at D
   ·rename_i hc
    obtain⟨M2,us,V,z2,rfl,O⟩:=Fa r1 D hv
    refine⟨v,N,M2,rfl,GA V .nil,.inl ⟨?_,O⟩⟩
    grind [zH,aeP]
   ·rename_i k g len sz hc
    split at D
    ·rename_i p hz
     obtain⟨t',us⟩:=p
     have hn:aq N F.gens w' M' .nilsl jT:=by simp only[aq]
     obtain⟨⟨x,hx,Y⟩,yh⟩:=X6 hv hc hn rfl
     obtain⟨M2,V,z2,z3,O,z5⟩:=zr false F aJ _ _ F w' N M' _ t' us _ (Fz.refl F) r1 yh hz
     dsimp only at D
     split at D
     ·rename_i g' cs wm DX
      split at D
      ·rename_i hcs
       obtain⟨rfl,hcl,xw,JR⟩:=hcs
       simp at D
       obtain⟨rfl,rfl⟩:=D
       simp only[aq]at Y
       obtain⟨aNQ,cap,rfl,hlc,hcx⟩:=Y
       have ho:=V.obj .L k
       rw[DX]at ho
       unfold dV at ho
       obtain⟨c,el,fzz,o1,o2,o3,o4,o5,o6,o7,o8⟩:=ho
       dsimp only at o1 o2 o3 o4 o5 o6
       subst o4
       have Z:=fun(b:aQ) (G:Sp→Nat→Nat)=>X7 (cs:=cs) (len:=len) (ex:=false) (an2 hz hc) (PRel.toV b G _ _ O) hx
       have EX:live ((F.ups us).get .L k):=by rw[DX];trivial
       have D0:(F.ups us).gens .L k=g':=by show((F.ups us).get .L k).g=g';rw[DX]
       have aAp:=V.lblk k EX
       rw[D0]at aAp
       refine⟨v,N,M2,rfl,GA V .nil,.inr ⟨cs,len,(Z N F.gens).1,N .L k g',sz,cap,c,el,aAp,o1,o2,o3,o5, ?_,o7,hcl,xw,hlc,by simpa using hcx,hx,fun b G=>(Z b G).2⟩⟩
       rcases JR with rfl|JR
       ·exact .inr fun i hi=>o6 i (Nat.zero_le _) hi
       ·exact .inl (by rw[MY _ _ _ _ rfl];exact JR)
      ·cases D
     ·cases D
    ·cases D
   ·cases D
end
def pure_call{P:Program}{E:Env}(X:qg P E)(O:P.follows .mixedOrders=true){m f:Nat}{af:ai}(Av:E.fn f=some af)(Y:af.eff=false)(J:af.own=none){args:List T}{r:T}{U:List ah}(hc:cQ E m f args []=some (r,U))(w:World)(D:Array Value)
  (H:PList w (fun _ _=>False) args D.toList):Calls P f D w fun e w'=> ∃cv,e= .returned cv∧RowKit.Below w.heap.size w w'∧PRel w' (fun _ _=>False) r cv:=by
 have V:=(J6 X O m f af args [] r U Av hc).1 J
 rw[Y]at V
 let β:aQ:=fun _ _ _=>⟨0,0,0⟩
 have Af: ∀b,¬eE [] β b:=by rintro b ⟨k,F,_⟩;simp[aI,aH]at F;exact F.elim
 have I:bh ⟨w,fun _ _=>False,eE [] β⟩ (bare .nil []) w β (fun _ _=>False):=by
  have e: ∀sp k,(bare .nil []).get sp k=eS:=by intro sp k;cases sp <;> simp[bare,St.get,aI,aH,aE.get_nil]
  refine⟨fun sp k=> ?_,fun sp k dB k' W _ _=> ?_,fun _ _ h=>h.elim,fun k F=> ?_,fun k F=> ?_,rfl,rfl,rfl,Nat.le_refl _,fun _ _ _=>rfl,dG.refl _ _,fun _ _ _ _ O=>O⟩
  ·grind [dV,eS]
  ·rw[e]at W;exact W.elim
  ·rw[e]at F;exact F.elim
  ·rw[e]at F;exact F.elim
 refine(V w β _ D I H).mono ?_
 rintro e w' ⟨cv,ba,M',rfl,N,_,_,hr⟩
 refine⟨cv,rfl,⟨N.os,N.tape,N.output,N.size,fun b Z=>N.same b Z (Af b)⟩, ?_⟩
 exact PRel.mono (dq (fun _ _ h=>h.elim)) _ _ hr
end Go.Ev
namespace Go.Ev
open Go
inductive ER where
 |nil
 |nd (l:ER) (k:Nat) (v:ai) (r:ER)
def ER.find:ER→Nat→Option ai
 | .nil,_=>none
 | .nd l k v r,f=>bif Nat.beq f k then some v else bif Nat.ble f k then l.find f else r.find f
def ER.All(p:Nat→ai→Prop):ER→Prop
 | .nil=>True
 | .nd l k v r=>ER.All p l∧p k v∧ER.All p r
theorem ER.all_find{p:Nat→ai→Prop}{f:Nat}{v:ai}: ∀{t:ER},ER.All p t→t.find f=some v→p f v
 | .nil,_,h=>by simp[ER.find]at h
 | .nd l k u r,F,h=>by
   obtain⟨h1,h2,h3⟩:=F
   simp only[ER.find]at h
   cases D:Nat.beq f k with
   |true=>
    rw[D,cond_true]at h
    have:f=k:=Nat.eq_of_beq_eq_true D
    subst this
    cases h;exact h2
   |false=>
    rw[D,cond_false]at h
    cases hc:Nat.ble f k with
    |true=>rw[hc,cond_true]at h;exact ER.all_find h1 h
    |false=>rw[hc,cond_false]at h;exact ER.all_find h3 h
def Gk(P:Program)(f:Nat)(af:ai):Prop:= ∃hs r,P.funcs[f]? =some r∧EP P hs af.eff r=some af
def codeOk{P:Program}{f:Nat}{af:ai}{hs:List Nat}{r:Func}(h:P.funcs[f]? =some r)(k:EP P hs af.eff r=some af):Gk P f af:=⟨hs,r,h,k⟩
def ExtOk(P:Program)(f:Nat)(g:List T→Option T):Prop:=
 (∃F,P.funcs[f]? =some F∧(F.name== "runtime.NumGoroutine")=false∧F.body.isSome=true)∧
   ∀args r,g args=some r→ ∀(w:World) (M:MSet) (D:Array Value),(∀b o,M b o→b<w.heap.size)→PList w M args D.toList→
    Calls P f D w fun e w'=> ∃cv,e= .returned cv∧RowKit.Below w.heap.size w w'∧PRel w' (fun b _=>b<w.heap.size) r cv
def axg{P:Program}{t:ER}{x:Nat→Option (List T→Option T)}{y:Nat→Option (List T→Option (List T×Option Nat))}(h:ER.All (Gk P) t)(hx: ∀f g,x f=some g→ExtOk P f g)
  (F: ∀f g,y f=some g→(∃r,P.funcs[f]? =some r∧(r.name== "runtime.NumGoroutine")=false∧r.body.isSome=true)∧az7 P f g):qg P ⟨t.find,x,y⟩:=
 ⟨fun f af H=>ER.all_find h H,fun f g _ D=>hx f g D,fun f g _ _ D=>F f g D⟩
noncomputable abbrev ow(E:Env)(m f:Nat)(args:List T)(sh:List ah):Option (T×List ah):=cQ E m f args sh
def cI{E:Env}{m f:Nat}{args:List T}{sh:List ah}{r:Option (T×List ah)}(h:ow E m f args sh=r):cQ E m f args sh=r:=h
end Go.Ev
