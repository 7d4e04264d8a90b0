/- A tree evaluator over the model, proved against it (part D): where it answers, the call returns that answer. Conditions: none beyond its theorems' own. -/
import Derived.Test.YtnkgnjecmfkcfaaGreatEvC
set_option linter.unusedSimpArgs false
set_option linter.unusedVariables false
namespace Go.Ev
open Go
def bare(fr:Fr)(sh:List ah):St:={fr,lh:= .nil,sh}
theorem AJ(fr:Fr)(sh:List ah)(k:Nat):(bare fr sh).get .L k=eH:=by simp[bare,St.get,aI,aH,aD.get_nil]
theorem dL.shared{β aW:aO}{G G':Sp→Nat→Nat}{w:World}{M:MSet}{k:Nat}{e:ah}(Cv: ∀n g,g≤G .S n→aW .S n g=β .S n g)(r: ∀n,G .S n≤G' .S n)(D:e.g≤G .S k)(h:dL β G w M .S k e):dL aW G' w M .S k e:=by
 unfold dL at h ⊢
 rw[Cv k _ D]
 obtain⟨g,ob⟩:=e
 cases ob with
 |none=>trivial
 |cells cs H bx=>
  obtain⟨c,el,fz,h1,h2,h3,h4,h5,h6,F⟩:=h
  refine⟨c,el,fz,h1,h2,h3,h4, ?_,h6,F⟩
  cases bx
  ·exact h5
  ·exact uy.mono (dA.refl w M) Cv r h5
 |map ks I fz=>exact h
theorem E2{B:eS}{st:St}{w:World}{β:aO}{M:MSet}(h:ba B st w β M)(fr:Fr):ba B (bare fr st.sh) w β M:=by
 refine⟨fun sp k=> ?_,fun sp k H k' D F I=> ?_,h.mlt,fun k r=> ?_,fun k r=>h.sblk k r,h.os,h.tape,h.output,h.size,h.same,h.keep,h.msup⟩
 ·cases sp with
  |L=>grind [dL,eH,AJ]
  |S=>exact dL.shared (G:=st.gens) (β:=β) (fun _ _ _=>rfl) (fun _=>Nat.le_refl _) (Nat.le_refl _) (h.obj .S k)
 ·cases sp with
  |L=>rw[AJ]at D;exact D.elim
  |S=>
   cases H with
   |L=>rw[AJ]at F;exact F.elim
   |S=>exact h.dist .S k .S k' D F I
 ·rw[AJ]at r;exact r.elim
def eo(sh:List ah)(β:aO)(b:Nat):Prop:= ∃k,live (aI sh k)∧(β .S k (aI sh k).g).blk=b
theorem abG{B:eS}{st:St}{w:World}{β:aO}{M:MSet}(h:ba B st w β M)(fr:Fr):ba ⟨w,M,eo st.sh β⟩ (bare fr st.sh) w β M:=by
 have D:=E2 h fr
 refine⟨D.obj,D.dist,h.mlt,fun k r=> ?_,fun k r=> .inl ⟨k,r,rfl⟩,rfl,rfl,rfl,Nat.le_refl _,fun _ _ _=>rfl,dA.refl w M,fun _ _ _ _ F=>F⟩
 rw[AJ]at r;exact r.elim
theorem Vz{B:eS}{st:St}{w:World}{β:aO}{M:MSet}(h:ba B st w β M)(fr:Fr):ba ⟨w,M,fun _=>False⟩ (bare fr []) w β M:=by
 have e: ∀sp k,(bare fr []).get sp k=eH:=by intro sp k;cases sp <;> simp[bare,St.get,aI,aH,aD.get_nil]
 refine⟨fun sp k=> ?_,fun sp k H k' D _ _=> ?_,h.mlt,fun k r=> ?_,fun k r=> ?_,rfl,rfl,rfl,Nat.le_refl _,fun _ _ _=>rfl,dA.refl w M,fun _ _ _ _ F=>F⟩
 ·grind [dL,eH]
 ·rw[e]at D;exact D.elim
 ·rw[e]at r;exact r.elim
 ·rw[e]at r;exact r.elim
theorem Ii{B:eS}{st:St}{w w':World}{β:aO}{M:MSet}(h:ba B st w β M)(H:w'.os=w.os)(I:w'.tape=w.tape)(Qp:w'.output=w.output)(r:w.heap.size≤w'.heap.size)(F: ∀b,b<w.heap.size→w'.heap[b]? =w.heap[b]?):
  ba B st w' β M∧Tr st w β M st w' β M:=by
 have hk:dA w M w' M:=⟨fun b o v D _=>by rw[iO (w:=w) (F b (ux D))];exact D,fun b O c D _=>by rw[F b (mj D)];exact D,fun _ _ _ h=>h⟩
 refine⟨⟨fun sp k=> ?_,h.dist,fun b o J=>Nat.lt_of_lt_of_le (h.mlt b o J) r,h.lblk,h.sblk,H.trans h.os,I.trans h.tape,Qp.trans h.output,Nat.le_trans h.size r,fun b h1 h2=>(F b (Nat.lt_of_lt_of_le h1 h.size)).trans (h.same b h1 h2),h.keep.trans hk h.size,h.msup⟩,hk,fun _ _ _ _=>rfl,fun _ _=>Nat.le_refl _⟩
 exact dL.mono hk (fun _ _ _ _=>rfl) (fun _ _=>Nat.le_refl _) (Nat.le_refl _) (fun N=>F _ (h.lt N)) (fun _ _ J=>J) (h.obj sp k)
theorem akb{B:eS}{st:St}{w w':World}{β aW:aO}{M M':MSet}{aX:List ah}(h:ba B st w β M)(r:ba ⟨w,M,eo st.sh β⟩ (bare .nil aX) w' aW M')(Cv: ∀n g,g≤st.gens .S n→aW .S n g=β .S n g)(hG: ∀n,st.gens .S n≤(aI aX n).g):
  ba B {st with sh:=aX} w' (fun sp k g=>match sp with| .L=>β .L k g| .S=>aW .S k g) M'∧Tr st w β M {st with sh:=aX} w' (fun sp k g=>match sp with| .L=>β .L k g| .S=>aW .S k g) M':=by
 have V: ∀k,({st with sh:=aX}:St).get .L k=st.get .L k:=fun k=>rfl
 have W: ∀k,({st with sh:=aX}:St).get .S k=aI aX k:=fun k=>rfl
 have Vu: ∀sp k g,g≤st.gens sp k→(fun(sp:Sp) k g=>match sp with| .L=>β .L k g| .S=>aW .S k g:aO) sp k g=β sp k g:=by
  grind
 have DG: ∀sp k,st.gens sp k≤({st with sh:=aX}:St).gens sp k:=by
  grind
 have notS: ∀k,live (st.get .L k)→ ¬eo st.sh β (β .L k (st.gens .L k)).blk:=by
  rintro k D ⟨k',J,F⟩
  have:=h.dist .S k' .L k J D F
  cases this.1
 have X: ∀b,eo st.sh β b→B.SB b∨B.w.heap.size≤b:=by
  rintro b ⟨k,D,rfl⟩
  exact h.sblk k D
 have N: ∀k,live (aI aX k)→B.SB (aW .S k (aI aX k).g).blk∨B.w.heap.size≤(aW .S k (aI aX k).g).blk:=by
  intro k D
  rcases r.sblk k D with e|e
  ·exact X _ e
  ·exact .inr (Nat.le_trans h.size e)
 refine⟨⟨fun sp k=> ?_,fun sp k U k' H I F=> ?_,r.mlt,fun k D=>h.lblk k D,fun k D=>N k D,r.os.trans h.os,r.tape.trans h.tape,r.output.trans h.output,Nat.le_trans h.size r.size,fun b h1 h2=> ?_,h.keep.trans r.keep h.size,fun b o h1 h2 h3=> ?_⟩,r.keep,Vu,DG⟩
 ·cases sp with
  |L=>
   refine dL.mono r.keep Vu DG (Nat.le_refl _) (fun D=> ?_) (fun D o Y=> ?_) (h.obj .L k)
   ·exact r.same _ (h.lt D) (notS k D)
   ·exact r.msup _ o (h.lt D) (notS k D) Y
  |S=>exact dL.shared (G:=(bare .nil aX).gens) (β:=aW) (fun _ _ _=>rfl) (fun _=>Nat.le_refl _) (Nat.le_refl _) (r.obj .S k)
 ·cases sp with
  |L=>
   cases U with
   |L=>exact h.dist .L k .L k' H I F
   |S=>
    exfalso
    have Nz:(β .L k (st.gens .L k)).blk=(aW .S k' (aI aX k').g).blk:=F
    rcases r.sblk k' I with e|e
    ·exact notS k H (by rw[Nz];exact e)
    ·have:=h.lt (sp:= .L) (k:=k) H
     have Z:w.heap.size≤(aW .S k' (aI aX k').g).blk:=e
     omega
  |S=>
   cases U with
   |L=>
    exfalso
    have Nz:(aW .S k (aI aX k).g).blk=(β .L k' (st.gens .L k')).blk:=F
    rcases r.sblk k H with e|e
    ·exact notS k' I (by rw[←Nz];exact e)
    ·have:=h.lt (sp:= .L) (k:=k') I
     have Z:w.heap.size≤(aW .S k (aI aX k).g).blk:=e
     omega
   |S=>exact r.dist .S k .S k' H I F
 ·have O: ¬eo st.sh β b:=fun hs=>by
   grind
  exact(r.same b (Nat.lt_of_lt_of_le h1 h.size) O).trans (h.same b h1 h2)
 ·have O: ¬eo st.sh β b:=fun hs=>by
   grind
  exact r.msup b o (Nat.lt_of_lt_of_le h1 h.size) O (h.msup b o h1 h2 h3)
def Ij(M:MSet)(S:H3):MSet:=fun b x=>M b x∨(b=S.blk∧S.off≤x∧x<S.off+S.ext)
theorem akc{B:eS}{st:St}{w w':World}{β:aO}{M:MSet}(h:ba B st w β M)(W:w'.os=w.os)(X:w'.tape=w.tape)(Qp:w'.output=w.output)(H:w.heap.size≤w'.heap.size)(D: ∀b,b<w.heap.size→w'.heap[b]? =w.heap[b]?)
  (k g:Nat) (hg:st.gens .L k<g) (S:H3) (hS:w.heap.size≤S.blk) (hS2:S.blk<w'.heap.size) (ob:Ob)
  (ho:dL (gI β .L k g S) (st.up (.L,k,⟨g,ob⟩)).gens w' (Ij M S) .L k ⟨g,ob⟩):
  ba B (st.up (.L,k,⟨g,ob⟩)) w' (gI β .L k g S) (Ij M S)∧Tr st w β M (st.up (.L,k,⟨g,ob⟩)) w' (gI β .L k g S) (Ij M S):=by
 have hk:dA w M w' (Ij M S):=⟨fun b o v I _=>by rw[iO (w:=w) (D b (ux I))];exact I,fun b es c I _=>by rw[D b (mj I)];exact I,fun b x J hm=>hm.resolve_right (fun e=>by have:=e.1;omega)⟩
 have J: ∀r k' Y,Y≤st.gens r k'→gI β .L k g S r k' Y=β r k' Y:=by
  grind [uz]
 have hG: ∀r k',st.gens r k'≤(st.up (.L,k,⟨g,ob⟩)).gens r k':=by
  intro r k'
  rw[eh]
  grind
 have V: ∀r k',(gI β .L k g S r k' ((st.up (.L,k,⟨g,ob⟩)).gens r k'))=if r= .L∧k'=k then S else β r k' (st.gens r k'):=by
  grind [eh,bM]
 refine⟨⟨fun r k'=> ?_,fun Z k1 sp2 k2 N O U=> ?_,fun b x hm=> ?_,fun k' F=> ?_,fun k' F=> ?_,W.trans h.os,X.trans h.tape,Qp.trans h.output,Nat.le_trans h.size H,fun b J hn=> ?_,h.keep.trans hk h.size,fun b x h1 h2 h3=> .inl (h.msup b x h1 h2 h3)⟩,hk,J,hG⟩
 ·rw[e9]
  split
  ·grind
  ·exact dL.mono hk J hG (Nat.le_refl _) (fun F=>D _ (h.lt F)) (fun _ _ hm=> .inl hm) (h.obj r k')
 ·rw[V,V]at U
  rw[e9]at N O
  by_cases e1:Z= .L∧k1=k <;> by_cases e2:sp2= .L∧k2=k
  ·grind
  ·rw[if_pos e1,if_neg e2]at U;rw[if_neg e2]at O
   have:=h.lt O;omega
  ·rw[if_neg e1,if_pos e2]at U;rw[if_neg e1]at N
   have:=h.lt N;omega
  ·rw[if_neg e1,if_neg e2]at U;rw[if_neg e1]at N;rw[if_neg e2]at O
   exact h.dist _ _ _ _ N O U
 ·rcases hm with hm|hm
  ·exact Nat.lt_of_lt_of_le (h.mlt b x hm) H
  ·grind
 ·rw[V];rw[e9]at F
  split
  ·exact Nat.le_trans h.size hS
  ·rename_i e;rw[if_neg e]at F;exact h.lblk k' F
 ·rw[V];rw[e9]at F
  rw[if_neg (by rintro⟨e,_⟩;cases e)]at F ⊢
  exact h.sblk k' F
 ·have:=h.size
  rw[D b yv];exact h.same b J hn
theorem rD{w w':World}{M M':MSet}: ∀{cs:List T} {r:List Value},cs.all iK=true→PList w M cs r→PList w' M' cs r
 | [],r,_,h=>by grind [PList]
 |t::ts,r,hs,h=>by
  simp only[List.all_cons,Bool.and_eq_true]at hs
  simp only[PList]at h ⊢
  obtain⟨u,us,rfl,h1,h2⟩:=h
  refine⟨u,us,rfl, ?_,rD hs.2 h2⟩
  have D:=hs.1
  cases t <;> simp[iK]at D <;> simpa only[PRel]using h1
def NA:Value→Nat→Option Value
 | .tuple a,j=>if j<100 then a[j]? else match a[j/100-1]? with
   |some (.agg b)=>b[j%100]?
   |_=>none
 | .agg a,j=>a[j]?
 |v,_=>some v
def ky:Value→Nat→Value→Value
 | .tuple a,j,x=>if j<100 then .tuple (a.setIfInBounds j x)else match a[j/100-1]? with
   |some (.agg b)=> .tuple (a.setIfInBounds (j/100-1) (.agg (b.setIfInBounds (j%100) x)))
   |_=> .tuple a
 | .agg a,j,x=> .agg (a.setIfInBounds j x)
 |_,_,x=>x
abbrev jy:Value:= .slice none 0 0
section
variable{β:aO}{G:Sp→Nat→Nat}{w:World}{M:MSet}
theorem av.set: ∀{ts:List T} {r:List Value} (j:Nat) {t:T} {v:Value},av β G w M ts r→aq β G w M t v→av β G w M (ts.set j t) (r.set j v)
 | [],r,j,t,v,h,_=>by grind [av]
 |t::ts,r,0,F,H,h,D=>by
  grind [av]
 |t::ts,r,j+1,F,H,h,D=>by
  simp only[av]at h;obtain⟨u,us,rfl,h1,h2⟩:=h
  simp only[List.set_cons_succ,av]
  exact⟨_,_,rfl,h1,av.set j h2 D⟩
theorem uO{cs:List T}{j:Nat}{t:T}(h:cs.all single=true)(r:single t=true):(cs.set j t).all single=true:=by
 grind
theorem AK{cs:List T}{j:Nat}{t u:T}(h:(cs.set j u).all single=true)(r:single t=true):(cs.set j t).all single=true:=by
 have:=uO (j:=j) h r
 simp_all
theorem VA{r y t:T}{v u:Value}{j:Nat}(h:aq β G w M r v)(D:eM r j=some y)(F:aq β G w M t u)(hs:single t=true):
  (∃x,NA v j=some x∧aq β G w M y x)∧aq β G w M (aL r j t) (ky v j u):=by
 cases r
 case tup vs=>
  simp only[aq]at h;obtain⟨a,rfl,H⟩:=h
  simp only[eM]at D
  by_cases AL:j<100
  ·rw[if_pos AL]at D
   obtain⟨x,h1,h2⟩:=H.get D
   refine⟨⟨x,by simpa[NA,AL]using h1,h2⟩, ?_⟩
   simp only[aL,ky,aq,AL,if_true]
   exact⟨_,rfl,by simpa using av.set j H F⟩
  ·rw[if_neg AL]at D
   cases hi:vs[j/100-1]? with
   |none=>grind
   |some U=>
    rw[hi]at D
    cases U <;> try (simp only at D;cases D;done)
    rename_i cs
    simp only at D
    obtain⟨x0,V,N⟩:=H.get hi
    simp only[aq]at N;obtain⟨b,rfl,O,W⟩:=N
    obtain⟨x,h1,h2⟩:=O.get D
    have I:a[j/100-1]? =some (.agg b):=by simpa using V
    refine⟨⟨x,by simpa[NA,AL,I]using h1,h2⟩, ?_⟩
    simp only[aL,ky,AL,if_false,hi,I,aq]
    refine⟨_,rfl, ?_⟩
    rw[Array.toList_setIfInBounds]
    refine av.set _ H ?_
    simp only[aq]
    exact⟨_,rfl,by simpa using av.set (j%100) O F,uO W hs⟩
 case agg cs=>
  simp only[aq]at h;obtain⟨a,rfl,H,J⟩:=h
  simp only[eM]at D
  obtain⟨x,h1,h2⟩:=H.get D
  refine⟨⟨x,by simpa[NA]using h1,h2⟩, ?_⟩
  simp only[aL,ky,aq]
  exact⟨_,rfl,by simpa using av.set j H F,uO J hs⟩
 case any=>simp[eM]at D
 all_goals
  simp only[eM,Option.some.injEq]at D;subst D
  refine⟨⟨v, ?_,h⟩, ?_⟩
  ·simp only[aq,PRel]at h
   first
    |(subst h;rfl)
    |(obtain⟨_,rfl,_⟩:=h;rfl)
    |(obtain⟨_,_,rfl,_⟩:=h;rfl)
    |(obtain⟨_,_,_,rfl,_⟩:=h;rfl)
    |(obtain⟨_,_,_,_,rfl,_⟩:=h;rfl)
    |(obtain⟨_,rfl⟩:=h;rfl)
  ·simp only[aq,PRel]at h
   first
    |(subst h;exact F)
    |(obtain⟨_,rfl,_⟩:=h;exact F)
    |(obtain⟨_,_,rfl,_⟩:=h;exact F)
    |(obtain⟨_,_,_,rfl,_⟩:=h;exact F)
    |(obtain⟨_,_,_,_,rfl,_⟩:=h;exact F)
    |(obtain⟨_,rfl⟩:=h;exact F)
theorem qn{a:Array Value}{j:Nat}{x y:Value}(h:a[j]? =some x):(a.toList.set j y).set j x=a.toList:=by
 rw[List.set_set]
 have r:a.toList[j]? =some x:=by simpa using h
 grind [List.getElem?_eq_some_iff.1,List.set_getElem_self]
theorem AM(a:Array Value)(j:Nat)(x:Value): ∃b,ky (.tuple a) j x= .tuple b:=by
 simp only[ky]
 split
 ·grind
 ·split <;> exact⟨_,rfl⟩
theorem AN{v:Value}{j:Nat}(h: ∀a,ky v j jy≠ .tuple a)(r: ∀a,ky v j jy≠ .agg a):ky v j jy=jy∧NA v j=some v:=by
 cases v
 case tuple a=>obtain⟨b,D⟩:=AM a j jy;exact absurd D (h _)
 all_goals first|exact⟨rfl,rfl⟩|exact absurd rfl (r _)
theorem abH{r t:T}{cv x:Value}{j:Nat}(h:aq β G w M (aL r j .nilsl) (ky cv j jy))(hx:NA cv j=some x)(I:aq β G w M t x)(hs:single t=true):aq β G w M (aL r j t) cv:=by
 cases r
 case tup vs=>
  by_cases AL:j<100
  ·simp only[aL,AL,if_true,aq]at h ⊢
   obtain⟨a,D,F⟩:=h
   cases cv <;> simp[ky,AL]at D
   rename_i a0
   subst D
   simp only[NA,AL,if_true]at hx
   refine⟨a0,rfl, ?_⟩
   have:=av.set j F I
   grind [List.set_set,Array.toList_setIfInBounds,qn]
  ·have N: ∃a0 b,cv= .tuple a0∧a0[j/100-1]? =some (.agg b)∧b[j%100]? =some x:=by
    cases cv
    case tuple a0=>
     grind [NA,hi]
    all_goals
     exfalso
     simp only[aL,AL,if_false]at h
     split at h <;> (simp only[ky,aq]at h;obtain⟨_,h,_⟩:=h;cases h)
   obtain⟨a0,b,rfl,J,V⟩:=N
   simp only[ky,AL,if_false,J]at h
   simp only[aL,AL,if_false]at h ⊢
   split at h
   ·rename_i cs hi
    simp only[aq]at h ⊢
    obtain⟨a,D,F⟩:=h
    cases D
    refine⟨a0,rfl, ?_⟩
    have W:j/100-1<vs.length:=(List.getElem?_eq_some_iff.1 hi).1
    have H:aq β G w M (.agg (cs.set (j%100) .nilsl)) (.agg (b.setIfInBounds (j%100) jy)):=by
     obtain⟨x1,e1,e2⟩:=F.get (List.getElem?_set_self W)
     rw[Array.toList_setIfInBounds,List.getElem?_set_self (by have:=(Array.getElem?_eq_some_iff.1 J).1;simpa using this)]at e1
     cases e1;exact e2
    have O:aq β G w M (.agg (cs.set (j%100) t)) (.agg b):=by
     simp only[aq]at H ⊢
     obtain⟨b1,X,Kz,Y⟩:=H
     cases X
     refine⟨b,rfl, ?_,AK Y hs⟩
     have:=av.set (j%100) Kz I
     rw[List.set_set,Array.toList_setIfInBounds,qn V]at this
     exact this
    have:=av.set (j/100-1) F O
    rw[List.set_set,Array.toList_setIfInBounds,qn J]at this
    exact this
   ·simp only[aq]at h ⊢
    obtain⟨a,D,F⟩:=h
    cases D
    refine⟨a0,rfl, ?_⟩
    have:=av.set (j/100-1) (t:= .any) (v:= .agg b) F (by simp only[aq])
    rw[List.set_set,Array.toList_setIfInBounds,qn J]at this
    exact this
 case agg cs=>
  simp only[aL,aq]at h ⊢
  obtain⟨a,D,F,U⟩:=h
  cases cv
  case tuple a'=>obtain⟨b,Z⟩:=AM a' j jy;rw[Z]at D;cases D
  all_goals simp[ky]at D
  rename_i a0
  subst D
  simp only[NA]at hx
  refine⟨a0,rfl, ?_,AK U hs⟩
  have:=av.set j F I
  grind [List.set_set,Array.toList_setIfInBounds,qn]
 case any=>simp only[aL,aq]
 all_goals
  simp only[aL,aq]at h ⊢
  obtain⟨h1,h2⟩:=AN (v:=cv) (j:=j) (fun a e=>by rw[e]at h;cases h) (fun a e=>by rw[e]at h;cases h)
  rw[h2]at hx
  cases hx
  exact I
def okC:T→Nat→Prop
 | .any,_=>False
 | .tup r,j=>j<100∨ ∃cs,r[j/100-1]? =some (.agg cs)
 |_,_=>True
theorem VB{p:T}{v x:Value}{j:Nat}{cs:List T}{len:Nat}{ex:Bool}(D:okC p j)(h:aq β G w M p (ky v j jy))(hx:NA v j=some x):
  eM (aL p j (.sl cs len ex)) j=some (.sl cs len ex)∧aq β G w M (aL (aL p j (.sl cs len ex)) j .nilsl) (ky v j jy):=by
 have J:aq β G w M .nilsl jy:=by simp only[aq]
 cases p
 case tup vs=>
  simp only[aq]at h
  obtain⟨a,r,F⟩:=h
  by_cases AL:j<100
  ·cases v <;> simp[ky,AL]at r
   rename_i a0
   subst r
   simp only[NA,AL,if_true]at hx
   have N:=av.length _ _ F
   simp at N
   obtain⟨W,_⟩:=Array.getElem?_eq_some_iff.1 hx
   refine⟨by simp only[aL,eM,AL,if_true];rw[List.getElem?_set_self yv], ?_⟩
   simp only[aL,ky,aq,List.set_set,AL,if_true]
   refine⟨_,rfl, ?_⟩
   have:=av.set j F J
   rw[Array.toList_setIfInBounds,List.set_set]at this
   rw[Array.toList_setIfInBounds];exact this
  ·have D:j<100∨ ∃cs,vs[j/100-1]? =some (.agg cs):=D
   obtain⟨H,hi⟩:=D.resolve_left AL
   cases v
   case tuple a0=>
    simp only[NA,AL,if_false]at hx
    cases hk:a0[j/100-1]? with
    |none=>grind
    |some X=>
     rw[hk]at hx
     cases X <;> try (simp only at hx;cases hx;done)
     rename_i b
     simp only at hx
     simp only[ky,AL,if_false,hk]at r ⊢
     cases r
     have V:j/100-1<vs.length:=(List.getElem?_eq_some_iff.1 hi).1
     have I:aq β G w M (.agg H) (.agg (b.setIfInBounds (j%100) jy)):=by
      obtain⟨x1,e1,e2⟩:=F.get hi
      rw[Array.toList_setIfInBounds,List.getElem?_set_self (by have:=(Array.getElem?_eq_some_iff.1 hk).1;simpa using this)]at e1
      cases e1;exact e2
     simp only[aq]at I
     obtain⟨b1,Y,Kz,Z⟩:=I
     cases Y
     have O:=av.length _ _ Kz
     simp at O
     obtain⟨hj2,_⟩:=Array.getElem?_eq_some_iff.1 hx
     refine⟨?_, ?_⟩
     ·simp only[aL,eM,AL,if_false,hi]
      rw[List.getElem?_set_self V]
      simp only
      rw[List.getElem?_set_self yv]
     ·simp only[aL,AL,if_false,hi]
      rw[List.getElem?_set_self V]
      simp only[List.set_set,aq]
      refine⟨_,rfl, ?_⟩
      have h3:aq β G w M (.agg (H.set (j%100) .nilsl)) (.agg (b.setIfInBounds (j%100) jy)):=by
       simp only[aq]
       refine⟨_,rfl, ?_,uO Z rfl⟩
       have:=av.set (j%100) Kz J
       rw[Array.toList_setIfInBounds,List.set_set]at this
       rw[Array.toList_setIfInBounds];exact this
      have:=av.set (j/100-1) F h3
      rw[Array.toList_setIfInBounds,List.set_set]at this
      rw[Array.toList_setIfInBounds];exact this
   all_goals (simp only[ky]at r;cases r)
 case agg vs=>
  simp only[aq]at h
  obtain⟨a,r,F,U⟩:=h
  cases v
  case tuple a'=>obtain⟨b,hb⟩:=AM a' j jy;rw[hb]at r;cases r
  all_goals simp[ky]at r
  rename_i a0
  subst r
  simp only[NA]at hx
  have N:=av.length _ _ F
  simp at N
  obtain⟨W,_⟩:=Array.getElem?_eq_some_iff.1 hx
  refine⟨by simp only[aL,eM];rw[List.getElem?_set_self yv], ?_⟩
  simp only[aL,ky,aq,List.set_set]
  refine⟨_,rfl, ?_,uO U rfl⟩
  have:=av.set j F J
  rw[Array.toList_setIfInBounds,List.set_set]at this
  rw[Array.toList_setIfInBounds];exact this
 case any=>exact D.elim
 all_goals
  refine⟨rfl, ?_⟩
  simp only[aL]
  have hp:ky v j jy=jy:=by
   grind [aq,PRel,AN]
  rw[hp];exact J
end
def VC(P:Program)(f:Nat)(F:Bool)(args:List T)(sh:List ah)(r:T)(H:List ah):Prop:=
 ∀(w:World) (β:aO) (M:MSet) (D:Array Value),ba ⟨w,M,eo sh β⟩ (bare .nil sh) w β M→iP F β (bare .nil sh).gens w M args D.toList→
  Calls P f D w fun e w'=> ∃cv I M',e= .returned cv∧ba ⟨w,M,eo sh β⟩ (bare .nil H) w' I M'∧(∀n g,g≤(aI sh n).g→I .S n g=β .S n g)∧(∀n,(aI sh n).g≤(aI H n).g)∧oH F I (bare .nil H).gens w' M' r cv
theorem Le(p x y:T)(j:Nat)(h:single x=true):aL (aL p j x) j y=aL p j y:=by
 cases p
 case tup vs=>
  by_cases r:j<100
  ·grind [aL,List.set_set]
  grind [aL,List.set_eq_of_length_le,hi,List.getElem?_set_self,List.set_set,List.getElem?_eq_none_iff.1,List.getElem?_eq_some_iff.1]
 case agg vs=>simp only[aL,List.set_set]
 all_goals first|(simp only[aL];done)|(simp only[aL];cases x <;> first|rfl|cases h)
def au8(w w':World)(M:MSet)(r:T)(j:Nat)(cs:List T)(len:Nat)(cv:Value):Prop:=
 ∃(S:H3) (sz D:Nat) (c:Array Value) (el:TypeId),w.heap.size≤S.blk∧w'.heap[S.blk]? =some (.cells c el (0,0))∧S.off+S.ext≤c.size∧cs.length≤S.ext∧PList w' M cs ((c.toList.drop S.off).take cs.length)∧(mi (aL r j .nilsl)=true∨ ∀i,i<S.ext→M S.blk (S.off+i))∧
  cs.all single=true∧cs.length=len*sz∧len≠0∧len≤D∧D*sz≤S.ext∧NA cv j=some (.slice (some ⟨S.blk,S.off,none⟩) len D)∧ ∀β G,aq β G w' M (aL r j .nilsl) (ky cv j jy)
def Qq(P:Program)(f:Nat)(args:List T)(sh:List ah)(j:Nat)(r:T)(F:List ah):Prop:=
 ∀(w:World) (β:aO) (M:MSet) (D:Array Value),ba ⟨w,M,eo sh β⟩ (bare .nil sh) w β M→iP false β (bare .nil sh).gens w M args D.toList→
  Calls P f D w fun e w'=> ∃cv H M',e= .returned cv∧ba ⟨w,M,eo sh β⟩ (bare .nil F) w' H M'∧
   ((eM r j=some .nilsl∧PRel w' M' r cv)∨ ∃cs len,eM r j=some (.sl cs len false)∧au8 w w' M' r j cs len cv)
def NB(r off D:Nat):Option Nat→Value
 |none=> .tuple #[]
 |some n=> .slice (some ⟨r,off,none⟩) n D
def au9(P:Program)(f:Nat)(h:List T→Option (List T×Option Nat)):Prop:=
 (∀r,h []=some ([],r)→r.getD 0=0→ ∀w:World,Calls P f #[jy] w fun e w'=>e= .returned (match r with|none=> .tuple #[]|some _=>jy)∧RowKit.Below w.heap.size w w')∧
 ∀cs H r,h cs=some (H,r)→H.length=cs.length→ ∀(w:World) (M:MSet) (D off F:Nat) (c:Array Value) (el:TypeId) (I:List Value),w.heap[D]? =some (.cells c el (0,0))→off+cs.length≤c.size→cs.length≤F→(c.toList.drop off).take cs.length=I→PList w M cs I→
  Calls P f #[.slice (some ⟨D,off,none⟩) cs.length F] w fun e w'=> ∃us,e= .returned (NB D off F r)∧PList w M H us∧RowKit.Below w.heap.size (setBlock w D (.cells (splice c.toList off us).toArray el)) w'
def px(P:Program)(E:Env):Prop:=
 (∀f af,E.fn f=some af→ ∃hs F,P.funcs[f]? =some F∧Dr P hs af.eff F=some af)∧
 (∀f g,E.fn f=none→E.ext f=some g→(∃F,P.funcs[f]? =some F∧(F.name== "runtime.NumGoroutine")=false∧F.body.isSome=true)∧
   ∀args r,g args=some r→ ∀(w:World) (M:MSet) (D:Array Value),(∀b o,M b o→b<w.heap.size)→PList w M args D.toList→
    Calls P f D w fun e w'=> ∃cv,e= .returned cv∧RowKit.Below w.heap.size w w'∧PRel w' (fun b _=>b<w.heap.size) r cv)∧
 (∀f h,E.fn f=none→E.ext f=none→E.wr f=some h→(∃F,P.funcs[f]? =some F∧(F.name== "runtime.NumGoroutine")=false∧F.body.isSome=true)∧
   au9 P f h)
def uP(P:Program)(E:Env)(call:jP):Prop:= ∀f af args sh r D,E.fn f=some af→call f args sh=some (r,D)→(af.own=none→VC P f af.eff args sh r D)∧(∀j,af.own=some j→af.eff=false∧Qq P f args sh j r D)
theorem AO{st bq:St}{a:Act}{w w':World}{β aW:aO}{M M':MSet}{n:Nat}{d:Option Nat}{v:T}{cv:Value}{fr:Fr}(r:iN st a w β M n)(H:Tr st w β M bq w' aW M')(D:gz st.fr n d v=some fr)(I:aq aW bq.gens w' M' v cv):
  iN {bq with fr} (a.put d cv) w' aW M' n:=by
 cases d with
 |none=>
  simp[gz]at D;subst D
  exact⟨r.size,r.defers,fun t=>H.val (r.slot t)⟩
 |some d=>
  simp only[gz]at D
  split at D
  ·rename_i J
   simp at D;subst D
   refine⟨by simp[Act.put,r.size],r.defers,fun t=> ?_⟩
   have e1:aa (cH st.fr d v) t=if t=d then v else aa st.fr t:=lr st.fr d v t
   have e2:(a.put (some d) cv).tmps.getD t undef=if t=d then cv else a.tmps.getD t undef:=by
    simp only[Act.put,Array.getD_eq_getD_getElem?,Array.getElem?_setIfInBounds]
    by_cases F:d=t
    ·subst F;rw[if_pos rfl,if_pos (by rw[r.size];exact J),if_pos rfl];rfl
    ·grind
   show aq aW bq.gens w' M' (aa (cH st.fr d v) t) _
   rw[e1,e2]
   split
   ·exact I
   ·exact H.val (r.slot t)
  ·cases D
end Go.Ev
namespace Go.Ev
open Go
theorem abI{B:eS}{st:St}{w:World}{β:aO}{M:MSet}(h:ba B st w β M)(fr:Fr):ba B {st with fr} w β M:=
 ⟨h.obj,h.dist,h.mlt,h.lblk,h.sblk,h.os,h.tape,h.output,h.size,h.same,h.keep,h.msup⟩
theorem Tr.fr{st bq:St}{w w':World}{β aW:aO}{M M':MSet}(h:Tr st w β M bq w' aW M')(fr:Fr):Tr st w β M {bq with fr} w' aW M':=⟨h.keep,h.beta,h.gens⟩
theorem Lf{w w':World}{M M':MSet}{r:T}{cv:Value}(hs:scalar r=true)(h:PRel w M r cv):PRel w' M' r cv:=by
 cases r <;> simp[scalar]at hs
 case tup vs=>
  simp only[PRel]at h ⊢
  obtain⟨a,rfl,D⟩:=h
  refine⟨a,rfl, ?_⟩
  generalize a.toList=l at D
  induction vs generalizing l with
  |nil=>grind [PList]
  |cons t ts ih=>
   simp only[PList]at D ⊢
   obtain⟨u,us,rfl,h1,h2⟩:=D
   have F:=hs t xv
   grind [PRel]
 all_goals simpa only[PRel]using h
theorem sZ{β aW:aO}{G G':Sp→Nat→Nat}{w w':World}{M M':MSet}: ∀{cs:List T} {r:List Value},cs.all iK=true→av β G w M cs r→av aW G' w' M' cs r
 | [],r,_,h=>by grind [av]
 |t::ts,r,hs,h=>by
  simp only[List.all_cons,Bool.and_eq_true]at hs
  simp only[av]at h ⊢
  obtain⟨u,us,rfl,h1,h2⟩:=h
  refine⟨u,us,rfl, ?_,sZ hs.2 h2⟩
  have D:=hs.1
  cases t <;> simp[iK]at D <;> simpa only[aq]using h1
theorem Qr{w w':World}{M M':MSet}{r:T}{cv:Value}(hs:mi r=true)(h:PRel w M r cv):PRel w' M' r cv:=by
 cases r <;> simp[mi,iK]at hs
 case tup vs=>
  simp only[PRel]at h ⊢
  obtain⟨a,rfl,D⟩:=h
  refine⟨a,rfl, ?_⟩
  generalize a.toList=l at D
  induction vs generalizing l with
  |nil=>grind [PList]
  |cons t ts ih=>
   simp only[PList]at D ⊢
   obtain⟨u,us,rfl,h1,h2⟩:=D
   have H:=hs t xv
   refine⟨u,us,rfl, ?_,ih (fun x hx=>hs x (by simp[hx])) us h2⟩
   cases t <;> simp[iK]at H <;> try (simpa only[PRel]using h1;done)
   simp only[PRel]at h1 ⊢
   obtain⟨b,rfl,I,F⟩:=h1
   exact⟨b,rfl,rD (List.all_eq_true.2 fun x hx=>H x hx) I,F⟩
 case agg vs=>
  simp only[PRel]at h ⊢
  obtain⟨a,rfl,D,F⟩:=h
  exact⟨a,rfl,rD (List.all_eq_true.2 fun x hx=>hs x hx) D,F⟩
 all_goals simpa only[PRel]using h
theorem Lh{β aW:aO}{G G':Sp→Nat→Nat}{w w':World}{M M':MSet}{r:T}{cv:Value}(hs:mi r=true)(h:aq β G w M r cv):aq aW G' w' M' r cv:=by
 cases r <;> simp[mi,iK]at hs
 case tup vs=>
  simp only[aq]at h ⊢
  obtain⟨a,rfl,D⟩:=h
  refine⟨a,rfl, ?_⟩
  generalize a.toList=l at D
  induction vs generalizing l with
  |nil=>grind [av]
  |cons t ts ih=>
   simp only[av]at D ⊢
   obtain⟨u,us,rfl,h1,h2⟩:=D
   have H:=hs t xv
   refine⟨u,us,rfl, ?_,ih (fun x hx=>hs x (by simp[hx])) us h2⟩
   cases t <;> simp[iK]at H <;> try (simpa only[aq]using h1;done)
   simp only[aq]at h1 ⊢
   obtain⟨b,rfl,I,F⟩:=h1
   exact⟨b,rfl,sZ (List.all_eq_true.2 fun x hx=>H x hx) I,F⟩
 case agg vs=>
  simp only[aq]at h ⊢
  obtain⟨a,rfl,D,F⟩:=h
  exact⟨a,rfl,sZ (List.all_eq_true.2 fun x hx=>hs x hx) D,F⟩
 all_goals simpa only[aq]using h
section
variable{P:Program}{E:Env}{call:jP}{B:eS}{st:St}{a:Act}{w:World}{β:aO}{M:MSet}{o:Oper}
theorem oM{f:Nat}{D:Func}(H:P.funcs[f]? =some D)(I:(D.name== "runtime.NumGoroutine")=false)(F:D.body.isSome=true)(r:Array Value)(w:World):(callFunc f r).run P w= .ok (.enter f r) w:=by
 have h1: ¬D.name= "runtime.NumGoroutine" :=by simpa using I
 have h2: ¬D.body=none:=by intro e;rw[e]at F;simp at F
 simp[callFunc,H,h1,h2]
theorem Qs(I:jS β st.gens w M st.rho a.eval){c:Call}(N:o.op= .call c){sh:Nat}{KE:mh}(hc:nD P sh c=some KE){f:Nat}{r:List T}(F:bB st.rho KE=some (some (f,r))):
  ∃D:Array Value,(execOp a.eval o).run P w=(callFunc f D).run P w∧av β st.gens w M r D.toList:=by
 unfold nD at hc
 split at hc
 ·rename_i O H
  simp only[Option.map_eq_some_iff]at hc
  obtain⟨as,h1,rfl⟩:=hc
  simp[bB]at F
  obtain⟨rfl,rfl⟩:=F
  refine⟨c.args.map a.eval, ?_,by simpa using ry I h1⟩
  simp[execOp,N,resolve,H,Deferred.ofValue,Act.eval,invoke]
 ·rename_i x U H
  split at hc
  ·rename_i y as h1 h2
   simp at hc;subst hc
   simp only[bB,Option.some.injEq]at F
   split at F
   ·rename_i O Z fc e
    simp at F
    obtain⟨rfl,rfl⟩:=F
    have J:=I x y h1
    rw[e]at J
    simp only[aq]at J
    obtain⟨V,W,e1,X,Y⟩:=J
    refine⟨V++c.args.map a.eval++W, ?_, ?_⟩
    ·simp[execOp,N,resolve,H,e1,Deferred.ofValue,invoke]
    ·have:=av.append (av.append X (ry I h2)) Y
     simpa using this
   ·simp at F
  ·cases hc
 all_goals
  exfalso
  revert F
  try (simp only[Option.map_eq_some_iff]at hc;obtain⟨as,h1,rfl⟩:=hc;simp[bB];done)
  try (cases hc;done)
 ·grind [bB]
 ·split at hc
  ·grind [bB]
  ·cases hc
theorem Qt{sh:Nat}{op:Op}{KE:mh}{ρ:aP→T}{x:Option (Nat×List T)}(h:cE P sh op=some KE)(hc:bB ρ KE=some x): ∃c,op= .call c∧nD P sh c=some KE:=by
 cases op with
 |call c=>exact⟨c,rfl,h⟩
 |makeFunc D first F=>
  exfalso
  cases D <;> simp only[cE]at h <;> try (cases h;done)
  grind [bB]
 |makeMap t r=>
  exfalso
  cases r <;> simp only[cE]at h
  ·grind [bB]
  ·cases h
 |_=>
  grind [cE,Option.map_eq_some_iff,bB]
theorem ava(h:ba B st w β M){f:Nat}{g:List T→Option (List T×Option Nat)}
  (hnil: ∀r,g []=some ([],r)→r.getD 0=0→ ∀w:World,Calls P f #[jy] w fun e w'=>e= .returned (match r with|none=> .tuple #[]|some _=>jy)∧RowKit.Below w.heap.size w w')
  (qo: ∀cs ys r,g cs=some (ys,r)→ys.length=cs.length→ ∀(w:World) (M:MSet) (V off J:Nat) (c:Array Value) (el:TypeId) (vs:List Value),w.heap[V]? =some (.cells c el (0,0))→off+cs.length≤c.size→cs.length≤J→(c.toList.drop off).take cs.length=vs→PList w M cs vs→
    Calls P f #[.slice (some ⟨V,off,none⟩) cs.length J] w fun e w'=> ∃us,e= .returned (NB V off J r)∧PList w M ys us∧RowKit.Below w.heap.size (setBlock w V (.cells (splice c.toList off us).toArray el)) w')
  {N:List T} {H:Array Value} (hv:av β st.gens w M N H.toList) {r:T} {O:St} (F:Vj g st N=some (r,O)):
  O.fr=st.fr∧Calls P f H w fun e w'=> ∃cv W M',e= .returned cv∧ba B O w' W M'∧Tr st w β M O w' W M'∧w.heap.size≤w'.heap.size∧aq W O.gens w' M' r cv:=by
 unfold Vj at F
 split at F
 ·have hc:H= #[jy]:=by
   grind [av,aq,Array.toList_inj.1]
  subst hc
  have fin: ∀X:Option Nat,g []=some ([],X)→X.getD 0=0→O=st→(∀W M' w',aq W st.gens w' M' r (match X with|none=> .tuple #[]|some _=>jy))→
    O.fr=st.fr∧Calls P f #[jy] w fun e w'=> ∃cv W M',e= .returned cv∧ba B O w' W M'∧Tr st w β M O w' W M'∧w.heap.size≤w'.heap.size∧aq W O.gens w' M' r cv:=by
   rintro X hg h0 rfl hr
   refine⟨rfl,(hnil X hg h0 w).mono ?_⟩
   rintro e w' ⟨rfl,D⟩
   obtain⟨o1,o2⟩:=Ii h D.os D.tape D.output D.size D.block
   exact⟨_,β,M,rfl,o1,o2,D.size,hr _ _ _⟩
  split at F
  ·grind [Option.some.injEq,Prod.mk.injEq,aq,av]
  ·rename_i hg
   simp only[Option.some.injEq,Prod.mk.injEq]at F
   obtain⟨rfl,rfl⟩:=F
   simp_all[aq,jy]
  ·cases F
 ·rename_i sp k g0 off len
  simp only[av,aq]at hv
  obtain⟨u,us,h1,⟨aHA,J,rfl,hlc,hce⟩,rfl⟩:=hv
  have hc:H= #[.slice (some ⟨(β sp k g0).blk,(β sp k g0).off+off,none⟩) len J]:=Array.toList_inj.1 h1
  subst hc
  generalize he:st.get sp k=e0 at F
  obtain⟨U,ob⟩:=e0
  cases ob with
  |none=>cases F
  |map _ _ _=>cases F
  |cells cs wm bx=>
  cases bx with
  |true=>cases F
  |false=>
  dsimp only at F
  split at F
  ·rename_i avb
   obtain⟨rfl,Ib,kg⟩:=avb
   split at F
   ·rename_i ys X hg
    split at F
    ·rename_i hys
     obtain⟨K7,hy2,hy3⟩:=hys
     simp only[Option.some.injEq,Prod.mk.injEq]at F
     obtain⟨rfl,rfl⟩:=F
     have yw:=h.obj sp k
     rw[he]at yw
     unfold dL at yw
     obtain⟨c,el,fz,qa,h2,h3,h4,h5,h6,h7,h8⟩:=yw
     dsimp only at qa h2 h3 h4 h5 h6
     subst h4
     have I:((cs.drop off).take len).length=len:=by rw[List.length_take,List.length_drop];omega
     have hcl:c.toList.length=c.size:=xv
     have hpl:PList w M ((cs.drop off).take len) ((c.toList.drop ((β sp k U).off+off)).take len):=by
      have q:=PList.take len (PList.drop off (show PList w M cs ((c.toList.drop (β sp k U).off).take cs.length)from h5))
      rw[List.drop_take,List.take_take,List.drop_drop,Nat.min_eq_left yv]at q
      exact q
     have aE:=qo _ ys X hg (by rw[I];exact K7) w M (β sp k U).blk ((β sp k U).off+off) J c el _ qa (by rw[I];omega) (by rw[I];exact hlc) (by rw[I]) hpl
     rw[I]at aE
     refine⟨ahT _ _,aE.mono ?_⟩
     rintro e w' ⟨us,rfl,hpu,D⟩
     have hul:us.length=len:=by rw[←PList.length _ _ hpu];exact K7
     have Y:=uJ h he U (Nat.le_refl _) qa off us (splice cs off ys) Ib yv (by rw[cQ];omega) (by rw[cQ];exact h3) (oL h7 hy2) (by
      rw[cQ]
      have Vw:(splice (c.toList.drop (β sp k U).off) off us).take cs.length=splice ((c.toList.drop (β sp k U).off).take cs.length) off us:=by
       apply List.ext_getElem?
       intro j
       rw[List.getElem?_take,eN,eN,List.getElem?_take,List.length_take]
       by_cases hj:j<cs.length
       ·rw[if_pos hj,if_pos hj]
        by_cases hc:off≤j∧j<off+us.length∧j<(c.toList.drop (β sp k U).off).length
        ·rw[if_pos hc,if_pos yv]
        ·rw[if_neg hc,if_neg yv]
       ·rw[if_neg hj,if_neg hj,if_neg yv]
      rw[Vw]
      exact PList.splice h5 hpu)
     rw[nG]at Y
     have Z:=dS w (β sp k U).blk (.cells (splice c.toList ((β sp k U).off+off) us).toArray el)
     obtain⟨o1,o2⟩:=Ii Y.1 D.os D.tape D.output D.size fun b hb=>D.block b (by rw[Z]at hb;exact hb)
     refine⟨_,β,M,rfl,o1,Y.2.trans o2 (by rw[Z];exact Nat.le_refl _),by rw[←Z];exact D.size, ?_⟩
     cases X with
     |none=>simp[ajK,NB,aq,av]
     |some n=>
      simp only[ajK,NB,aq]
      refine⟨?_,J,rfl, ?_,hce⟩
      ·rw[eh,if_pos ⟨rfl,rfl⟩];exact Nat.le_refl _
      ·simp at hy3;omega
    ·cases F
   ·cases F
  ·cases F
 ·cases F
theorem Qu(hE:px P E)(hO:uP P E call)(h:ba B st w β M){f:Nat}{O:List T}{F:Array Value}(hv:av β st.gens w M O F.toList){r:T}{W:St}{d:Nat}(D:bu E call d st f O=some (r,W)):
  (callFunc f F).run P w= .ok (.enter f F) w∧W.fr=st.fr∧
  Calls P f F w fun e w'=> ∃cv I M',e= .returned cv∧ba B W w' I M'∧Tr st w β M W w' I M'∧w.heap.size≤w'.heap.size∧aq I W.gens w' M' r cv:=by
 unfold bu at D
 split at D
 ·rename_i af yW
  obtain⟨hs,fn,hf,wY⟩:=hE.1 f af yW
  have hnb:(fn.name== "runtime.NumGoroutine")=false∧fn.body.isSome=true:=by
   grind [Dr]
  refine⟨oM hf hnb.1 hnb.2 _ _, ?_⟩
  split at D
  ·rename_i q hq
   obtain⟨ts,us⟩:=q
   obtain⟨M1,q1,q2,q3,q4,q5,q6⟩:=jE (fun t=>xQ af.eff st aJ t) O B st w β M _ ts us _ (Fz.refl st) h hv hq
   split at D
   ·rename_i oN
    simp only[Option.map_eq_some_iff]at D
    obtain⟨⟨U,aX⟩,aE,D⟩:=D
    simp at D
    obtain⟨rfl,rfl⟩:=D
    refine⟨EZ st us, ?_⟩
    have J:af.own=none:=by
     cases ho:af.own with
     |none=>rfl
     |some j=>rw[((hO f af ts (st.ups us).sh U aX yW aE).2 j ho).1]at oN;cases oN
    have Z:=(hO f af ts (st.ups us).sh U aX yW aE).1 J
    rw[oN]at q4 Z
    have hx:iP true β (bare .nil (st.ups us).sh).gens w M1 ts F.toList:=by
     intro I G' p1 p2
     refine q4 I G' (fun k g hg=>p1 k g ?_) (fun k=>Nat.le_trans (Nat.le_of_eq ?_) (p2 k))
     ·have:(bare .nil (st.ups us).sh).gens .S k=(st.ups us).gens .S k:=rfl
      rw[this,q2.gens];exact hg
     ·have:(bare .nil (st.ups us).sh).gens .S k=(st.ups us).gens .S k:=rfl
      rw[this,q2.gens]
    refine(Z w β M1 F (abG q1 .nil) hx).mono ?_
    rintro e w' ⟨cv,I,M',rfl,H,Cv,hG,hr⟩
    obtain⟨b1,b2⟩:=akb q1 H Cv hG
    refine⟨cv,_,M',rfl,b1,(Tr.fz q2 q3).trans b2 (Nat.le_refl _),H.size, ?_⟩
    exact hr _ _ (fun _ _ _=>rfl) (fun _=>Nat.le_refl _)
   ·rename_i oN
    simp at oN
    split at D
    ·rename_i r0 aE
     obtain⟨U,aX⟩:=r0
     rw[oN]at q4
     have yB: ∀b,¬eo [] β b:=by rintro b ⟨k,hl,_⟩;simp[aI,aH]at hl;exact hl.elim
     have CC:ba ⟨w,M1,eo [] β⟩ (bare .nil []) w β M1:=by
      have h0:=Vz q1 .nil
      exact⟨h0.obj,h0.dist,h0.mlt,fun k hl=>h0.lblk k hl,fun k hl=>(h0.sblk k hl).imp (fun e=>e.elim) id,rfl,rfl,rfl,Nat.le_refl _,fun _ _ _=>rfl,dA.refl w M1,fun _ _ _ _ hm=>hm⟩
     have X: ∀(c:Bool),(c=true→ ∀{w1 M1 w2 M2 cv},PRel w1 M1 U cv→PRel w2 M2 U cv)→ ∀(w':World) (cv:Value) (I:aO) (M':MSet) (Qv:St),Qv=(if c=true then st else st.ups us)→ba ⟨w,M1,eo [] β⟩ (bare .nil aX) w' I M'→PRel w' M' U cv→
       ∃Y I M',Ending.returned cv= .returned Y∧ba B Qv w' I M'∧Tr st w β M Qv w' I M'∧w.heap.size≤w'.heap.size∧aq I Qv.gens w' M' U Y:=by
      intro c Cg w' cv I M' Qv uQ H hr'
      have V:=fun b (hb:b<w.heap.size)=>H.same b hb (yB b)
      by_cases fq:c=true
      ·rw[if_pos fq]at uQ;subst uQ
       obtain⟨o1,o2⟩:=Ii h H.os H.tape H.output H.size V
       exact⟨cv,β,M,rfl,o1,o2,H.size,PRel.toV _ _ _ _ (Cg fq hr')⟩
      ·rw[if_neg fq]at uQ;subst uQ
       obtain⟨o1,o2⟩:=Ii q1 H.os H.tape H.output H.size V
       refine⟨cv,β,M1,rfl,o1,(Tr.fz q2 q3).trans o2 (Nat.le_refl _),H.size,PRel.toV _ _ _ _ (PRel.mono (di ?_) _ _ hr')⟩
       intro b x hm
       have hb:=q1.mlt b x hm
       exact H.msup b x hb (yB b) hm
     cases J:af.own with
     |none=>
      simp only[J]at D
      simp at D
      obtain⟨rfl,uQ⟩:=D
      have Z:=(hO f af ts [] U aX yW aE).1 J
      rw[oN]at Z
      have ake:W.fr=st.fr:=by rw[←uQ];split;rfl;exact EZ st us
      refine⟨ake,(Z w β M1 F CC q4).mono ?_⟩
      rintro e w' ⟨cv,I,M',rfl,H,Cv,hG,hr⟩
      exact X (scalar U) (fun h=>Lf h) w' cv I M' W uQ.symm H hr
     |some j=>
      simp only[J]at D
      have Z:=((hO f af ts [] U aX yW aE).2 j J).2
      unfold Ao at D
      have ake:W.fr=st.fr:=by
       split at D
       ·simp at D;obtain⟨_,rfl⟩:=D;split;rfl;exact EZ st us
       ·split at D
        ·simp at D;obtain⟨_,rfl⟩:=D;show(ite _ _ _:St).fr=_;split;rfl;exact EZ st us
        ·cases D
       ·cases D
      refine⟨ake,(Z w β M1 F CC q4).mono ?_⟩
      rintro e w' ⟨cv,I,M',rfl,H,hr⟩
      rcases hr with⟨hc,hr⟩|⟨cs,len,hc,S,sz,cap,c,el,s1,s2,s3,s4,s5,s6,s7,s8,s9,s10,s11,s12,s13⟩
      ·rw[hc]at D
       simp at D;obtain⟨rfl,uQ⟩:=D
       exact X (mi U) (fun h=>Qr h) w' cv I M' W uQ.symm H hr
      ·rw[hc]at D
       simp only at D
       split at D
       ·rename_i hcs
        have hsz:cs.length/len=sz:=by rw[s8];exact Nat.mul_div_cancel_left _ (Nat.pos_of_ne_zero s9)
        rw[hsz]at D
        have V:=fun b (hb:b<w.heap.size)=>H.same b hb (yB b)
        have fin: ∀(Qv:St) (M3:MSet),ba B Qv w β M3→Tr st w β M Qv w β M3→(∀β G,aq β G w' (Ij M3 S) (aL U j .nilsl) (ky cv j jy))→
          some (aL U j (.isl .L d ((Qv.get .L d).g+1) 0 len sz),Qv.up (.L,d,⟨(Qv.get .L d).g+1,.cells cs 0 false⟩))=some (r,W)→
          ∃Y I M',Ending.returned cv= .returned Y∧ba B W w' I M'∧Tr st w β M W w' I M'∧w.heap.size≤w'.heap.size∧aq I W.gens w' M' r Y:=by
         intro Qv M3 h3 t3 SC D
         simp only[Option.some.injEq,Prod.mk.injEq]at D
         obtain⟨rfl,rfl⟩:=D
         obtain⟨o1,o2⟩:=akc h3 H.os H.tape H.output H.size V d ((Qv.get .L d).g+1) (Nat.lt_succ_self _) S s1 (mj s2) (.cells cs 0 false) (by
          unfold dL
          simp only[bM]
          exact⟨c,el,(0,0),s2,s3,s4,rfl,rD hcs.1 s5,fun i _ hi=> .inr ⟨rfl,by omega,by omega⟩,s7,Nat.zero_le _⟩)
         refine⟨cv,_,_,rfl,o1,t3.trans o2 (Nat.le_refl _),H.size,abH (SC _ _) s12 ?_ rfl⟩
         simp only[aq]
         rw[bM]
         exact⟨by simp[eh],cap,rfl,s10,by simpa using s11⟩
        by_cases fq:mi (aL U j .nilsl)=true
        ·simp only[fq,if_true]at D
         exact fin st M h (Tr.refl _ _ _ _) (fun β G=>Lh fq (s13 β G)) D
        ·simp only[fq,Bool.false_eq_true,if_false]at D
         refine fin (st.ups us) M1 q1 (Tr.fz q2 q3) (fun β G=>aq.mono (di ?_) (fun _ _ _ _=>rfl) (fun _ _=>Nat.le_refl _) _ _ (s13 β G)) D
         rintro b x (hm|⟨rfl,h1,h2⟩)
         ·exact H.msup b x (q1.mlt b x hm) (yB b) hm
         ·have:=(s6.resolve_left fq) (x-S.off) yv
          rwa [show S.off+(x-S.off)=x by omega]at this
       ·cases D
    ·cases D
  ·cases D
 ·rename_i g yW Ic
  split at D
  ·rename_i q hq
   obtain⟨ts,us⟩:=q
   simp only[Option.map_eq_some_iff]at D
   obtain⟨U,hg,D⟩:=D
   simp at D
   obtain⟨rfl,rfl⟩:=D
   obtain⟨⟨fn,hf,hn,hb⟩,Z⟩:=hE.2.1 f g yW Ic
   obtain⟨M1,q1,q2,q3,q4,q5,q6⟩:=jE (fun t=>xQ false st aJ t) O B st w β M _ ts us _ (Fz.refl st) h hv hq
   refine⟨oM hf hn hb _ _,rfl,(Z ts U hg w M1 F q1.mlt q4).mono ?_⟩
   rintro e w' ⟨cv,rfl,N,hr⟩
   obtain⟨o1,o2⟩:=Ii h N.os N.tape N.output N.size N.block
   exact⟨cv,β,M,rfl,o1,o2,N.size,PRel.toV _ _ _ _ (PRel.mono (di (fun b x hm=>h.mlt b x hm)) _ _ hr)⟩
  ·cases D
 ·rename_i yW Ic
  split at D
  ·rename_i g hwr
   obtain⟨⟨fn,hf,hn,hb⟩,hnil,Z⟩:=hE.2.2 f g yW Ic hwr
   refine⟨oM hf hn hb _ _, ?_⟩
   grind [ava]
  ·cases D
variable{ops:Array Oper}{Q:Exit→Act→World→Prop}{n:Nat}{K:Act→World→Prop}
theorem Lj(r:iN st a w β M n){j d:Nat}(D:(ops[j]?).bind (·.dst)=some d)(F:aa st.fr d≠ .any):yielded ops a.tmps j=match aa st.fr d with| .b x=>some x|_=>none:=by
 unfold yielded
 rw[D]
 simp only[Option.bind_some]
 have hs:=r.slot d
 rw[Array.getD_eq_getD_getElem?]at hs
 cases hx:a.tmps[d]? with
 |none=>
  rw[hx]at hs
  simp only[Option.getD_none]at hs
  generalize aa st.fr d=t at*
  cases t
  case any=>grind
  all_goals (simp only[aq,PRel,undef]at hs;simp_all)
 |some cv=>
  rw[hx]at hs
  simp only[Option.getD_some]at hs
  generalize aa st.fr d=t at*
  cases t <;> simp only[aq,PRel]at hs
  case b x=>subst hs;rfl
  case any=>grind
  all_goals first
   |(subst hs;rfl)
   |(obtain⟨_,rfl,_⟩:=hs;rfl)
   |(obtain⟨_,_,rfl,_⟩:=hs;rfl)
   |(obtain⟨_,_,_,rfl,_⟩:=hs;rfl)
   |(obtain⟨_,_,_,_,rfl,_⟩:=hs;rfl)
   |(obtain⟨_,rfl⟩:=hs;rfl)
theorem mq(hE:px P E)(hO:uP P E call){hs:List Nat}{U:aF}{i:Nat}(hi:ops[i]? =some o)(hc:qg P hs ops o=some U)(h:ba B st w β M)(J:iN st a w β M n){I:St}(O:bn E call n U st=some I)
  (hK: ∀Z w' F M',ba B I w' F M'→iN I Z w' F M' n→Tr st w β M I w' F M'→w.heap.size≤w'.heap.size→K Z w'):wpOp P ops Q i K a w:=by
 have dI:=Vl J
 unfold wpOp
 rw[hi]
 simp only
 unfold qg at hc
 split at hc
 ·rename_i KE AI
  have core: ∀gd,U=⟨o.dst,KE,gd⟩→(match bB st.rho KE with
    |some (some c)=>match bu E call (o.dst.getD 0) st c.1 c.2 with
     |some r=>(gz st.fr n o.dst r.1).map fun fr=>({r.2 with fr}:St)
     |none=>none
    |some none=>none
    |none=>match(bz (o.dst.getD 0) st.rho KE).run st.get st.sh.length with
     |some (.val v ups)=>(gz st.fr n o.dst v).map fun fr=>({st.ups ups with fr}:St)
     |none=>none)=some I→o.wp P a w K Q:=by
   intro gd _ D
   unfold Oper.wp
   split at D
   ·rename_i c aE
    obtain⟨f,V⟩:=c
    split at D
    ·rename_i r W
     obtain⟨r,wX⟩:=r
     simp only[Option.map_eq_some_iff]at D
     obtain⟨fr,N,rfl⟩:=D
     have H:=Qt AI aE
     obtain⟨c,ho,H⟩:=H
     obtain⟨X,hx,p9⟩:=Qs dI ho H aE
     obtain⟨d1,d2,d3⟩:=Qu hE hO h p9 W
     rw[hx,d1,Oper.upon_enter]
     refine d3.mono ?_
     rintro e w' ⟨cv,F,M',rfl,k1,k2,k3,k4⟩
     refine hK _ _ F M' (abI k1 fr) ?_ (k2.fr fr) k3
     exact AO J k2 N k4
    ·cases D
   ·cases D
   ·split at D
    ·rename_i v ups hq
     simp only[Option.map_eq_some_iff]at D
     obtain⟨fr,N,rfl⟩:=D
     obtain⟨nx,cv,w',F,M',r1,r2,r3,r4,r5,r6⟩:=au4 (P:=P) dI h AI hq
     rw[r1]
     have:=hK (a.put o.dst cv) w' F M' (abI r3 fr) (AO J r4 N r6) (r4.fr fr) r5
     rcases r2 with rfl|⟨rfl,rfl⟩
     ·exact this
     ·exact this
    ·cases D
  split at hc
  ·grind [Region.wanted,bn]
  ·rename_i j want hg
   split at hc
   ·rename_i d W
    simp at hc;subst hc
    unfold bn at O
    simp only at O
    have Y:aa st.fr d≠ .any:=by intro e;rw[e]at O;cases O
    have hy:=Lj (ops:=ops) J W Y
    have aBA:(gz st.fr n o.dst aQ).map (fun fr=>({st with fr}:St))=some I→K (a.put o.dst undef) w:=by
     intro hp
     simp only[Option.map_eq_some_iff]at hp
     obtain⟨fr,N,rfl⟩:=hp
     exact hK _ _ β M (abI h fr) (AO J (Tr.refl _ _ _ _) N (by simp[aq,aQ,undef,av])) ((Tr.refl _ _ _ _).fr fr) (Nat.le_refl _)
    grind [Region.wanted]
   ·cases hc
 ·cases hc
end
end Go.Ev
namespace Go.Ev
open Go
theorem Q.run_congr{α:Type}{h F:Sp→Nat→ah}{nx r:Nat}: ∀(q:Q α),(∀κ∈q.log h nx,F κ.1 κ.2=h κ.1 κ.2)→(q.asks h nx=true→r=nx)→q.run F r=q.run h nx
 | .ret a,_,_=>rfl
 | .fail,_,_=>rfl
 | .rd sp k f,D,H=>by
   have e:F sp k=h sp k:=D (sp,k) (by simp[Q.log])
   simp only[Q.run,e]
   exact Q.run_congr (f (h sp k)) (fun κ hk=>D κ (by simp[Q.log,hk])) (fun I=>H (by simp[Q.asks,I]))
 | .new f,D,H=>by
   have e:r=nx:=H rfl
   subst e
   simp only[Q.run]
   exact Q.run_congr (f r) (fun κ hk=>D κ (by simp[Q.log,hk])) (fun _=>rfl)
theorem iC(f:T→Q (T×List Up))(h:Sp→Nat→ah)(nx:Nat)(D: ∀t,(f t).asks h nx=false): ∀ts,(bh f ts).asks h nx=false:=by
 have r: ∀{α γ:Type} (q:Q α) (g:α→Q γ),q.asks h nx=false→(∀a,(g a).asks h nx=false)→(q.bind g).asks h nx=false:=by
  intro α γ q g F H
  induction q with
  |ret a=>exact H a
  |fail=>rfl
  |rd sp k f ih=>grind [Q.bind,Q.asks]
  |new f ih=>simp[Q.asks]at F
 intro ts
 induction ts with
 |nil=>rfl
 |cons t ts ih=>
  simp only[bh]
  refine r _ _ (D t) (fun p=>r _ _ ih (fun q=>rfl))
theorem NC(h:Sp→Nat→ah)(nx:Nat): ∀(keep:Bool) (n:Nat) (t:T),(fz keep n t).asks h nx=false:=by
 have r: ∀{α γ:Type} (q:Q α) (g:α→Q γ),q.asks h nx=false→(∀a,(g a).asks h nx=false)→(q.bind g).asks h nx=false:=by
  intro α γ q g D F
  induction q with
  |ret a=>exact F a
  |fail=>rfl
  |rd sp k f ih=>grind [Q.bind,Q.asks]
  |new f ih=>simp[Q.asks]at D
 intro keep n
 induction n generalizing keep with
 |zero=>intro t;rfl
 |succ n ih=>
  intro t
  cases t <;> simp only[fz] <;> try rfl
  ·split
   ·rfl
   ·simp only[Q.asks];split
    ·split
     ·split <;> rfl
     ·split
      ·exact r _ _ (iC _ _ _ (fun t=>ih false t) _) (fun _=>rfl)
      ·rfl
     ·rfl
    ·rfl
  ·split
   ·rfl
   ·simp only[Q.asks];split
    ·split
     ·exact r _ _ (iC _ _ _ (fun t=>ih false t) _) (fun _=>rfl)
     ·rfl
    ·rfl
  ·grind [Q.asks]
  ·exact r _ _ (iC _ _ _ (fun t=>ih keep t) _) (fun _=>r _ _ (iC _ _ _ (fun t=>ih keep t) _) (fun _=>rfl))
  ·exact r _ _ (iC _ _ _ (fun t=>ih keep t) _) (fun _=>rfl)
  ·exact r _ _ (iC _ _ _ (fun t=>ih keep t) _) (fun _=>rfl)
theorem jF{ρ ND:aP→T}{l:List aP}(h: ∀x∈l,ND x=ρ x):l.map ND=l.map ρ:=List.map_congr_left h
theorem kW{ρ ND:aP→T}{d:Nat}{x:Option aP}(h: ∀y∈x.toList,ND y=ρ y):dD ND d x=dD ρ d x:=by
 cases x with
 |none=>rfl
 |some y=>grind [dD]
theorem Qw{ρ ND:aP→T}(d:Nat)(op:mh)(h: ∀x∈wQ op,ND x=ρ x):bz d ND op=bz d ρ op:=by
 cases op <;> simp only[wQ]at h <;> simp only[bz]
 case mv x=>grind
 case pick c a b=>grind
 case box x sh=>grind
 case build z ps=>
  have e: ∀p∈ps,ND p.2.2=ρ p.2.2:=fun p D=>h _ (List.mem_map.2 ⟨p,D,rfl⟩)
  have e1:(ps.all fun p=>decide ((cellsOf (ND p.2.2)).length=p.2.1)&&noTup (ND p.2.2))=(ps.all fun p=>decide ((cellsOf (ρ p.2.2)).length=p.2.1)&&noTup (ρ p.2.2)):=by
   grind
  grind [List.map_congr_left]
 case bsl z len ps=>
  grind [List.map_congr_left]
 case ld x n ag=>grind
 case st x v n=>grind
 case nck x=>grind
 case bin o x y=>grind
 case eq n k x y=>grind
 case un o x=>grind
 case cvi k x=>grind
 case b2s x=>rw[h x xv]
 case mkfn f a c=>rw[jF (fun x hx=>h x (by simp[hx])),jF (fun x hx=>h x (by simp[hx]))]
 case mksl z b x sh=>rw[h x xv]
 case slS x l hh=>
  rw[h x xv,kW (x:=l) (fun y r=>h y (by simp at r;simp[r]))]
  split
  ·rw[kW (x:=hh) (fun y r=>h y (by simp at r;simp[r]))]
  ·rfl
 case slV sz x l hh m=>
  rw[h x xv,kW (x:=l) (fun y r=>h y (by simp at r;simp[r]))]
  split
  ·rfl
  ·rw[kW (x:=hh) (fun y r=>h y (by simp at r;simp[r]))]
   split
   ·rfl
   ·rename_i mm _ _;rw[h mm xv]
   ·rfl
 case fa x o=>rw[h x xv]
 case fld x o n ag=>rw[h x xv]
 case ia x y n=>rw[h x xv,h y xv]
 case iaA x y l n=>rw[h x xv,h y xv]
 case ixS x y=>rw[h x xv,h y xv]
 case ixA x y l n ag=>rw[h x xv,h y xv]
 case lk k x y z ok=>rw[h x xv,h y xv]
 case mu k x y z=>rw[h x xv,h y xv,h z xv]
 case ext x j=>rw[h x xv]
 case lenS x=>rw[h x xv]
 case lenV x=>rw[h x xv]
 case lenM x=>rw[h x xv]
 case app s b x y sh nm=>rw[h x xv,h y xv]
 case mm b as=>rw[jF h]
theorem E3{ρ ND:aP→T}(op:mh)(h: ∀x∈wQ op,ND x=ρ x):bB ND op=bB ρ op:=by
 cases op <;> simp only[wQ]at h <;> simp only[bB]
 case callf f as=>simp_all
 case callv f as=>rw[h f xv,jF (fun x hx=>h x (by simp[hx]))]
theorem VD{ρ:aP→T}{op:mh}(F:quiet op=true)(d:Nat)(h:Sp→Nat→ah)(nx:Nat):bB ρ op=none∧(bz d ρ op).log h nx= []∧(bz d ρ op).asks h nx=false∧ ∀v r,(bz d ρ op).run h nx=some (.val v r)→r= []:=by
 have D: ∀x:Option T,(Ev.val x).log h nx= []∧(Ev.val x).asks h nx=false∧ ∀v r,(Ev.val x).run h nx=some (.val v r)→r= []:=by
  intro x;cases x <;> simp[Ev.val,Q.log,Q.asks,Q.run]
 cases op <;> simp[quiet]at F <;> refine⟨rfl, ?_⟩ <;> simp only[bz]
 case slV sz x l hh m=>
  split
  ·simp[Q.log,Q.asks,Q.run]
  ·split
   ·unfold xO
    grind [Q.bind,Q.log,Q.asks,Q.run]
   ·grind [Q.log,Q.asks,Q.run]
   ·simp[Q.log,Q.asks,Q.run]
 all_goals first
  |exact D _
  |(simp[Q.log,Q.asks,Q.run];done)
  |(repeat' split
    all_goals first
     |exact D _
     |(simp[Q.log,Q.asks,Q.run];done))
end Go.Ev
namespace Go.Ev
open Go
theorem Ik{us:List Up}{sp:Sp}{k:Nat}:jv us sp k=true↔(sp,k)∈cR us:=by
 grind [jv,cR]
theorem Il(s p:St): ∀(us:List Up) (sp:Sp) (k:Nat),jv us sp k=true→(s.ups us).get sp k=(p.ups us).get sp k:=by
 intro us
 induction us generalizing s p with
 |nil=>grind [jv]
 |cons u us ih=>
  grind [St.ups,kV,jv,e9]
theorem yX(s p:St)(us:List Up)(sp:Sp)(k:Nat):(s.ups us).get sp k=if(sp,k)∈cR us then(p.ups us).get sp k else s.get sp k:=by
 split
 ·rename_i h;exact Il s p us sp k (Ik.2 h)
 ·rename_i h
  refine kV s us sp k ?_
  cases r:jv us sp k with
  |false=>rfl
  |true=>exact absurd (Ik.1 r) h
theorem Lk(s p:St)(hs:s.sh=p.sh): ∀us,(s.ups us).sh=(p.ups us).sh:=by
 intro us
 induction us generalizing s p with
 |nil=>exact hs
 |cons u us ih=>
  simp only[St.ups]
  refine ih _ _ ?_
  obtain⟨a,b,c⟩:=u
  cases a
  ·exact hs
  ·simp[St.up,hs]
theorem E5(s:St): ∀us,(∀u∈us,u.1= .S→u.2.1<s.sh.length)→(s.ups us).sh.length=s.sh.length:=by
 intro us
 induction us generalizing s with
 |nil=>intro _;rfl
 |cons u us ih=>
  intro h
  obtain⟨a,b,c⟩:=u
  simp only[St.ups]
  have r:(s.up (a,b,c)).sh.length=s.sh.length:=by
   cases a with
   |L=>rfl
   |S=>simp_all[St.up,jR]
  grind
theorem Ll{s p:St}{us:List Up}(h:inB p us=true)(D: ∀sp k,(sp,k)∈cR us→s.get sp k=p.get sp k): ∀u∈us,u.1= .S→u.2.1<s.sh.length:=by
 intro u r e
 unfold inB at h
 rw[List.all_eq_true]at h
 have h1:=h u r
 obtain⟨a,b,c⟩:=u
 dsimp only at e;subst e
 simp at h1
 have h2:=D .S b (by unfold cR;exact List.mem_map.2 ⟨_,r,rfl⟩)
 refine Nr (st:=s) ?_
 grind [xP,live]
theorem E6{fr fr2:Fr}{n:Nat}{d:Option Nat}{v:T}{g:Fr}(h:gz fr n d v=some g): ∃r,gz fr2 n d v=some r∧ ∀t,aa r t=if d=some t then aa g t else aa fr2 t:=by
 cases d with
 |none=>exact⟨fr2,rfl,fun t=>by simp⟩
 |some d=>
  grind [gz,lr]
def wrote(fp:FP)(sp:Sp)(k:Nat):Prop:=(sp,k)∈fp.w∨(fp.all=true∧sp= .S)
structure abJ (ao:aF) (fp:FP) (s s' p':St):Prop where
 slot: ∀t,aa s'.fr t=if ao.d=some t then aa p'.fr t else aa s.fr t
 key: ∀sp k,(wrote fp sp k→s'.get sp k=p'.get sp k)∧(¬wrote fp sp k→s'.get sp k=s.get sp k)
 len:(fp.all=true→s'.sh.length=p'.sh.length)∧(fp.all=false→s'.sh.length=s.sh.length)
variable{E:Env}{call:jP}{n:Nat}
theorem Qx{s p:St}{r:aF}(h: ∀t∈looks r,aa s.fr t=aa p.fr t): ∀x∈wQ r.op,s.rho x=p.rho x:=by
 intro x hx
 cases x with
 |t m=>
  refine h m ?_
  grind [looks,tmpsOf]
 |c v=>rfl
theorem abK{s p:St}{d j:Nat}{r I:T}{us:List Up}{J:St}(D:Ao d j r p us=some (I,J))(h: ∀sp k,(sp,k)∈(Sp.L,d)::cR us→s.get sp k=p.get sp k)(O:(s.ups us).sh.length=s.sh.length):
  ∃s2,Ao d j r s us=some (I,s2)∧(∀sp k,((sp,k)∈(Sp.L,d)::cR us→s2.get sp k=J.get sp k)∧((sp,k)∉(Sp.L,d)::cR us→s2.get sp k=s.get sp k))∧s2.sh.length=s.sh.length:=by
 have base: ∀(c:Bool) (sp:Sp) (k:Nat),((sp,k)∈(Sp.L,d)::cR us→(if c=true then s else s.ups us).get sp k=(if c=true then p else p.ups us).get sp k)∧((sp,k)∉(Sp.L,d)::cR us→(if c=true then s else s.ups us).get sp k=s.get sp k):=by
  grind [Bool.false_eq_true,yX]
 have len: ∀c:Bool,(if c=true then s else s.ups us).sh.length=s.sh.length:=by
  grind
 unfold Ao at D ⊢
 split at D
 ·rename_i hc
  simp only[Option.some.injEq,Prod.mk.injEq]at D ⊢
  obtain⟨rfl,rfl⟩:=D
  exact⟨_,⟨rfl,rfl⟩,base _,len _⟩
 ·rename_i cs Vm ex hc
  split at D
  ·rename_i H
   rw[if_pos H]
   simp only[Option.some.injEq,Prod.mk.injEq]at D ⊢
   obtain⟨rfl,rfl⟩:=D
   have N:=(base (mi (aL r j .nilsl)) .L d).1 (List.mem_cons_self ..)
   rw[N]
   refine⟨_,⟨rfl,rfl⟩,fun sp k=>⟨fun F=> ?_,fun F=> ?_⟩, ?_⟩
   ·rw[e9,e9]
    split
    ·rfl
    ·exact(base _ sp k).1 F
   ·rw[e9,if_neg (by rintro⟨rfl,rfl⟩;exact F (List.mem_cons_self ..))]
    exact(base _ sp k).2 F
   ·exact len _
  ·cases D
 ·cases D
theorem Im{D:aF}{fp:FP}{s p V:St}(he:bn E call n D p=some V)(dj:bN E call D p=some fp)(h1: ∀t∈looks D,aa s.fr t=aa p.fr t)(h2: ∀sp k,(sp,k)∈fp.r∨(sp,k)∈fp.w→s.get sp k=p.get sp k)(h3:fp.all=true→s.sh=p.sh):
  ∃O,bn E call n D s=some O∧abJ D fp s O V:=by
 have W:=Qx h1
 have aBA:(gz p.fr n D.d aQ).map (fun fr=>({p with fr}:St))=some V→fp=fO→ ∃O,(gz s.fr n D.d aQ).map (fun fr=>({s with fr}:St))=some O∧abJ D fp s O V:=by
  intro hp hn
  subst hn
  simp only[Option.map_eq_some_iff]at hp
  obtain⟨g,X,rfl⟩:=hp
  obtain⟨g2,e1,e2⟩:=E6 (fr2:=s.fr) X
  refine⟨{s with fr:=g2},by rw[e1];rfl,e2,fun sp k=>⟨fun hw=> ?_,fun _=>rfl⟩,⟨(fun I=>by cases I),fun _=>rfl⟩⟩
  rcases hw with hw|hw
  ·simp[fO]at hw
  ·cases hw.1
 have core:(match bB p.rho D.op with
       |some (some c)=>match bu E call (D.d.getD 0) p c.1 c.2 with
        |some r=>(gz p.fr n D.d r.1).map fun fr=>({r.2 with fr}:St)
        |none=>none
       |some none=>none
       |none=>match(bz (D.d.getD 0) p.rho D.op).run p.get p.sh.length with
        |some (.val v ups)=>(gz p.fr n D.d v).map fun fr=>({p.ups ups with fr}:St)
        |none=>none)=some V→(match bB p.rho D.op with
       |some (some c)=>eE E call (D.d.getD 0) p c.1 c.2
       |some none=>none
       |none=>
        let q:=bz (D.d.getD 0) p.rho D.op
        match q.run p.get p.sh.length with
        |some (.val _ ups)=>if q.asks p.get p.sh.length||inB p ups then some (⟨q.asks p.get p.sh.length,q.log p.get p.sh.length,cR ups⟩:FP)else none
        |none=>none)=some fp→
   ∃O,(match bB s.rho D.op with
    |some (some c)=>match bu E call (D.d.getD 0) s c.1 c.2 with
     |some r=>(gz s.fr n D.d r.1).map fun fr=>({r.2 with fr}:St)
     |none=>none
    |some none=>none
    |none=>match(bz (D.d.getD 0) s.rho D.op).run s.get s.sh.length with
     |some (.val v ups)=>(gz s.fr n D.d v).map fun fr=>({s.ups ups with fr}:St)
     |none=>none)=some O∧abJ D fp s O V:=by
  intro J F
  rw[E3 D.op W]
  split at J
  ·rename_i c hc
   obtain⟨f,args⟩:=c
   rw[hc]at F
   simp only[hc]at F ⊢
   split at J
   ·rename_i r H
    obtain⟨r,p2⟩:=r
    simp only[Option.map_eq_some_iff]at J
    obtain⟨g,X,rfl⟩:=J
    obtain⟨g2,e1,e2⟩:=E6 (fr2:=s.fr) X
    suffices hs: ∃s2,bu E call (D.d.getD 0) s f args=some (r,s2)∧(∀sp k,(wrote fp sp k→s2.get sp k=p2.get sp k)∧(¬wrote fp sp k→s2.get sp k=s.get sp k))∧(fp.all=true→s2.sh.length=p2.sh.length)∧(fp.all=false→s2.sh.length=s.sh.length)by
     obtain⟨s2,d1,d2,d3⟩:=hs
     refine⟨{s2 with fr:=g2},by rw[d1];simp[e1],e2,d2,d3⟩
    unfold eE at F
    unfold bu at H ⊢
    split at H
    ·rename_i af Y
     simp only[Y]at F ⊢
     cases N:(bh (fz af.eff aJ) args).run p.get p.sh.length with
     |none=>simp[N]at H
     |some q=>
      obtain⟨ts,us⟩:=q
      simp only[N]at H F
      split at F
      ·cases F
      ·rename_i Qy
       simp at Qy
       have Av: ∀κ∈(bh (fz af.eff aJ) args).log p.get p.sh.length,κ∈fp.r:=by
        grind
       have Z:(bh (fz af.eff aJ) args).run s.get s.sh.length=some (ts,us):=by
        rw[←N]
        refine Q.run_congr _ (fun κ hk=>h2 _ _ (.inl (Av κ hk))) (fun I=> ?_)
        rw[iC _ _ _ (fun t=>NC _ _ _ _ t)]at I;cases I
       rw[Z]
       simp only
       split at H
       ·rename_i oN
        simp only[oN,if_true]at F ⊢
        simp at F;subst F
        simp only[Option.map_eq_some_iff]at H
        obtain⟨⟨r',aX⟩,aE,H⟩:=H
        simp at H;obtain⟨rfl,rfl⟩:=H
        have ft:=h3 rfl
        have aBB:=Lk s p ft us
        refine⟨{s.ups us with sh:=aX},by rw[aBB,aE];rfl,fun sp k=> ?_,fun _=>rfl,(fun I=>by cases I)⟩
        cases sp with
        |S=>exact⟨fun _=>rfl,fun hw=>absurd (.inr ⟨rfl,rfl⟩) hw⟩
        |L=>
         have:=yX s p us .L k
         refine⟨fun hw=> ?_,fun hw=> ?_⟩
         ·rcases hw with hw|hw
          ·rw[if_pos hw]at this;exact this
          ·cases hw.2
         ·rw[if_neg (fun e=>hw (.inl e))]at this;exact this
       ·rename_i oN
        simp only[oN,Bool.false_eq_true,if_false]at F ⊢
        split at H
        ·rename_i r0 aE
         simp only[aE]at F ⊢
         cases U:af.own with
         |some j=>
          simp only[U]at F H ⊢
          simp at F;subst F
          obtain⟨s2,g1,g2,g3⟩:=abK (s:=s) H (fun sp k hk=>h2 sp k (.inr hk)) (E5 s us (Ll Qy (fun sp k hk=>h2 sp k (.inr (List.mem_cons_of_mem _ hk)))))
          refine⟨s2,g1,fun sp k=>⟨fun hw=> ?_,fun hw=>(g2 sp k).2 (fun e=>hw (.inl e))⟩,(fun I=>by cases I),fun _=>g3⟩
          rcases hw with hw|hw
          ·exact(g2 sp k).1 hw
          ·cases hw.1
         |none=>
         simp only[U]at F H ⊢
         simp at F;subst F
         simp at H;obtain⟨rfl,rfl⟩:=H
         by_cases fq:scalar r0.1=true
         ·simp only[fq,if_true]
          refine⟨s,rfl,fun sp k=>⟨fun hw=> ?_,fun _=>rfl⟩,(fun I=>by cases I),fun _=>rfl⟩
          rcases hw with hw|hw
          ·simp at hw
          ·cases hw.1
         ·simp only[fq,Bool.false_eq_true,if_false]
          refine⟨s.ups us,rfl,fun sp k=> ?_,(fun I=>by cases I),fun _=> ?_⟩
          ·have:=yX s p us sp k
           refine⟨fun hw=> ?_,fun hw=> ?_⟩
           ·rcases hw with hw|hw
            ·rw[if_pos hw]at this;exact this
            ·cases hw.1
           ·rw[if_neg (fun e=>hw (.inl e))]at this;exact this
          ·exact E5 s us (Ll Qy (fun sp k hk=>h2 sp k (.inr (by simpa[fq]using hk))))
        ·cases H
    ·rename_i g' Y Ic
     simp only[Y,Ic]at F ⊢
     simp at F;subst F
     cases N:(bh (fz false aJ) args).run p.get p.sh.length with
     |none=>simp[N]at H
     |some q=>
      simp only[N]at H
      have Z:(bh (fz false aJ) args).run s.get s.sh.length=some q:=by
       rw[←N]
       refine Q.run_congr _ (fun κ hk=>h2 _ _ (.inl hk)) (fun I=> ?_)
       rw[iC _ _ _ (fun t=>NC _ _ _ _ t)]at I;cases I
      rw[Z]
      simp only[Option.map_eq_some_iff]at H ⊢
      obtain⟨r',hg',H⟩:=H
      simp at H;obtain⟨rfl,rfl⟩:=H
      refine⟨s,⟨r',hg',rfl⟩,fun sp k=>⟨fun hw=> ?_,fun _=>rfl⟩,(fun I=>by cases I),fun _=>rfl⟩
      rcases hw with hw|hw
      ·simp at hw
      ·cases hw.1
    ·rename_i Y Ic
     simp only[Y,Ic]at F
     cases F
   ·cases J
  ·cases J
  ·rename_i hc
   simp only[hc]at F ⊢
   rw[Qw _ D.op W]
   split at J
   ·rename_i v ups N
    simp only[N]at F
    split at F
    ·rename_i Qy
     simp at F;subst F
     simp only[Option.map_eq_some_iff]at J
     obtain⟨g,X,rfl⟩:=J
     obtain⟨g2,e1,e2⟩:=E6 (fr2:=s.fr) X
     have Z:(bz (D.d.getD 0) p.rho D.op).run s.get s.sh.length=some (.val v ups):=by
      grind [Q.run_congr]
     rw[Z]
     refine⟨{s.ups ups with fr:=g2},by simp[e1],e2,fun sp k=> ?_, ?_⟩
     ·have:=yX s p ups sp k
      refine⟨fun hw=> ?_,fun hw=> ?_⟩
      ·by_cases hm:(sp,k)∈cR ups
       ·rw[if_pos hm]at this;exact this
       ·rcases hw with hw|hw
        ·exact absurd hw hm
        ·obtain⟨ha,rfl⟩:=hw
         have ft:=Lk s p (h3 ha) ups
         show aI (s.ups ups).sh k=aI (p.ups ups).sh k
         rw[ft]
      ·rw[if_neg (fun e=>hw (.inl e))]at this;exact this
     ·refine⟨fun ha=> ?_,fun ha=> ?_⟩
      ·have ft:=Lk s p (h3 ha) ups
       show(s.ups ups).sh.length=(p.ups ups).sh.length
       rw[ft]
      ·rw[show(bz (D.d.getD 0) p.rho D.op).asks p.get p.sh.length=false from ha,Bool.false_or]at Qy
       exact E5 s ups (Ll Qy (fun sp k hk=>h2 sp k (.inr hk)))
    ·cases F
   ·cases J
 unfold bn at he ⊢
 unfold bN at dj
 cases hgd:D.gd with
 |none=>
  grind
 |some g=>
  obtain⟨j,want⟩:=g
  simp only[hgd]at he dj ⊢
  grind [looks]
end Go.Ev
namespace Go.Ev
open Go
theorem Io(r:List Nat): ∀(D:List Nat) (F i:Nat),(D.foldl (fun m p=>m ||| 2 ^ p ||| aH 0 r p) F).testBit i=true↔F.testBit i=true∨ ∃p∈D,p=i∨(aH 0 r p).testBit i=true
 | [],F,i=>by simp
 |p::D,F,i=>by
  simp only[List.foldl_cons]
  rw[Io r D]
  grind
theorem Lm(r D:List Nat)(i:Nat):(ES r D).testBit i=true↔ ∃p∈D,p=i∨(aH 0 r p).testBit i=true:=by
 unfold ES;rw[Io];simp
theorem jT{α:Type}(d:α): ∀(l r:List α) (k:Nat),k<l.length→aH d (l++r) k=aH d l k
 | [],r,k,h=>by simp at h
 |x::xs,r,0,h=>rfl
 |x::xs,r,k+1,h=>by simp_all[List.cons_append,aH,jT]
theorem rE{α:Type}(d:α): ∀(l:List α) (x:α),aH d (l++ [x]) l.length=x
 | [],x=>rfl
 |y::r,x=>by simp_all[List.cons_append,List.length_cons,aH,rE]
theorem AP: ∀(mX:List (List Nat)) (r:List Nat),(lG mX r).length=r.length+mX.length∧(∀k,k<r.length→aH 0 (lG mX r) k=aH 0 r k)∧
  ∀j ps,mX[j]? =some ps→ ∀i,(aH 0 (lG mX r) (r.length+j)).testBit i=true↔ ∃p∈ps,p=i∨((if p<r.length+j then aH 0 (lG mX r) p else 0).testBit i=true)
 | [],r=>by simp[lG]
 |ps::mX,r=>by
  obtain⟨h1,h2,h3⟩:=AP mX (r++ [ES r ps])
  simp only[lG]
  refine⟨by rw[h1];simp;omega,fun k hk=> ?_,fun j F D i=> ?_⟩
  ·grind [jT]
  ·cases j with
   |zero=>
    simp at D;subst D
    rw[Nat.add_zero,h2 r.length xv,rE,Lm]
    constructor
    ·rintro⟨p,H,e⟩
     refine⟨p,H,e.imp id fun e=> ?_⟩
     by_cases I:p<r.length
     ·grind [jT]
     ·exfalso
      have: ∀(l:List Nat) (k:Nat),l.length≤k→aH 0 l k=0:=by
       intro l
       induction l with
       |nil=>intro k _;rfl
       |cons x xs ih=>intro k hk;cases k with|zero=>simp at hk|succ k=>exact ih k (by simpa using hk)
      grind
    grind [jT]
   |succ j=>
    have:=h3 j F (by simpa using D) i
    grind
theorem uR: ∀(mX:List (List Nat)) (r:Nat),uv r mX=true→ ∀j D,mX[j]? =some D→ ∀p∈D,p<r+j
 | [],r,h,j,D,F,p,H=>by simp at F
 |q::mX,r,h,j,D,F,p,H=>by
  simp only[uv,Bool.and_eq_true,List.all_eq_true]at h
  cases j with
  |zero=>grind
  |succ j=>
   have:=uR mX (r+1) h.2 j D (by simpa using F) p H
   omega
theorem AQ{m:Nat}{as:List aF}{k:Nat}{a:aF}:(k,a)∈Au m as↔as[k]? =some a∧m.testBit k=false:=by
 unfold Au
 rw[List.mem_filter,List.mem_map]
 constructor
 ·grind
 ·rintro⟨h1,h2⟩
  exact⟨⟨(a,k),List.mem_zipIdx_iff_getElem?.2 h1,rfl⟩,by simpa using h2⟩
theorem uS: ∀(F D:List aF) (N:List Nat),uw N D F=true→ ∀j a,F[j]? =some a→ ∀m,N[j]? =some m→ ∀k H,k<D.length+j→(D++F)[k]? =some H→m.testBit k=false→fQ H a=true
 | [],D,N,h,j,a,I,m,J,k,H,hk,O,U=>by simp at I
 |r::F,D,[],h,j,a,I,m,J,k,H,hk,O,U=>by simp at J
 |r::F,D,V::N,h,j,a,I,m,J,k,H,hk,O,U=>by
  simp only[uw,Bool.and_eq_true,List.all_eq_true]at h
  cases j with
  |zero=>
   simp at I J;subst I;subst J
   have:D[k]? =some H:=by rw[List.getElem?_append_left yv]at O;exact O
   exact h.1 (k,H) (AQ.2 ⟨this,U⟩)
  |succ j=>
   exact uS F (D++ [r]) N h.2 j a (by simpa using I) m (by simpa using J) k H (by simp;omega) (by simpa using O) U
variable{E:Env}{call:jP}{n:Nat}
theorem AR: ∀(F D:List aF) (I:List Nat) (br:List FP) (st H:St),br.length=D.length→I.length=F.length→aK E call n (nE I D F) br st=some H→
  ∃(pre:Nat→St) (fp:Nat→FP),pre 0=st∧pre F.length=H∧ ∀j a m,F[j]? =some a→I[j]? =some m→bn E call n a (pre j)=some (pre (j+1))∧bN E call a (pre j)=some (fp j)∧
   ∀k J,k<D.length+j→(D++F)[k]? =some J→m.testBit k=false→quiet a.op=false→quiet J.op=false→apart (if k<D.length then aH ⟨true,[],[]⟩ br k else fp (k-D.length)) (fp j)=true
 | [],D,I,br,st,H,Y,V,h=>by
   cases I with
   |cons _ _=>simp at V
   |nil=>simp[nE,aK]at h;subst h;exact⟨fun _=>st,fun _=>fO,rfl,rfl,by simp⟩
 |r::F,D,[],br,st,H,Y,V,h=>by simp at V
 |r::F,D,m0::I,br,st,H,Y,V,h=>by
  simp only[nE,aK]at h
  cases hf:bN E call r st with
  |none=>simp[hf]at h
  |some W=>
   simp only[hf]at h
   generalize hu:(if quiet r.op=true then []else((Au m0 D).filter fun p=> !quiet p.2.op).map (·.1))=uno at h
   split at h
   ·rename_i bo
    cases he:bn E call n r st with
    |none=>simp[he]at h
    |some eX=>
     simp only[he]at h
     obtain⟨pre,fp,p1,p2,p3⟩:=AR F (D++ [r]) I (br++ [W]) eX H (by simp[Y]) (by simpa using V) h
     refine⟨fun j=>match j with|0=>st|j+1=>pre j,fun j=>match j with|0=>W|j+1=>fp j,rfl,p2,fun j a m hj N=> ?_⟩
     cases j with
     |zero=>
      simp at hj N;subst hj;subst N
      refine⟨by simp only;rw[he,p1],hf,fun k J hk Z hb O U=> ?_⟩
      have X:k<D.length:=yv
      rw[if_pos X]
      have ha':D[k]? =some J:=by rw[List.getElem?_append_left X]at Z;exact Z
      rw[List.all_eq_true]at bo
      refine bo k ?_
      rw[←hu,if_neg (by rw[O];simp)]
      exact List.mem_map.2 ⟨(k,J),List.mem_filter.2 ⟨AQ.2 ⟨ha',hb⟩,by simp[U]⟩,rfl⟩
     |succ j=>
      obtain⟨e1,e2,e3⟩:=p3 j a m (by simpa using hj) (by simpa using N)
      refine⟨e1,e2,fun k J hk Z hb O U=> ?_⟩
      have:=e3 k J (by simp;omega) (by simpa using Z) hb O U
      by_cases h1:k<D.length
      ·grind [jT]
      ·rw[if_neg h1]
       by_cases h2:k=D.length
       ·subst h2
        rw[if_pos xv,←Y,rE]at this
        simpa using this
       ·rw[if_neg (by simp;omega)]at this
        obtain⟨x,hx⟩: ∃x,k-D.length=x+1:=⟨k-D.length-1,by omega⟩
        rw[hx]
        simp only
        have hx2:k-(D++ [r]).length=x:=by simp;omega
        rw[hx2]at this
        exact this
   ·cases h
theorem Ip{a:aF}{p:St}{fp:FP}(I:quiet a.op=true)(h:bN E call a p=some fp):fp.all=false∧fp.r= []∧fp.w= []:=by
 obtain⟨J,N,O,U⟩:=VD (ρ:=p.rho) I (a.d.getD 0) p.get p.sh.length
 have H:(match bB p.rho a.op with
       |some (some c)=>eE E call (a.d.getD 0) p c.1 c.2
       |some none=>none
       |none=>
        let q:=bz (a.d.getD 0) p.rho a.op
        match q.run p.get p.sh.length with
        |some (.val _ D)=>if q.asks p.get p.sh.length||inB p D then some (⟨q.asks p.get p.sh.length,q.log p.get p.sh.length,cR D⟩:FP)else none
        |none=>none)=some fp→fp.all=false∧fp.r= []∧fp.w= []:=by
  intro F
  rw[J]at F
  simp only at F
  split at F
  ·rename_i v D hr
   have:=U v D hr;subst this
   split at F
   ·simp at F;subst F;exact⟨O,N,rfl⟩
   ·cases F
  ·cases F
 unfold bN at h
 cases V:a.gd with
 |none=>grind
 |some g=>
  simp only[V]at h
  split at h
  ·split at h
   ·exact H h
   ·simp at h;subst h;exact⟨rfl,rfl,rfl⟩
  ·simp at h;subst h;exact⟨rfl,rfl,rfl⟩
theorem VE: ∀(a b:List ah),(∀k,aI a k=aI b k)→a.length=b.length→a=b
 | [],[],_,_=>rfl
 | [],y::r,_,h=>by simp at h
 |x::xs,[],_,h=>by simp at h
 |x::xs,y::r,h,D=>by
  have h0:x=y:=h 0
  rw[h0,VE xs r (fun k=>h (k+1)) (by simpa using D)]
end Go.Ev
namespace Go.Ev
open Go
variable{E:Env}{call:jP}{n:Nat}
structure jG (E:Env) (call:jP) (n:Nat) (as:List aF) (mX:List (List Nat)) (bit:Nat→Nat→Bool) (pre:Nat→St) (fp:Nat→FP):Prop where
 len:mX.length=as.length
 edges: ∀(j:Nat) (ps:List Nat),mX[j]? =some ps→ ∀p∈ps,p<j
 bits: ∀(j:Nat) (ps:List Nat),mX[j]? =some ps→ ∀i,bit j i=true↔ ∃p∈ps,p=i∨bit p i=true
 run: ∀(j:Nat) (a:aF),as[j]? =some a→bn E call n a (pre j)=some (pre (j+1))∧bN E call a (pre j)=some (fp j)
 slots: ∀(j:Nat) (a:aF) (k:Nat) (a':aF),as[j]? =some a→as[k]? =some a'→k<j→bit j k=false→fQ a' a=true
 apart: ∀(j:Nat) (a:aF) (k:Nat) (a':aF),as[j]? =some a→as[k]? =some a'→k<j→bit j k=false→quiet a.op=false→quiet a'.op=false→Ev.apart (fp k) (fp j)=true
variable{as:List aF}{mX:List (List Nat)}{bit:Nat→Nat→Bool}{pre:Nat→St}{fp:Nat→FP}
def AS(mX:List (List Nat))(L:Nat→Prop):Prop:= ∀(j:Nat) (r:List Nat),mX[j]? =some r→L j→ ∀p∈r,L p
theorem xY(R:jG E call n as mX bit pre fp){L:Nat→Prop}(hc:AS mX L): ∀(j:Nat) (r:List Nat),mX[j]? =some r→(∀p∈r,L p)→ ∀i,bit j i=true→L i:=by
 intro j
 induction j using Nat.strongRecOn with
 |_ j ih=>
  intro r F I i N
  obtain⟨p,h1,h2⟩:=(R.bits j r F i).1 N
  rcases h2 with rfl|h2
  ·exact I p h1
  ·have D:=R.edges j r F p h1
   have H:p<mX.length:=Nat.lt_trans D (List.getElem?_eq_some_iff.1 F).1
   have J:mX[p]? =some mX[p]:=List.getElem?_eq_getElem H
   exact ih p D _ J (hc p _ J (I p h1)) i h2
theorem qp(R:jG E call n as mX bit pre fp){L:Nat→Prop}(hc:AS mX L){i j:Nat}(hi:i<as.length)(I:j<as.length)(D: ¬L i)(F: ∀H,mX[i]? =some H→ ∀p∈H,L p)(J:i=j∨(j<i∧bit i j=true)∨(i<j∧bit j i=true)):L j↔j<i:=by
 rcases J with rfl|⟨h1,h2⟩|⟨h1,h2⟩
 ·grind
 ·refine⟨fun _=>h1,fun _=> ?_⟩
  have N:i<mX.length:=by rw[R.len];exact hi
  have r:mX[i]? =some mX[i]:=List.getElem?_eq_getElem N
  exact xY R hc i _ r (F _ r) j h2
 ·refine⟨fun O=>absurd ?_ D,fun h=>by omega⟩
  have CD:j<mX.length:=by rw[R.len];exact I
  have r:mX[j]? =some mX[j]:=List.getElem?_eq_getElem CD
  exact xY R hc j _ r (hc j _ r O) i h2
structure Inv (as:List aF) (pre:Nat→St) (fp:Nat→FP) (L:Nat→Prop) (s:St):Prop where
 slot: ∀t i,i≤as.length→(∀(j:Nat) (a:aF),as[j]? =some a→a.d=some t→(L j↔j<i))→aa s.fr t=aa (pre i).fr t
 key: ∀sp k i,i≤as.length→(∀j,j<as.length→wrote (fp j) sp k→(L j↔j<i))→s.get sp k=(pre i).get sp k
 len: ∀i,i≤as.length→(∀j,j<as.length→(fp j).all=true→(L j↔j<i))→s.sh.length=(pre i).sh.length
theorem AU(R:jG E call n as mX bit pre fp){j:Nat}{a:aF}(r:as[j]? =some a):abJ a (fp j) (pre j) (pre (j+1)) (pre (j+1)):=by
 obtain⟨h1,h2⟩:=R.run j a r
 obtain⟨D,e1,e2⟩:=Im (s:=pre j) h1 h2 (fun _ _=>rfl) (fun _ _ _=>rfl) (fun _=>rfl)
 grind
theorem Iq(R:jG E call n as mX bit pre fp)(t i:Nat): ∀r,i≤r→r≤as.length→(∀(j:Nat) (a:aF),as[j]? =some a→i≤j→j<r→a.d≠some t)→aa (pre r).fr t=aa (pre i).fr t:=by
 intro r h1
 induction r with
 |zero=>grind
 |succ m ih=>
  intro h2 h3
  by_cases D:i=m+1
  ·subst D;rfl
  ·have NF:m<as.length:=yv
   have F:as[m]? =some as[m]:=List.getElem?_eq_getElem NF
   have H:=(AU R F).slot t
   grind
theorem NG(R:jG E call n as mX bit pre fp)(sp:Sp)(k i:Nat): ∀r,i≤r→r≤as.length→(∀j,i≤j→j<r→ ¬wrote (fp j) sp k)→(pre r).get sp k=(pre i).get sp k:=by
 intro r h1
 induction r with
 |zero=>grind
 |succ m ih=>
  intro h2 h3
  by_cases D:i=m+1
  ·subst D;rfl
  ·have NF:m<as.length:=yv
   have F:as[m]? =some as[m]:=List.getElem?_eq_getElem NF
   have H:=((AU R F).key sp k).2 (h3 m yv yv)
   grind
theorem NH(R:jG E call n as mX bit pre fp)(i:Nat): ∀r,i≤r→r≤as.length→(∀j,i≤j→j<r→(fp j).all=false)→(pre r).sh.length=(pre i).sh.length:=by
 intro r h1
 induction r with
 |zero=>grind
 |succ m ih=>
  intro h2 h3
  by_cases D:i=m+1
  ·subst D;rfl
  ·have NF:m<as.length:=yv
   have F:as[m]? =some as[m]:=List.getElem?_eq_getElem NF
   have H:=(AU R F).len.2 (h3 m yv yv)
   grind
theorem either(R:jG E call n as mX bit pre fp){i j:Nat}{a r:aF}(hi:as[i]? =some a)(F:as[j]? =some r)(H:i≠j):
  ((j<i∧bit i j=true)∨(i<j∧bit j i=true))∨((fQ a r=true∨fQ r a=true)∧(quiet a.op=true∨quiet r.op=true∨Ev.apart (fp i) (fp j)=true∨Ev.apart (fp j) (fp i)=true)):=by
 rcases Nat.lt_or_gt_of_ne H with h|h
 ·cases D:bit j i with
  |true=>grind
  |false=>
   refine .inr ⟨.inl (R.slots j r i a F hi h D), ?_⟩
   cases h1:quiet a.op
   ·cases h2:quiet r.op
    ·exact .inr (.inr (.inl (R.apart j r i a F hi h D h2 h1)))
    ·grind
   ·exact .inl rfl
 ·cases D:bit i j with
  |true=>grind
  |false=>
   refine .inr ⟨.inr (R.slots i a j r hi F h D), ?_⟩
   cases h1:quiet a.op
   ·cases h2:quiet r.op
    ·exact .inr (.inr (.inr (R.apart i a j r hi F h D h1 h2)))
    ·grind
   ·exact .inl rfl
theorem CE{x y:aF}(h:fQ x y=true∨fQ y x=true){t:Nat}:(x.d=some t→t∉looks y∧y.d≠some t):=by
 grind [fQ]
theorem rF{xs r:List (Sp×Nat)}(h:eD xs r=true){κ:Sp×Nat}(h1:κ∈xs)(h2:κ∈r):False:=by
 grind [eD]
theorem wZ{xs:List (Sp×Nat)}(h:GV xs=true){k:Nat}(h1:(Sp.S,k)∈xs):False:=by
 grind [GV]
theorem VF{x y:FP}(h:Ev.apart x y=true∨Ev.apart y x=true){sp:Sp}{k:Nat}(D:wrote y sp k):(sp,k)∉x.r∧(sp,k)∉x.w∧ ¬(x.all=true∧sp= .S):=by
 rcases h with h|h <;> unfold Ev.apart at h <;> simp only[Bool.and_eq_true,Bool.or_eq_true,Bool.not_eq_true']at h <;> obtain⟨⟨⟨⟨a1,a2⟩,F⟩,a4⟩,a5⟩:=h
 ·rcases D with D|⟨D,rfl⟩
  ·refine⟨fun e=>rF F e D,fun e=>rF a2 e D,fun e=> ?_⟩
   grind [wZ]
  ·rcases a5 with a5|a5
   ·grind
   ·refine⟨fun e=>wZ a5.1 e,fun e=>wZ a5.2 e,fun e=> ?_⟩
    grind
 ·rcases D with D|⟨D,rfl⟩
  ·refine⟨fun e=>rF a1 D e,fun e=>rF a2 D e,fun e=> ?_⟩
   grind [wZ]
  ·rcases a4 with a4|a4
   ·grind
   ·refine⟨fun e=>wZ a4.1.2 e,fun e=>wZ a4.2 e,fun e=> ?_⟩
    grind
theorem VG(R:jG E call n as mX bit pre fp){L:Nat→Prop}(hc:AS mX L){s:St}(I:Inv as pre fp L s){i:Nat}{a:aF}(hi:as[i]? =some a)(hni: ¬L i)(hpi: ∀ps,mX[i]? =some ps→ ∀p∈ps,L p):
  ∃s',bn E call n a s=some s'∧Inv as pre fp (fun j=>L j∨j=i) s':=by
 have Z:i<as.length:=(List.getElem?_eq_some_iff.1 hi).1
 obtain⟨r1,r2⟩:=R.run i a hi
 have NI: ∀t,(t∈looks a∨a.d=some t)→ ∀(j:Nat) (W:aF),as[j]? =some W→W.d=some t→(L j↔j<i):=by
  intro t ht j W F hd
  have CD:=(List.getElem?_eq_some_iff.1 F).1
  by_cases Y:i=j
  ·subst Y;exact qp R hc Z CD hni hpi (.inl rfl)
  ·rcases either R hi F Y with h|⟨h,_⟩
   ·grind [qp]
   grind [CE]
 have E7: ∀sp k,((sp,k)∈(fp i).r∨(sp,k)∈(fp i).w∨((fp i).all=true∧sp= .S))→ ∀j,j<as.length→wrote (fp j) sp k→(L j↔j<i):=by
  intro sp k ht j CD hw
  have F:as[j]? =some as[j]:=List.getElem?_eq_getElem CD
  by_cases Y:i=j
  ·grind
  ·rcases either R hi F Y with h|⟨_,h⟩
   ·grind [qp]
   ·exfalso
    rcases h with h|h|h
    ·obtain⟨q1,q2,q3⟩:=Ip h r2
     rcases ht with ht|ht|ht
     ·rw[q2]at ht;simp at ht
     ·rw[q3]at ht;simp at ht
     ·rw[q1]at ht;cases ht.1
    ·obtain⟨q1,q2,q3⟩:=Ip h (R.run j _ F).2
     rcases hw with hw|hw
     ·rw[q3]at hw;simp at hw
     ·rw[q1]at hw;cases hw.1
    ·obtain⟨z1,z2,z3⟩:=VF h hw
     rcases ht with ht|ht|ht
     ·exact z1 ht
     ·exact z2 ht
     ·exact z3 ht
 have VH:(fp i).all=true→ ∀j,j<as.length→(fp j).all=true→(L j↔j<i):=by
  intro X j CD D
  exact E7 .S 0 (.inr (.inr ⟨X,rfl⟩)) j CD (.inr ⟨D,rfl⟩)
 obtain⟨s',e1,e2⟩:=Im (s:=s) r1 r2 (fun t ht=>I.slot t i (Nat.le_of_lt Z) (fun j W F hd=>NI t (.inl ht) j W F hd))
  (fun sp k ht=>I.key sp k i (Nat.le_of_lt Z) (fun j CD hw=>E7 sp k (ht.elim .inl fun h=> .inr (.inl h)) j CD hw))
  (fun X=>VE _ _ (fun k=>I.key .S k i (Nat.le_of_lt Z) (fun j CD hw=>E7 .S k (.inr (.inr ⟨X,rfl⟩)) j CD hw)) (I.len i (Nat.le_of_lt Z) (VH X)))
 refine⟨s',e1,fun t H Cy J=> ?_,fun sp k H Cy J=> ?_,fun H Cy J=> ?_⟩
 ·rw[e2.slot t]
  split
  ·rename_i hd
   have N:i<H:=(J i a hi hd).1 (.inr rfl)
   rw[Iq R t (i+1) H N Cy]
   intro j W F h1 h2 O
   have hL:=(J j W F O).2 h2
   have:=NI t (.inr hd) j W F O
   rcases hL with hL|hL
   ·have:=this.1 hL;omega
   ·omega
  ·rename_i hd
   exact I.slot t H Cy (fun j W F O=>by
    have:=J j W F O
    constructor
    ·exact fun hL=>this.1 (.inl hL)
    ·intro U
     rcases this.2 U with hL|hL
     ·exact hL
     ·subst hL;rw[hi]at F;simp at F;subst F;exact absurd O hd)
 ·by_cases hw:wrote (fp i) sp k
  ·have N:i<H:=(J i Z hw).1 (.inr rfl)
   rw[(e2.key sp k).1 hw,NG R sp k (i+1) H N Cy]
   intro j h1 h2 V
   have CD:j<as.length:=yv
   have hL:=(J j CD V).2 h2
   have:=E7 sp k (hw.elim (fun e=> .inr (.inl e)) fun e=> .inr (.inr e)) j CD V
   rcases hL with hL|hL
   ·have:=this.1 hL;omega
   ·omega
  ·rw[(e2.key sp k).2 hw]
   exact I.key sp k H Cy (fun j CD V=>by
    have:=J j CD V
    constructor
    ·exact fun hL=>this.1 (.inl hL)
    ·intro U
     rcases this.2 U with hL|hL
     ·exact hL
     ·subst hL;exact absurd V hw)
 ·cases X:(fp i).all with
  |true=>
   have N:i<H:=(J i Z X).1 (.inr rfl)
   rw[e2.len.1 X,NH R (i+1) H N Cy]
   intro j h1 h2
   cases D:(fp j).all with
   |false=>rfl
   |true=>
    have CD:j<as.length:=yv
    have hL:=(J j CD D).2 h2
    have:=VH X j CD D
    rcases hL with hL|hL
    ·have:=this.1 hL;omega
    ·omega
  |false=>
   rw[e2.len.2 X]
   exact I.len H Cy (fun j CD D=>by
    have:=J j CD D
    constructor
    ·exact fun hL=>this.1 (.inl hL)
    ·intro U
     rcases this.2 U with hL|hL
     ·exact hL
     ·subst hL;rw[X]at D;cases D)
end Go.Ev
namespace Go.Ev
open Go
section
variable{P:Program}{E:Env}{call:jP}{n:Nat}{hs:List Nat}{ops:Array Oper}
theorem jH: ∀{r:List Oper} {as:List aF},dz P hs ops r=some as→as.length=r.length∧ ∀(j:Nat) (o:Oper),r[j]? =some o→ ∃a,as[j]? =some a∧qg P hs ops o=some a
 | [],as,h=>by grind [dz]
 |o::r,as,h=>by
  simp only[dz]at h
  split at h
  ·rename_i a D h1 h2
   simp at h;subst h
   obtain⟨e1,e2⟩:=jH h2
   grind
  ·cases h
theorem VI(O:px P E)(U:uP P E call){Q:Exit→Act→World→Prop}: ∀(k i:Nat) (as:List aF),i+k=ops.size→dz P hs ops (ops.toList.drop i)=some as→
  ∀{B:eS} {st D:St} {a:Act} {w:World} {β:aO} {M:MSet},ba B st w β M→iN st a w β M n→ai E call n as st=some D→
  (∀H w' F M',ba B D w' F M'→iN D H w' F M' n→Tr st w β M D w' F M'→w.heap.size≤w'.heap.size→Q .normal H w')→wpOps P ops Q (List.range' i k) a w
 |0,i,as,Nw,hc,B,st,D,a,w,β,M,h,I,r,J=>by
  have W:ops.toList.drop i= []:=List.drop_eq_nil_of_le (by simp;omega)
  rw[W]at hc
  simp[dz]at hc;subst hc
  simp[ai]at r;subst r
  simp only[List.range',wpOps]
  exact J a w β M h I (Tr.refl _ _ _ _) (Nat.le_refl _)
 |k+1,i,as,Nw,hc,B,st,D,a,w,β,M,h,I,r,J=>by
  have hi:i<ops.toList.length:=by simp;omega
  rw[List.drop_eq_getElem_cons hi]at hc
  simp only[dz]at hc
  split at hc
  ·rename_i ao N h1 h2
   simp at hc;subst hc
   simp only[ai]at r
   split at r
   ·rename_i eX Cw
    rw[List.range'_succ,wpOps_cons]
    refine mq O U (o:=ops.toList[i]) (by simp at hi ⊢) h1 h I Cw ?_
    intro H w' F M' X Y Z V
    exact VI O U k (i+1) N yv h2 X Y r (fun a2 w2 VJ M2 s1 s2 s3 s4=>J a2 w2 VJ M2 s1 s2 (Z.trans s3 V) (Nat.le_trans V s4))
   ·cases r
  ·cases hc
theorem ah2{B:eS}{s F:St}{w:World}{β:aO}{M:MSet}(r: ∀sp k,F.get sp k=s.get sp k)(h:ba B s w β M):ba B F w β M:=by
 have CF:F.gens=s.gens:=by funext sp k;show(F.get sp k).g=_;rw[r]
 refine⟨fun sp k=>by rw[r,CF];exact h.obj sp k,fun sp k J k' H I e=> ?_,h.mlt,fun k D=> ?_,fun k D=> ?_,h.os,h.tape,h.output,h.size,h.same,h.keep,h.msup⟩
 ·rw[r]at H I;rw[CF]at e;exact h.dist sp k J k' H I e
 ·rw[r]at D;rw[CF];exact h.lblk k D
 ·rw[r]at D;rw[CF];exact h.sblk k D
theorem ah3{s r:St}{a:Act}{w:World}{β:aO}{M:MSet}(D: ∀sp k,r.get sp k=s.get sp k)(F: ∀t,aa r.fr t=aa s.fr t)(h:iN s a w β M n):iN r a w β M n:=by
 have CF:r.gens=s.gens:=by funext sp k;show(r.get sp k).g=_;rw[D]
 exact⟨h.size,h.defers,fun t=>by rw[CF,F];exact h.slot t⟩
theorem VK{st s r:St}{w w':World}{β aW:aO}{M M':MSet}(D: ∀sp k,r.get sp k=s.get sp k)(h:Tr st w β M s w' aW M'):Tr st w β M r w' aW M':=by
 have CF:r.gens=s.gens:=by funext sp k;show(r.get sp k).g=_;rw[D]
 exact⟨h.keep,h.beta,by rw[CF];exact h.gens⟩
theorem akh(hE:px P E)(hO:uP P E call){Q:Exit→Act→World→Prop}{as:List aF}{bit:Nat→Nat→Bool}{pre:Nat→St}{fp:Nat→FP}(hc:dz P hs ops ops.toList=some as)
  (R:jG E call n as (ops.toList.map cq) bit pre fp) {B:eS} {st:St} {w:World} {β:aO} {M:MSet}:
  ∀(D:Nat) (r:Array Bool) (s:St) (a:Act) (F:World) (GZ:aO) (M1:MSet),r.size=ops.size→((List.range ops.size).filter fun i=> !r.getD i true).length≤D→AS (ops.toList.map cq) (fun j=>r.getD j false=true)→
   Inv as pre fp (fun j=>r.getD j false=true) s→ba B s F GZ M1→iN s a F GZ M1 n→Tr st w β M s F GZ M1→w.heap.size≤F.heap.size→
   (∀O w' N M',ba B (pre as.length) w' N M'→iN (pre as.length) O w' N M' n→Tr st w β M (pre as.length) w' N M'→w.heap.size≤w'.heap.size→Q .normal O w')→
   wpAny P .any ops Q D r a F:=by
 obtain⟨hlen,AV⟩:=jH hc
 have VL:as.length=ops.size:=by simpa using hlen
 have done: ∀(r:Array Bool) (s:St) (a:Act) (F:World) (GZ:aO) (M1:MSet),r.size=ops.size→AS (ops.toList.map cq) (fun j=>r.getD j false=true)→Inv as pre fp (fun j=>r.getD j false=true) s→ba B s F GZ M1→iN s a F GZ M1 n→Tr st w β M s F GZ M1→w.heap.size≤F.heap.size→
   (∀O w' N M',ba B (pre as.length) w' N M'→iN (pre as.length) O w' N M' n→Tr st w β M (pre as.length) w' N M'→w.heap.size≤w'.heap.size→Q .normal O w')→Region.ready .any ops r= []→Q .normal a F:=by
  intro r s a F GZ M1 hls J I h W X H Y hr
  have all: ∀j,j<ops.size→r.getD j false=true:=by
   intro j
   induction j using Nat.strongRecOn with
   |_ j ih=>
    intro hj
    cases hb:r.getD j false with
    |true=>rfl
    |false=>
     exfalso
     have:j∈Region.ready .any ops r:=by
      unfold Region.ready
      rw[List.mem_filter]
      refine⟨List.mem_range.2 hj, ?_⟩
      have h1:r.getD j true=false:=by
       grind
      rw[h1]
      simp only[Bool.not_false,Bool.true_and]
      have Z:ops[j]? =some ops[j]:=Array.getElem?_eq_getElem hj
      rw[Z]
      simp only[Option.map_some,Option.getD_some]
      rw[←Array.all_toList,List.all_eq_true]
      intro e he
      cases rG:Region.binds .any e with
      |false=>rfl
      |true=>
       simp only[Bool.not_true,Bool.false_or]
       have aBD:e.on∈cq ops[j]:=by
        unfold cq
        exact List.mem_map.2 ⟨e,List.mem_filter.2 ⟨he,rG⟩,rfl⟩
       have hpj:(ops.toList.map cq)[j]? =some (cq ops[j]):=by simp[Z]
       have hlt:=R.edges j _ hpj e.on aBD
       exact ih e.on hlt yv
     grind
  have cond: ∀j,j<as.length→(r.getD j false=true↔j<as.length):=fun j hj=>⟨fun _=>hj,fun _=>all j yv⟩
  have g1: ∀sp k,(pre as.length).get sp k=s.get sp k:=fun sp k=>(I.key sp k as.length (Nat.le_refl _) (fun j hj _=>cond j hj)).symm
  have g2: ∀t,aa (pre as.length).fr t=aa s.fr t:=fun t=>(I.slot t as.length (Nat.le_refl _) (fun j a hj _=>cond j (List.getElem?_eq_some_iff.1 hj).1)).symm
  exact Y a F GZ M1 (ah2 g1 h) (ah3 g1 g2 W) (VK g1 X) H
 intro D
 induction D with
 |zero=>
  intro r s a F GZ M1 hls abM J I h W X H Y
  have hr:Region.ready .any ops r= []:=by
   simp_all[Region.ready,List.filter_eq_nil_iff,Bool.and_eq_true,List.eq_nil_of_length_eq_zero]
  exact⟨hr,done r s a F GZ M1 hls J I h W X H Y hr⟩
 |succ D ih=>
  intro r s a F GZ M1 hls abM J I h W X H Y
  refine⟨done r s a F GZ M1 hls J I h W X H Y,fun i hi=> ?_⟩
  unfold Region.ready at hi
  rw[List.mem_filter]at hi
  obtain⟨hir,CG⟩:=hi
  have lZ:i<ops.size:=List.mem_range.1 hir
  have Z:ops[i]? =some ops[i]:=Array.getElem?_eq_getElem lZ
  rw[Z]at CG
  simp only[Bool.and_eq_true,Bool.not_eq_true',Option.map_some,Option.getD_some]at CG
  obtain⟨CH,CI⟩:=CG
  have U:i<r.size:=yv
  have Lc: ¬(r.getD i false=true):=by
   simp[Array.getD_eq_getD_getElem?,Array.getElem?_eq_getElem U]at CH ⊢; exact CH
  have avk: ∀ps,(ops.toList.map cq)[i]? =some ps→ ∀p∈ps,r.getD p false=true:=by
   intro ps rZ p hp
   simp[Z]at rZ;subst rZ
   unfold cq at hp
   obtain⟨e,he,rfl⟩:=List.mem_map.1 hp
   obtain⟨Cw,he2⟩:=List.mem_filter.1 he
   rw[←Array.all_toList,List.all_eq_true]at CI
   have:=CI e Cw
   simpa[he2]using this
  obtain⟨ao,hao,oi⟩:=AV i ops[i] xv
  obtain⟨s',he,I'⟩:=VG R J I hao Lc avk
  refine mq hE hO Z oi h W he ?_
  intro O w' N M' r1 r2 r3 r4
  have Ig: ∀j,(r.setIfInBounds i true).getD j false=true↔(r.getD j false=true∨j=i):=by
   intro j
   simp only[Array.getD_eq_getD_getElem?,Array.getElem?_setIfInBounds]
   by_cases hj:i=j
   ·subst hj;simp[U]
   ·rw[if_neg hj]
    exact⟨.inl,fun e=>e.resolve_right (fun e=>hj e.symm)⟩
  refine ih (r.setIfInBounds i true) s' O w' N M' (by simp[hls]) ?_ ?_ ?_ r1 r2 (X.trans r3 H) (Nat.le_trans H r4) Y
  ·have hfe:(List.range ops.size).filter (fun j=> !(r.setIfInBounds i true).getD j true)=((List.range ops.size).filter (fun j=> !r.getD j true)).filter (fun j=>decide (j≠i)):=by
    rw[List.filter_filter]
    apply List.filter_congr
    intro j hj
    simp only[Array.getD_eq_getD_getElem?,Array.getElem?_setIfInBounds]
    by_cases V:i=j
    ·subst V;simp[U]
    ·have: ¬j=i:=fun e=>V e.symm
     rw[if_neg V];simp[this]
   rw[hfe]
   have hlt:(((List.range ops.size).filter (fun j=> !r.getD j true)).filter (fun j=>decide (j≠i))).length<((List.range ops.size).filter (fun j=> !r.getD j true)).length:=by
    rw[List.length_filter_lt_length_iff_exists]
    exact⟨i,List.mem_filter.2 ⟨hir,by rw[CH];rfl⟩,by simp⟩
   omega
  ·intro j ps rZ hj p hp
   rw[Ig]at hj ⊢
   rcases hj with hj|hj
   ·exact .inl (J j ps rZ hj p hp)
   ·subst hj;exact .inl (avk ps rZ p hp)
  ·have:(fun j=>(r.setIfInBounds i true).getD j false=true)=(fun j=>r.getD j false=true∨j=i):=by funext j;exact propext (Ig j)
   rw[this];exact I'
end
end Go.Ev
namespace Go.Ev
open Go
def akj:Out→Exit
 | .nrm=> .normal
 | .ext id=> .exit id
 | .ret=> .ret
section
variable{P:Program}{E:Env}{call:jP}{n:Nat}{hs:List Nat}
theorem VM{l:List Nat}{j:Nat}(h:j<l.length):l[j]? =some (aH 0 l j):=by
 induction l generalizing j with
 |nil=>simp at h
 |cons x xs ih=>
  cases j with
  |zero=>rfl
  |succ j=>grind [aH]
theorem VN(hE:px P E)(hO:uP P E call)(hm:P.follows .mixedOrders=true){id:Nat}{ops:Array Oper}{as:List aF}(hc:dz P hs ops ops.toList=some as)(Cw:uv 0 (ops.toList.map cq)=true)(V:uw (lG (ops.toList.map cq) []) [] as=true)
  {B:eS} {st J:St} {a:Act} {w:World} {β:aO} {M:MSet} (h:ba B st w β M) (W:iN st a w β M n) (X:aK E call n (nE (lG (ops.toList.map cq) []) [] as) [] st=some J) {Q:Exit→Act→World→Prop}
  (hq: ∀I w' Y M',ba B J w' Y M'→iN J I w' Y M' n→Tr st w β M J w' Y M'→w.heap.size≤w'.heap.size→Q .normal I w'):(Code.region id ops true).wp P Q a w:=by
 obtain⟨F,AV⟩:=jH hc
 obtain⟨m1,m2,m3⟩:=AP (ops.toList.map cq) []
 have NF:(lG (ops.toList.map cq) []).length=as.length:=by rw[m1,F];simp
 obtain⟨pre,fp,Z,p2,p3⟩:=AR as [] _ [] st J rfl NF X
 have H: ∀j,j<as.length→(lG (ops.toList.map cq) [])[j]? =some (aH 0 (lG (ops.toList.map cq) []) j):=fun j r=>VM (by rw[NF];exact r)
 have hed:=uR _ 0 Cw
 have R:jG E call n as (ops.toList.map cq) (fun j i=>(aH 0 (lG (ops.toList.map cq) []) j).testBit i) pre fp:=by
  refine⟨by rw[F];simp,fun j U r p hp=>by have:=hed j U r p hp;omega,fun j U r i=> ?_,fun j I r=> ?_,fun j a1 k a2 r hk D hb=> ?_,fun j a1 k a2 r hk D hb hq1 hq2=> ?_⟩
  ·have:=m3 j U r i
   simp only[List.length_nil,Nat.zero_add]at this
   grind
  ·obtain⟨e1,e2,_⟩:=p3 j I _ r (H j (List.getElem?_eq_some_iff.1 r).1)
   grind
  ·exact uS as [] _ V j a1 r _ (H j (List.getElem?_eq_some_iff.1 r).1) k a2 (by simpa using D) (by simpa using hk) hb
  ·obtain⟨_,_,e3⟩:=p3 j a1 _ r (H j (List.getElem?_eq_some_iff.1 r).1)
   simp_all
 obtain⟨d1,d2⟩:=EU h (w.drawn+1)
 refine wp_region_any hm ?_
 have N: ∀j,((Array.replicate ops.size false).getD j false=true)↔False:=by
  intro j
  simp only[Array.getD_eq_getD_getElem?,Array.getElem?_replicate]
  split <;> simp
 have hI:Inv as pre fp (fun j=>(Array.replicate ops.size false).getD j false=true) st:=by
  have aBG:(fun j=>(Array.replicate ops.size false).getD j false=true)=fun _=>False:=by funext j;exact propext (N j)
  rw[aBG]
  refine⟨fun t i hi O=> ?_,fun sp k i hi O=> ?_,fun i hi O=> ?_⟩
  ·rw[Iq R t 0 i (Nat.zero_le _) hi (fun j I r _ D hd=>(O j I r hd).2 D),Z]
  ·rw[NG R sp k 0 i (Nat.zero_le _) hi (fun j _ D hw=>(O j yv hw).2 D),Z]
  ·rw[NH R 0 i (Nat.zero_le _) hi (fun j _ D=>by
    cases hal:(fp j).all with
    |false=>rfl
    |true=>exact((O j yv hal).2 D).elim),Z]
 refine akh (st:=st) (w:=w) (β:=β) (M:=M) hE hO hc R ops.size _ st a _ β M xv ?_ ?_ hI d1 ⟨W.size,W.defers,fun t=>d2.val (W.slot t)⟩ d2 (Nat.le_refl _) ?_
 ·exact Nat.le_trans (List.length_filter_le _ _) xv
 ·intro j U _ r
  exact((N j).1 r).elim
 grind
theorem fb{ops:Array Oper}{L:Array Bool}{i:Nat}(hi:i<ops.size):i∈Region.ready .any ops L↔L.getD i true=false∧ ∀p∈cq ops[i],L.getD p false=true:=by
 have r:ops[i]? =some ops[i]:=Array.getElem?_eq_getElem hi
 unfold Region.ready
 rw[List.mem_filter,List.mem_range,r]
 simp only[Bool.and_eq_true,Bool.not_eq_true',Option.map_some,Option.getD_some,hi,true_and]
 refine and_congr_right fun _=> ?_
 rw[←Array.all_toList,List.all_eq_true]
 grind [cq]
theorem nH{ops:Array Oper}{L:Array Bool}{i:Nat}(h:i∈Region.ready .any ops L):i<ops.size:=by
 grind [Region.ready]
theorem fm{o:aF}{r:List aF}{st s:St}(h:ai E call n (o::r) st=some s): ∃t,bn E call n o st=some t∧ai E call n r t=some s:=by
 grind [ai]
theorem abN(hE:px P E)(hO:uP P E call)(hm:P.follows .mixedOrders=true){id:Nat}{ops:Array Oper}{o0 o1 o2 o3:aF}(hc:dz P hs ops ops.toList=some [o0,o1,o2,o3])(D:ET (ops.toList.map cq)=true)
  {B:eS} {st s1 s2:St} {a:Act} {w:World} {β:aO} {M:MSet} (h:ba B st w β M) (hf:iN st a w β M n) (e1:ai E call n [o0,o1,o2,o3] st=some s1) (e2:ai E call n [o0,o2,o1,o3] st=some s2) {Q:Exit→Act→World→Prop}
  (q1: ∀H w' r M',ba B s1 w' r M'→iN s1 H w' r M' n→Tr st w β M s1 w' r M'→w.heap.size≤w'.heap.size→Q .normal H w')
  (q2: ∀H w' r M',ba B s2 w' r M'→iN s2 H w' r M' n→Tr st w β M s2 w' r M'→w.heap.size≤w'.heap.size→Q .normal H w'):(Code.region id ops true).wp P Q a w:=by
 obtain⟨hlen,AV⟩:=jH hc
 have hsz:ops.size=4:=by simpa using hlen.symm
 obtain⟨t0,f0,e1⟩:=fm e1
 obtain⟨t1,f1,e1⟩:=fm e1
 obtain⟨t2,f2,e1⟩:=fm e1
 obtain⟨t3,f3,e1⟩:=fm e1
 simp only[ai,Option.some.injEq]at e1
 subst e1
 obtain⟨t0',g0,e2⟩:=fm e2
 obtain⟨u1,g1,e2⟩:=fm e2
 obtain⟨u2,g2,e2⟩:=fm e2
 obtain⟨u3,g3,e2⟩:=fm e2
 simp only[ai,Option.some.injEq]at e2
 subst e2
 rw[f0]at g0
 injection g0 with g0
 subst g0
 have dh: ∀j (hj:j<ops.size) (ao:aF),[o0,o1,o2,o3][j]? =some ao→qg P hs ops ops[j]=some ao:=by
  intro j hj ao hao
  obtain⟨x,hx,hy⟩:=AV j ops[j] xv
  grind
 have rZ: ∃p1 p2 Y,ops.toList.map cq= [[],p1,p2,Y]∧0∈p1∧0∈p2∧(∀x∈p1,x<1)∧(∀x∈p2,x<1)∧1∈Y∧2∈Y∧ ∀x∈Y,x<3:=by
  unfold ET at D
  grind
 obtain⟨p1,p2,Y,aHH,a1,a2,b1,b2,c1,c2,c3⟩:=rZ
 have O: ∀j (hj:j<ops.size) (ps:List Nat),[[],p1,p2,Y][j]? =some ps→cq ops[j]=ps:=by
  grind
 have U:0<ops.size:=yv
 have F:1<ops.size:=yv
 have J:2<ops.size:=yv
 have V:3<ops.size:=yv
 have r0:=O 0 U [] rfl
 have r1:=O 1 F p1 rfl
 have r2:=O 2 J p2 rfl
 have r3:=O 3 V Y rfl
 obtain⟨d1,d2⟩:=EU h (w.drawn+1)
 refine wp_region_any hm ?_
 rw[hsz]
 have base:iN st a {w with drawn:=w.drawn+1} β M n:=⟨hf.size,hf.defers,fun t=>d2.val (hf.slot t)⟩
 have sz0:w.heap.size≤{w with drawn:=w.drawn+1}.heap.size:=Nat.le_refl _
 have X: ∀(t s:St),bn E call n o3 t=some s→(∀H w' r M',ba B s w' r M'→iN s H w' r M' n→Tr st w β M s w' r M'→w.heap.size≤w'.heap.size→Q .normal H w')→
   ∀H w' r M',ba B t w' r M'→iN t H w' r M' n→Tr st w β M t w' r M'→w.heap.size≤w'.heap.size→wpAny P .any ops Q 1 #[true,true,true,false] H w':=by
  intro t s he hq H w' r M' x1 x2 x3 x4
  refine⟨fun hr=> ?_,fun i hi=> ?_⟩
  ·have:3∈Region.ready .any ops #[true,true,true,false]:=(fb V).2 ⟨rfl,fun p D=>by
    rw[r3]at D
    have:=c3 p D
    have:p=0∨p=1∨p=2:=yv
    rcases this with rfl|rfl|rfl <;> rfl⟩
   rw[hr]at this;cases this
  ·have N:=nH hi
   obtain⟨I,_⟩:=(fb N).1 hi
   have:i=0∨i=1∨i=2∨i=3:=yv
   rcases this with rfl|rfl|rfl|rfl
   ·cases I
   ·cases I
   ·cases I
   ·refine mq hE hO (o:=ops[3]) (Array.getElem?_eq_getElem V) (dh 3 V o3 rfl) x1 x2 he ?_
    intro a2 w2 VJ M2 z1 z2 z3 Z
    have hr0:Region.ready .any ops (#[true,true,true,false].setIfInBounds 3 true)= []:=by
     rw[List.eq_nil_iff_forall_not_mem]
     intro i hi
     have N:=nH hi
     obtain⟨I,_⟩:=(fb N).1 hi
     have:i=0∨i=1∨i=2∨i=3:=yv
     rcases this with rfl|rfl|rfl|rfl <;> cases I
    exact⟨hr0,hq a2 w2 VJ M2 z1 z2 (x3.trans z3 x4) (Nat.le_trans x4 Z)⟩
 refine⟨fun hr=> ?_,fun i hi=> ?_⟩
 ·have:0∈Region.ready .any ops (Array.replicate 4 false):=(fb U).2 ⟨rfl,fun p D=>by rw[r0]at D;cases D⟩
  rw[hr]at this;cases this
 ·have N:=nH hi
  obtain⟨I,W⟩:=(fb N).1 hi
  have:i=0∨i=1∨i=2∨i=3:=yv
  rcases this with rfl|rfl|rfl|rfl
  ·refine mq hE hO (o:=ops[0]) (Array.getElem?_eq_getElem U) (dh 0 U o0 rfl) d1 base f0 ?_
   intro H w' r M' x1 x2 x3 x4
   have x3':Tr st w β M t0 w' r M':=d2.trans x3 sz0
   show wpAny P .any ops Q 3 #[true,false,false,false] H w'
   refine⟨fun hr=> ?_,fun i hi=> ?_⟩
   ·have:1∈Region.ready .any ops #[true,false,false,false]:=(fb F).2 ⟨rfl,fun p D=>by
     rw[r1]at D
     have:=b1 p D
     have:p=0:=yv
     subst this;rfl⟩
    rw[hr]at this;cases this
   ·have N:=nH hi
    obtain⟨I,W⟩:=(fb N).1 hi
    have:i=0∨i=1∨i=2∨i=3:=yv
    rcases this with rfl|rfl|rfl|rfl
    ·cases I
    ·refine mq hE hO (o:=ops[1]) (Array.getElem?_eq_getElem F) (dh 1 F o1 rfl) x1 x2 f1 ?_
     intro a2 w2 VJ M2 z1 z2 z3 Z
     have z3':=x3'.trans z3 x4
     show wpAny P .any ops Q 2 #[true,true,false,false] a2 w2
     refine⟨fun hr=> ?_,fun i hi=> ?_⟩
     ·have:2∈Region.ready .any ops #[true,true,false,false]:=(fb J).2 ⟨rfl,fun p D=>by
       rw[r2]at D
       have:=b2 p D
       have:p=0:=yv
       subst this;rfl⟩
      rw[hr]at this;cases this
     ·have N:=nH hi
      obtain⟨I,W⟩:=(fb N).1 hi
      have:i=0∨i=1∨i=2∨i=3:=yv
      rcases this with rfl|rfl|rfl|rfl
      ·cases I
      ·cases I
      ·refine mq hE hO (o:=ops[2]) (Array.getElem?_eq_getElem J) (dh 2 J o2 rfl) z1 z2 f2 ?_
       intro a3 w3 β3 M3 v1 v2 v3 v4
       exact X t2 t3 f3 q1 a3 w3 β3 M3 v1 v2 (z3'.trans v3 (Nat.le_trans x4 Z)) (Nat.le_trans x4 (Nat.le_trans Z v4))
      ·have:=W 2 (by rw[r3];exact c2);cases this
    ·refine mq hE hO (o:=ops[2]) (Array.getElem?_eq_getElem J) (dh 2 J o2 rfl) x1 x2 g1 ?_
     intro a2 w2 VJ M2 z1 z2 z3 Z
     have z3':=x3'.trans z3 x4
     show wpAny P .any ops Q 2 #[true,false,true,false] a2 w2
     refine⟨fun hr=> ?_,fun i hi=> ?_⟩
     ·have:1∈Region.ready .any ops #[true,false,true,false]:=(fb F).2 ⟨rfl,fun p D=>by
       rw[r1]at D
       have:=b1 p D
       have:p=0:=yv
       subst this;rfl⟩
      rw[hr]at this;cases this
     ·have N:=nH hi
      obtain⟨I,W⟩:=(fb N).1 hi
      have:i=0∨i=1∨i=2∨i=3:=yv
      rcases this with rfl|rfl|rfl|rfl
      ·cases I
      ·refine mq hE hO (o:=ops[1]) (Array.getElem?_eq_getElem F) (dh 1 F o1 rfl) z1 z2 g2 ?_
       intro a3 w3 β3 M3 v1 v2 v3 v4
       exact X u2 u3 g3 q2 a3 w3 β3 M3 v1 v2 (z3'.trans v3 (Nat.le_trans x4 Z)) (Nat.le_trans x4 (Nat.le_trans Z v4))
      ·cases I
      ·have:=W 1 (by rw[r3];exact c1);cases this
    ·have:=W 1 (by rw[r3];exact c1);cases this
  ·have:=W 0 (by rw[r1];exact a1);cases this
  ·have:=W 0 (by rw[r2];exact a2);cases this
  ·have:=W 1 (by rw[r3];exact c1);cases this
theorem nI(ks:List Nat)(f:Fr)(j:Nat):aa (uu ks f) j=if j∈ks then .any else aa f j:=by
 induction ks with
 |nil=>simp[uu]
 |cons k ks ih=>
  grind [uu,lr]
theorem DI(ks:List Nat)(l r:aD ah)(j:Nat):aD.get eH (Aq ks l r) j=if j∈ks then⟨max (aD.get eH l j).g (aD.get eH r j).g,.none⟩else aD.get eH l j:=by
 induction ks with
 |nil=>simp[Aq]
 |cons k ks ih=>
  grind [Aq,aD.get_set]
theorem qq(ks:List Nat)(s t:St)(sp:Sp)(k:Nat):(ny ks s t).get sp k=if sp= .L∧k∈ks then⟨max (s.get sp k).g (t.get sp k).g,.none⟩else s.get sp k:=by
 cases sp with
 |S=>rw[if_neg xv];rfl
 |L=>
  show aD.get eH (Aq ks s.lh t.lh) k=_
  rw[DI]
  by_cases h:k∈ks
  ·rw[if_pos h,if_pos ⟨rfl,h⟩];rfl
  ·rw[if_neg h,if_neg (by simp[h])];rfl
theorem xb(ks:List Nat)(s t:St)(sp:Sp)(k:Nat):s.gens sp k≤(ny ks s t).gens sp k:=by
 show(s.get sp k).g≤((ny ks s t).get sp k).g
 rw[qq]
 grind
theorem nJ{ks:List Nat}{s t:St}{sp:Sp}{k:Nat}(h:live ((ny ks s t).get sp k)):(ny ks s t).get sp k=s.get sp k∧live (s.get sp k):=by
 rw[qq]at h ⊢
 split at h
 ·exact h.elim
 ·grind
theorem oO{ks:List Nat}{s t:St}{sp:Sp}{k:Nat}(h:live ((ny ks s t).get sp k)):(ny ks s t).gens sp k=s.gens sp k:=by
 show((ny ks s t).get sp k).g=(s.get sp k).g
 rw[(nJ h).1]
theorem VO(ks:List Nat)(t:St){B:eS}{s:St}{w:World}{β:aO}{M:MSet}(h:ba B s w β M):ba B (ny ks s t) w β M:=by
 refine⟨fun sp k=> ?_,fun sp k H k' D F e=> ?_,h.mlt,fun k r=> ?_,fun k r=> ?_,h.os,h.tape,h.output,h.size,h.same,h.keep,h.msup⟩
 ·rw[qq]
  split
  ·unfold dL;trivial
  ·exact dL.mono (dA.refl w M) (fun _ _ _ _=>rfl) (xb ks s t) (Nat.le_refl _) (fun _=>rfl) (fun _ _ h=>h) (h.obj sp k)
 ·rw[oO D,oO F]at e;exact h.dist sp k H k' (nJ D).2 (nJ F).2 e
 ·rw[oO r];exact h.lblk k (nJ r).2
 ·rw[oO r];exact h.sblk k (nJ r).2
theorem VP(ks:List Nat)(t:St){s:St}{a:Act}{w:World}{β:aO}{M:MSet}(h:iN s a w β M n):iN (ny ks s t) a w β M n:=by
 refine⟨h.size,h.defers,fun i=> ?_⟩
 show aq β (ny ks s t).gens w M (aa (uu ks s.fr) i) _
 rw[nI]
 split
 ·simp only[aq]
 ·exact aq.mono (dA.refl w M) (fun _ _ _ _=>rfl) (xb ks s t) _ _ (h.slot i)
theorem VQ(ks:List Nat)(t:St){st s:St}{w w':World}{β aW:aO}{M M':MSet}(h:Tr st w β M s w' aW M'):Tr st w β M (ny ks s t) w' aW M':=⟨h.keep,h.beta,fun sp k=>Nat.le_trans (h.gens sp k) (xb ks s t sp k)⟩
theorem AW{ks:List Nat}{s t:St}(h:Ar ks s t)(sp:Sp)(k:Nat):(ny ks s t).get sp k=(ny ks t s).get sp k:=by
 obtain⟨h1,_,h4⟩:=h
 cases sp with
 |S=>show aI s.sh k=aI t.sh k;rw[h1]
 |L=>
  rw[qq,qq]
  by_cases hk:k∈ks
  ·grind
  ·rw[if_neg (by simp[hk]),if_neg (by simp[hk])]
   exact h4 k hk
theorem abO{ks:List Nat}{s t:St}(h:Ar ks s t)(k:Nat):aa (ny ks s t).fr k=aa (ny ks t s).fr k:=by
 show aa (uu ks s.fr) k=aa (uu ks t.fr) k
 rw[nI,nI]
 split
 ·rfl
 ·rename_i hk;exact h.2.1 k hk
theorem ta{ks:List Nat}{F H:Option (Out×St)}{o:Out}{s:St}(h:Nm ks F H=some (o,s)): ∃r D,F=some (o,r)∧H=some (o,D)∧Ar ks r D∧s=ny ks r D:=by
 unfold Nm at h
 grind
theorem Ir(a:Code)(D r:ak):Nn P hs a D r= .seq D r∨ ∃id ops F H I J,a= .region id ops true∧dz P hs ops ops.toList=some [F,H,I,J]∧ET (ops.toList.map cq)=true∧Nn P hs a D r= .fork [F,H,I,J] [F,I,H,J] r:=by
 unfold Nn
 grind
theorem akm(hE:px P E)(hO:uP P E call)(hm:P.follows .mixedOrders=true)(fl:Nat): ∀(c:Code) (ac:ak),gr P hs c=some ac→
  ∀{B:eS} {st W:St} {a:Act} {w:World} {β:aO} {M:MSet} {o:Out},ba B st w β M→iN st a w β M n→fP E call fl n ac st=some (o,W)→ ∀{Q:Exit→Act→World→Prop},
  (∀J w' N M',ba B W w' N M'→iN W J w' N M' n→Tr st w β M W w' N M'→w.heap.size≤w'.heap.size→Q (akj o) J w')→c.wp P Q a w:=by
 intro c
 induction c with
 |skip=>
  intro ac hc B st W a w β M o h F r Q D
  simp[gr]at hc;subst hc
  simp[fP]at r;obtain⟨rfl,rfl⟩:=r
  exact wp_skip (D a w β M h F (Tr.refl _ _ _ _) (Nat.le_refl _))
 |region id ops draw=>
  intro ac hc B st W a w β M o h F r Q D
  cases draw with
  |false=>
   simp only[gr,Option.map_eq_some_iff]at hc
   obtain⟨as,h1,rfl⟩:=hc
   simp only[fP,Option.map_eq_some_iff]at r
   obtain⟨Z,h2,h3⟩:=r
   simp at h3;obtain⟨rfl,rfl⟩:=h3
   refine wp_region ?_
   rw[List.range_eq_range']
   exact VI hE hO ops.size 0 as yv (by simpa using h1) h F h2 D
  |true=>
   simp only[gr]at hc
   split at hc
   ·rename_i as h1
    split at hc
    ·rename_i hcc
     simp only[Bool.and_eq_true]at hcc
     simp at hc;subst hc
     simp only[fP,Option.map_eq_some_iff]at r
     obtain⟨Z,h2,h3⟩:=r
     simp at h3;obtain⟨rfl,rfl⟩:=h3
     exact VN hE hO hm h1 hcc.1 hcc.2 h F h2 D
    ·cases hc
   ·cases hc
 |seq x y X Y=>
  intro ac hc B st W a w β M o h F r Q D
  simp only[gr]at hc
  split at hc
  ·rename_i H ay h1 h2
   simp only[Option.some.injEq]at hc
   rcases Ir (P:=P) (hs:=hs) x H ay with hj|⟨id,ops,o0,o1,o2,o3,rfl,oi,AX,hj⟩
   rotate_left
   ·rw[hj]at hc
    subst hc
    simp only[fP]at r
    split at r
    ·rename_i s1 s2 e1 e2
     obtain⟨t1,t2,g1,g2,tJ,rfl⟩:=ta r
     refine wp_seq ?_
     refine abN hE hO hm oi AX h F e1 e2 ?_ ?_
     ·intro J w' N M' O U V I
      exact Y ay h2 O U g1 (fun a2 w2 VJ M2 z1 z2 z3 z4=>D a2 w2 VJ M2 (VO _ _ z1) (VP _ _ z2) (VQ _ _ (V.trans z3 I)) (Nat.le_trans I z4))
     ·intro J w' N M' O U V I
      exact Y ay h2 O U g2 (fun a2 w2 VJ M2 z1 z2 z3 z4=>D a2 w2 VJ M2 (ah2 (AW tJ) (VO _ _ z1)) (ah3 (AW tJ) (abO tJ) (VP _ _ z2)) (VK (AW tJ) (VQ _ _ (V.trans z3 I))) (Nat.le_trans I z4))
    ·cases r
   rw[hj]at hc
   subst hc
   simp only[fP]at r
   refine wp_seq ?_
   cases hx:fP E call fl n H st with
   |none=>simp[hx]at r
   |some p=>
    obtain⟨ox,Z⟩:=p
    cases ox with
    |nrm=>
     simp only[hx]at r
     refine X H h1 h F hx ?_
     intro J w' N M' O U V I
     exact Y ay h2 O U r (fun a2 w2 VJ M2 s1 s2 s3 s4=>D a2 w2 VJ M2 s1 s2 (V.trans s3 I) (Nat.le_trans I s4))
    |ext id=>
     simp[hx]at r;obtain⟨rfl,rfl⟩:=r
     exact X H h1 h F hx D
    |ret=>
     simp[hx]at r;obtain⟨rfl,rfl⟩:=r
     exact X H h1 h F hx D
  ·cases hc
 |cond c x y X Y=>
  intro ac hc B st W a w β M o h F r Q D
  simp only[gr]at hc
  split at hc
  ·rename_i c' H ay h0 h1 h2
   simp at hc;subst hc
   simp only[fP]at r
   have vc:=Vl F c c' h0
   split at r
   ·rename_i e
    rw[e]at vc
    exact wp_cond_true vc.bool (X H h1 h F r D)
   ·rename_i e
    rw[e]at vc
    exact wp_cond_false vc.bool (Y ay h2 h F r D)
   ·cases r
  ·cases hc
 |block id x ih=>
  intro ac hc B st W a w β M o h F r Q D
  simp only[gr,Option.map_eq_some_iff]at hc
  obtain⟨H,h1,rfl⟩:=hc
  simp only[fP]at r
  refine wp_block ?_
  cases hx:fP E call fl n H st with
  |none=>simp[hx]at r
  |some p=>
   obtain⟨ox,Z⟩:=p
   cases ox with
   |nrm=>simp[hx]at r;obtain⟨rfl,rfl⟩:=r;exact ih H h1 h F hx D
   |ret=>simp[hx]at r;obtain⟨rfl,rfl⟩:=r;exact ih H h1 h F hx D
   |ext Ql=>
    simp only[hx]at r
    by_cases hid:Ql=id
    ·simp only[hid,if_true,Option.some.injEq,Prod.mk.injEq]at r
     obtain⟨rfl,rfl⟩:=r
     refine ih H h1 h F hx ?_
     intro J w' N M' O U V I
     show Exit.inBlock id Q (.exit Ql) J w'
     simp only[Exit.inBlock,hid,if_true]
     exact D J w' N M' O U V I
    ·simp only[hid,if_false,Option.some.injEq,Prod.mk.injEq]at r
     obtain⟨rfl,rfl⟩:=r
     refine ih H h1 h F hx ?_
     intro J w' N M' O U V I
     show Exit.inBlock id Q (.exit Ql) J w'
     simp only[Exit.inBlock,hid,if_false]
     exact D J w' N M' O U V I
 |loop x ih=>
  intro ac hc B st W a w β M o h F r Q D
  simp only[gr,Option.map_eq_some_iff]at hc
  obtain⟨H,h1,rfl⟩:=hc
  simp only[fP]at r
  have key: ∀(m:Nat) (Z:St) (a1:Act) (w1:World) (GZ:aO) (M1:MSet),ba B Z w1 GZ M1→iN Z a1 w1 GZ M1 n→Tr st w β M Z w1 GZ M1→w.heap.size≤w1.heap.size→iter (fP E call fl n H) m Z=some (o,W)→Code.rounds P x Q m a1 w1:=by
   intro m
   induction m with
   |zero=>grind [iter]
   |succ m ihm=>
    intro Z a1 w1 GZ M1 g1 g2 g3 g4 hi
    rw[rounds_succ]
    simp only[iter]at hi
    cases hx:fP E call fl n H Z with
    |none=>simp[hx]at hi
    |some p=>
     obtain⟨ox,wX⟩:=p
     cases ox with
     |nrm=>
      simp only[hx]at hi
      refine ih H h1 g1 g2 hx ?_
      intro J w' N M' O U V I
      exact ihm wX J w' N M' O U (g3.trans V g4) (Nat.le_trans g4 I) hi
     |ext id=>
      simp[hx]at hi;obtain⟨rfl,rfl⟩:=hi
      refine ih H h1 g1 g2 hx ?_
      intro J w' N M' O U V I
      exact D J w' N M' O U (g3.trans V g4) (Nat.le_trans g4 I)
     |ret=>
      simp[hx]at hi;obtain⟨rfl,rfl⟩:=hi
      refine ih H h1 g1 g2 hx ?_
      intro J w' N M' O U V I
      exact D J w' N M' O U (g3.trans V g4) (Nat.le_trans g4 I)
  exact wp_loop_rounds fl (key fl st a w β M h F (Tr.refl _ _ _ _) (Nat.le_refl _) r)
 |exit id=>
  intro ac hc B st W a w β M o h F r Q D
  simp[gr]at hc;subst hc
  simp[fP]at r;obtain⟨rfl,rfl⟩:=r
  exact wp_exit (D a w β M h F (Tr.refl _ _ _ _) (Nat.le_refl _))
 |ret=>
  intro ac hc B st W a w β M o h F r Q D
  simp[gr]at hc;subst hc
  simp[fP]at r;obtain⟨rfl,rfl⟩:=r
  exact wp_ret (D a w β M h F (Tr.refl _ _ _ _) (Nat.le_refl _))
 |rangeFunc _ _ _ _=>grind [gr]
 |scope _=>grind [gr]
 |label _=>grind [gr]
 |goto _=>grind [gr]
 |refuse _=>grind [gr]
end
end Go.Ev
namespace Go.Ev
open Go
section
variable{P:Program}{E:Env}{n:Nat}
def E8(ts:Array Value)(r:ResultVar):Sem Value:=
 match r with
 | .tmp t=>pure (ts.getD t undef)
 | .cell D t=>do loadVar t (←asAddr (ts.getD D undef))
theorem Ln(D:Func)(ts:Array Value):results D ts=(do
  let r ←(List.toArray <$> D.results.toList.mapM (E8 ts))
  pure (if h:r.size=1 then r[0]else .tuple r)):=by
 unfold results
 rw[Array.mapM_eq_mapM_toList]
 congr 2
theorem tb{B:eS}{st:St}{a:Act}{w:World}{β:aO}{M:MSet}(h:ba B st w β M)(I:iN st a w β M n): ∀(rs:List ResultVar) (r:List sW) (H:List T),oE P rs=some r→iv st r=some H→
  ∃F:List Value,(rs.mapM (E8 a.tmps)).run P w=Result.ok F w∧av β st.gens w M H F
 | [],r,H,hc,hr=>by
   simp_all[oE,iv,av]
 | .tmp t::rs,r,H,hc,hr=>by
   simp only[oE,Option.map_eq_some_iff]at hc
   obtain⟨D,h1,rfl⟩:=hc
   simp only[iv,H2]at hr
   split at hr
   ·rename_i v J e1 e2
    simp at hr e1;subst hr;subst e1
    obtain⟨F,N,O⟩:=tb h I rs D J h1 e2
    refine⟨a.tmps.getD t undef::F, ?_, ?_⟩
    ·grind [E8,Sem.run_bind,Sem.run_pure,Result.andThen_ok]
    ·simp only[av];exact⟨_,_,rfl,I.slot t,O⟩
   ·cases hr
 | .cell U t::rs,r,H,hc,hr=>by
   simp only[oE]at hc
   split at hc
   ·rename_i sz Y D h1 h2 h3
    simp at hc;subst hc
    simp only[iv,H2]at hr
    split at hr
    ·rename_i v J e1 e2
     simp at hr;subst hr
     obtain⟨F,N,O⟩:=tb h I rs D J h3 e2
     obtain⟨V,cv,W,X,Z⟩:=H8 (P:=P) h h1 h2 (I.slot U) e1
     refine⟨cv::F, ?_, ?_⟩
     ·rw[List.mapM_cons]
      simp only[E8,Sem.run_bind,W,asAddr,Sem.run_pure,Result.andThen_ok,X,N]
     ·grind [av]
    ·cases hr
   ·cases hc
theorem Qz{β:aO}{G:Sp→Nat→Nat}{w:World}{M:MSet}{args:List T}{r:Array Value}(H:av β G w M args r.toList)(k:Nat)(t:Nat):aq β G w M (aa (kR args) t) ((r++Array.replicate k undef).getD t undef):=by
 have D:=av.length _ _ H
 by_cases I:t<args.length
 ·have J:args[t]? =some args[t]:=List.getElem?_eq_getElem I
  obtain⟨cv,N,V⟩:=H.get J
  have e1:aa (kR args) t=args[t]:=by
   rw[Dw]
   have: ∀(l:List T) (j:Nat) (F:j<l.length),aH aQ l j=l[j]:=by
    intro l
    induction l with
    |nil=>grind
    |cons x xs ih=>intro j F;cases j with|zero=>rfl|succ j=>exact ih j (by simpa using F)
   grind
  have O:r[t]? =some cv:=by simpa using N
  have U:t<r.size:=by simp at D;omega
  simp_all[Array.getD_eq_getD_getElem?,Array.getElem?_append_left]
 ·have e1:aa (kR args) t=aQ:=by
   rw[Dw]
   have: ∀(l:List T) (j:Nat),l.length≤j→aH aQ l j=aQ:=by
    intro l
    induction l with
    |nil=>intro j _;rfl
    |cons x xs ih=>intro j F;cases j with|zero=>simp at F|succ j=>exact ih j (by simpa using F)
   grind
  have e2:(r++Array.replicate k undef).getD t undef=undef:=by
   rw[Array.getD_eq_getD_getElem?,Array.getElem?_append_right (by simp at D;omega),Array.getElem?_replicate]
   split <;> rfl
  rw[e1,e2]
  simp[aq,aQ,undef,av]
def pack:List T→T
 | [v]=>v
 |vs=> .tup vs
theorem Lo{keep:Bool}{n:Nat}:fz keep (n+1) .nilsl= .ret (.nilsl,[]):=rfl
theorem uT{f:T→Q (T×List Up)}{h:Sp→Nat→ah}{nx:Nat}(F:f .nilsl= .ret (.nilsl,[])): ∀(ts:List T) {j:Nat} {q:List T×List Up},(bh f ts).run h nx=some q→ts[j]? =some .nilsl→q.1[j]? =some .nilsl
 | [],j,q,_,D=>by simp at D
 |t::ts,j,q,r,D=>by
  simp only[bh,Q.run_bind]at r
  cases h1:(f t).run h nx with
  |none=>simp[h1]at r
  |some p=>
   simp only[h1,Option.bind_some]at r
   cases h2:(bh f ts).run h nx with
   |none=>simp[h2]at r
   |some H=>
    simp only[h2,Option.bind_some,Q.run,Option.some.injEq]at r
    subst r
    cases j with
    |zero=>
     grind [Q.run]
    |succ j=>simpa using uT F ts h2 (by simpa using D)
theorem E9{f:T→Q (T×List Up)}{h:Sp→Nat→ah}{nx:Nat}: ∀(ts:List T) {j:Nat} {q:List T×List Up} {x:T},(bh f ts).run h nx=some q→ts[j]? =some x→ ∃p,(f x).run h nx=some p∧q.1[j]? =some p.1
 | [],j,q,x,_,D=>by simp at D
 |t::ts,j,q,x,r,D=>by
  simp only[bh,Q.run_bind]at r
  cases h1:(f t).run h nx with
  |none=>simp[h1]at r
  |some p=>
   simp only[h1,Option.bind_some]at r
   cases h2:(bh f ts).run h nx with
   |none=>simp[h2]at r
   |some F=>
    simp only[h2,Option.bind_some,Q.run,Option.some.injEq]at r
    subst r
    cases j with
    |zero=>grind
    |succ j=>simpa using E9 ts h2 (by simpa using D)
theorem Fa{n:Nat}{cs:List T}{h:Sp→Nat→ah}{nx:Nat}{p:T×List Up}(r:(fz false (n+1) (.agg cs)).run h nx=some p): ∃q,(bh (fz false n) cs).run h nx=some q∧p.1= .agg q.1:=by
 have r:((bh (fz false n) cs).bind fun q=>Q.ret (T.agg q.1,q.2)).run h nx=some p:=r
 rw[Q.run_bind]at r
 cases h1:(bh (fz false n) cs).run h nx with
 |none=>simp[h1]at r
 |some q=>
  grind [Q.run,Option.some.injEq]
theorem akp{r t y:T}{us:List Up}{h:Sp→Nat→ah}{nx j:Nat}(D:(fz false aJ (aL r j .nilsl)).run h nx=some (t,us))(hc:eM r j=some y):okC t j:=by
 cases r
 case tup vs=>
  by_cases F:j<100
  ·simp only[aL,F,if_true]at D
   have D:((bh (fz false 7) (vs.set j .nilsl)).bind fun q=>Q.ret (T.tup q.1,q.2)).run h nx=some (t,us):=D
   rw[Q.run_bind]at D
   cases h1:(bh (fz false 7) (vs.set j .nilsl)).run h nx with
   |none=>simp[h1]at D
   |some q=>
    simp only[h1,Option.bind_some,Q.run,Option.some.injEq,Prod.mk.injEq]at D
    obtain⟨rfl,rfl⟩:=D
    exact .inl F
  ·simp only[eM,F,if_false]at hc
   cases hi:vs[j/100-1]? with
   |none=>grind
   |some H=>
    rw[hi]at hc
    cases H <;> try (simp only at hc;cases hc;done)
    rename_i cs
    simp only[aL,F,if_false,hi]at D
    have D:((bh (fz false 7) (vs.set (j/100-1) (.agg (cs.set (j%100) .nilsl)))).bind fun q=>Q.ret (T.tup q.1,q.2)).run h nx=some (t,us):=D
    rw[Q.run_bind]at D
    cases h1:(bh (fz false 7) (vs.set (j/100-1) (.agg (cs.set (j%100) .nilsl)))).run h nx with
    |none=>simp[h1]at D
    |some q=>
     simp only[h1,Option.bind_some,Q.run,Option.some.injEq,Prod.mk.injEq]at D
     obtain⟨rfl,rfl⟩:=D
     obtain⟨p,I,J⟩:=E9 _ h1 (List.getElem?_set_self (List.getElem?_eq_some_iff.1 hi).1)
     obtain⟨N,_,e⟩:=Fa I
     exact .inr ⟨N.1,by rw[J,e]⟩
 case agg vs=>
  simp only[aL]at D
  obtain⟨q,_,e⟩:=Fa (n:=7) D
  rw[show t=_ from e]
  trivial
 case any=>simp[eM]at hc
 all_goals
  simp[aL,aJ,fz,Q.run]at D
  obtain⟨rfl,rfl⟩:=D
  trivial
theorem abP{r t:T}{us:List Up}{h:Sp→Nat→ah}{nx j:Nat}(D:(fz false aJ r).run h nx=some (t,us))(hc:eM r j=some .nilsl):eM t j=some .nilsl:=by
 cases r
 case tup vs=>
  have D:((bh (fz false 7) vs).bind fun q=>Q.ret (T.tup q.1,q.2)).run h nx=some (t,us):=D
  rw[Q.run_bind]at D
  cases h1:(bh (fz false 7) vs).run h nx with
  |none=>simp[h1]at D
  |some q=>
   simp only[h1,Option.bind_some,Q.run,Option.some.injEq,Prod.mk.injEq]at D
   obtain⟨rfl,rfl⟩:=D
   simp only[eM]at hc ⊢
   by_cases F:j<100
   ·rw[if_pos F]at hc ⊢
    exact uT Lo vs h1 hc
   ·rw[if_neg F]at hc ⊢
    cases hi:vs[j/100-1]? with
    |none=>grind
    |some H=>
     rw[hi]at hc
     cases H <;> try (simp only at hc;cases hc;done)
     rename_i cs
     obtain⟨p,I,J⟩:=E9 _ h1 hi
     obtain⟨N,e1,e2⟩:=Fa I
     rw[J,e2]
     exact uT Lo cs e1 hc
 case agg vs=>
  have D:((bh (fz false 7) vs).bind fun q=>Q.ret (T.agg q.1,q.2)).run h nx=some (t,us):=D
  rw[Q.run_bind]at D
  cases h1:(bh (fz false 7) vs).run h nx with
  |none=>simp[h1]at D
  |some q=>
   simp only[h1,Option.bind_some,Q.run,Option.some.injEq,Prod.mk.injEq]at D
   obtain⟨rfl,rfl⟩:=D
   exact uT Lo vs h1 hc
 all_goals
  simp only[eM,Option.some.injEq]at hc
  try (cases hc;done)
 simp[aJ,fz,Q.run]at D
 obtain⟨rfl,rfl⟩:=D
 rfl
theorem AY(hE:px P E)(hm:P.follows .mixedOrders=true){m:Nat}(hO:uP P E (cK E m)){f:Nat}{af:aj}{args:List T}{sh:List ah}{r:T}{Z:List ah}(yW:E.fn f=some af)(D:cK E (m+1) f args sh=some (r,Z))
  {w:World} {β:aO} {M:MSet} {cargs:Array Value} (O:ba ⟨w,M,eo sh β⟩ (bare .nil sh) w β M) (hV0:av β (bare .nil sh).gens w M args cargs.toList) {Q:Ending→World→Prop}
  (hQ: ∀J F w' V M' v,ba ⟨w,M,eo sh β⟩ J w' V M'→rm af.own af.eff F J=some (r,Z)→aq V J.gens w' M' (pack F) v→Tr (bare (kR args) sh) w β M J w' V M'→Q (.returned v) w'):Calls P f cargs w Q:=by
  obtain⟨hs,fn,hf,H⟩:=hE.1 f af yW
  simp only[cK,yW]at D
  split at D
  ·cases D
  ·rename_i hlen
   unfold Dr at H
   split at H
   ·cases H
   ·split at H
    ·cases H
    ·rename_i code avn
     split at H
     ·rename_i ac X h1 h2
      simp at H
      have hV:av β (bare (kR args) sh).gens w M args cargs.toList:=hV0
      have hcl:=av.length _ _ hV
      have hn:fn.ntmps=af.n:=by rw[←H]
      have avo:af.code=ac:=by rw[←H]
      have CA:af.res=X:=by rw[←H]
      rw[avo]at D
      cases I:fP E (cK E m) m af.n ac {fr:=kR args,lh:= .nil,sh}with
      |none=>simp[I]at D
      |some p=>
       obtain⟨o,J⟩:=p
       have Qp:o≠ .nrm→o≠ .ret→False:=by
        intro n1 n2
        cases o with
        |nrm=>exact n1 rfl
        |ret=>exact n2 rfl
        |ext id=>simp[I]at D
       have xc: ∃F,iv J af.res=some F∧rm af.own af.eff F J=some (r,Z):=by
        cases o with
        |nrm=>
         simp only[I]at D
         split at D
         ·rename_i F hv
          exact⟨F,hv,D⟩
         ·cases D
        |ret=>
         simp only[I]at D
         split at D
         ·rename_i F hv
          exact⟨F,hv,D⟩
         ·cases D
        |ext id=>exact(Qp xv xv).elim
       obtain⟨N,aBJ,xc⟩:=xc
       have hF:iN (bare (kR args) sh) {tmps:=cargs++Array.replicate (fn.ntmps-cargs.size) undef,defers:= []} w β M af.n:=by
        refine⟨by simp at hcl ⊢; omega,rfl,fun t=>Qz hV _ t⟩
       refine calls_of_wp hf avn ?_
       refine akm (n:=af.n) hE hO hm m code ac h1 (B:=⟨w,M,eo sh β⟩) (st:=bare (kR args) sh) (abI O (kR args)) hF I ?_
       intro a' w' V M' r1 r2 r3 r4
       have post:a'.defers= []∧ ∃v,(results fn a'.tmps).run P w'= .ok v w'∧Q (.returned v) w':=by
        refine⟨r2.defers, ?_⟩
        have Y:=aBJ
        rw[CA]at Y
        obtain⟨U,q1,W⟩:=tb (P:=P) r1 r2 fn.results.toList X N h2 Y
        have avp:(results fn a'.tmps).run P w'= .ok (if hh:U.toArray.size=1 then U.toArray[0]else .tuple U.toArray) w':=by
         rw[Ln]
         simp only[Sem.run_bind,Sem.run_map,q1,Result.andThen_ok,Sem.run_pure]
        have VR:aq V J.gens w' M' (pack N) (if hh:U.toArray.size=1 then U.toArray[0]else .tuple U.toArray):=by
         have SD:=av.length _ _ W
         cases N with
         |nil=>
          simp only[av]at W;subst W
          simp[pack,aq,av]
         |cons v F=>
          cases F with
          |nil=>
           simp only[av]at W
           obtain⟨u,us,rfl,k1,rfl⟩:=W
           simpa[pack]using k1
          |cons v2 F=>
           have:U.toArray.size≠1:=by simp at SD ⊢; omega
           rw[dif_neg this]
           simp only[pack,aq]
           exact⟨_,rfl,by simpa using W⟩
        exact⟨_,avp,hQ J N w' V M' _ r1 xc VR r3⟩
       cases o with
       |nrm=>exact post
       |ret=>exact post
       |ext id=>exact(Qp xv xv).elim
     ·cases H
theorem xZ(r:Bool)(D:List T)(st:St):answer r D st=match(fz r aJ (pack D)).run st.get st.sh.length with
 |some p=>some (p.1,(st.ups p.2).sh)
 |none=>none:=by
 cases D with
 |nil=>rfl
 |cons v D=>cases D <;> rfl
theorem Fb(j:Nat)(r:List T)(st:St):oD j r st=match eM (pack r) j with
 |some .nilsl=>answer false r st
 |some (.isl .L k g 0 len sz)=>
  (match(fz false aJ (aL (pack r) j .nilsl)).run st.get st.sh.length with
  |some p=>(match(st.ups p.2).get .L k with
   |⟨D,.cells cs F false⟩=>if D=g∧cs.length=len*sz∧len≠0∧(F=0∨mi (aL p.1 j .nilsl)=true)then some (aL p.1 j (.sl cs len false),(st.ups p.2).sh)else none
   |_=>none)
  |none=>none)
 |_=>none:=by
 cases r with
 |nil=>rfl
 |cons v r=>cases r <;> rfl
theorem DJ{B:eS}{D:St}{J:List T}{w':World}{H:aO}{M':MSet}{v:Value}{F:Bool}{r:T}{N:List ah}(O:ba B D w' H M')(I:answer F J D=some (r,N))(VR:aq H D.gens w' M' (pack J) v):
  ∃M2 us,ba B (D.ups us) w' H M2∧(D.ups us).gens=D.gens∧N=(D.ups us).sh∧oH F H D.gens w' M2 r v:=by
 rw[xZ]at I
 split at I
 ·rename_i p U
  obtain⟨V,us⟩:=p
  simp at I
  obtain⟨rfl,rfl⟩:=I
  obtain⟨M2,W,X,Z,Y,z5⟩:=xQ F D aJ _ _ D w' H M' _ V us _ (Fz.refl D) O VR U
  exact⟨M2,us,W,X.gens,rfl,Y⟩
 ·cases I
theorem Is(hE:px P E)(hm:P.follows .mixedOrders=true): ∀m,uP P E (cK E m)
 |0=>by
  intro f af args sh r aX yW hc
  simp[cK]at hc
 |m+1=>by
  have hO:=Is hE hm m
  intro f af args sh r aX yW aE
  refine⟨fun J=> ?_,fun j J=> ?_⟩
  ·intro w β M U H I
   refine AY hE hm hO yW aE H (iP.toV I) ?_
   intro F vs w' N M' v r1 D hv r3
   rw[J]at D
   obtain⟨M2,us,V,z2,rfl,O⟩:=DJ r1 D hv
   refine⟨v,N,M2,rfl,E2 V .nil,fun k g hg=>r3.beta .S k g hg,fun k=> ?_, ?_⟩
   ·have e1:(aI (F.ups us).sh k).g=(F.ups us).gens .S k:=rfl
    rw[e1,z2]
    exact r3.gens .S k
   ·have W: ∀k,(bare .nil (F.ups us).sh).gens .S k=F.gens .S k:=by
     intro k
     have e1:(bare .nil (F.ups us).sh).gens .S k=(F.ups us).gens .S k:=rfl
     rw[e1,z2]
    cases X:af.eff with
    |false=>rw[X]at O;exact O
    |true=>
     rw[X]at O
     intro b g p q
     exact O b g (fun k x hx=>p k x (by rw[W];exact hx)) (fun k=>by rw[←W];exact q k)
  ·have X:af.eff=false:=by
    grind [cK,rm]
   refine⟨X, ?_⟩
   intro w β M U H I
   refine AY hE hm hO yW aE H (iP.toV I) ?_
   intro F vs w' N M' v r1 D hv r3
   rw[J,X]at D
   have D:oD j vs F=some (r,aX):=by simpa[rm]using D
   rw[Fb]at D
   split at D
   ·rename_i hc
    obtain⟨M2,us,V,z2,rfl,O⟩:=DJ r1 D hv
    refine⟨v,N,M2,rfl,E2 V .nil,.inl ⟨?_,O⟩⟩
    grind [xZ,abP]
   ·rename_i k g len sz hc
    split at D
    ·rename_i p hz
     obtain⟨t',us⟩:=p
     have hn:aq N F.gens w' M' .nilsl jy:=by simp only[aq]
     obtain⟨⟨x,hx,Y⟩,wS⟩:=VA hv hc hn rfl
     obtain⟨M2,V,z2,z3,O,z5⟩:=xQ false F aJ _ _ F w' N M' _ t' us _ (Fz.refl F) r1 wS hz
     dsimp only at D
     split at D
     ·rename_i g' cs wm CC
      split at D
      ·rename_i hcs
       obtain⟨rfl,hcl,wi,Ib⟩:=hcs
       simp at D
       obtain⟨rfl,rfl⟩:=D
       simp only[aq]at Y
       obtain⟨aHL,cap,rfl,hlc,hcx⟩:=Y
       have ho:=V.obj .L k
       rw[CC]at ho
       unfold dL at ho
       obtain⟨c,el,fzz,o1,o2,o3,o4,o5,o6,o7,o8⟩:=ho
       dsimp only at o1 o2 o3 o4 o5 o6
       subst o4
       have Z:=fun(b:aO) (G:Sp→Nat→Nat)=>VB (cs:=cs) (len:=len) (ex:=false) (akp hz hc) (PRel.toV b G _ _ O) hx
       have Dx:live ((F.ups us).get .L k):=by rw[CC];trivial
       have CF:(F.ups us).gens .L k=g':=by show((F.ups us).get .L k).g=g';rw[CC]
       have avr:=V.lblk k Dx
       rw[CF]at avr
       refine⟨v,N,M2,rfl,E2 V .nil,.inr ⟨cs,len,(Z N F.gens).1,N .L k g',sz,cap,c,el,avr,o1,o2,o3,o5, ?_,o7,hcl,wi,hlc,by simpa using hcx,hx,fun b G=>(Z b G).2⟩⟩
       rcases Ib with rfl|Ib
       ·exact .inr fun i hi=>o6 i (Nat.zero_le _) hi
       ·exact .inl (by rw[Le _ _ _ _ rfl];exact Ib)
      ·cases D
     ·cases D
    ·cases D
   ·cases D
end
theorem pure_call{P:Program}{E:Env}(X:px P E)(O:P.follows .mixedOrders=true){m f:Nat}{af:aj}(Y:E.fn f=some af)(Z:af.eff=false)(J:af.own=none){args:List T}{r:T}{U:List ah}(hc:cK E m f args []=some (r,U))(w:World)(D:Array Value)
  (H:PList w (fun _ _=>False) args D.toList):Calls P f D w fun e w'=> ∃cv,e= .returned cv∧RowKit.Below w.heap.size w w'∧PRel w' (fun _ _=>False) r cv:=by
 have V:=(Is X O m f af args [] r U Y hc).1 J
 rw[Z]at V
 let β:aO:=fun _ _ _=>⟨0,0,0⟩
 have yB: ∀b,¬eo [] β b:=by rintro b ⟨k,F,_⟩;simp[aI,aH]at F;exact F.elim
 have I:ba ⟨w,fun _ _=>False,eo [] β⟩ (bare .nil []) w β (fun _ _=>False):=by
  have e: ∀sp k,(bare .nil []).get sp k=eH:=by intro sp k;cases sp <;> simp[bare,St.get,aI,aH,aD.get_nil]
  refine⟨fun sp k=> ?_,fun sp k dr k' W _ _=> ?_,fun _ _ h=>h.elim,fun k F=> ?_,fun k F=> ?_,rfl,rfl,rfl,Nat.le_refl _,fun _ _ _=>rfl,dA.refl _ _,fun _ _ _ _ O=>O⟩
  ·grind [dL,eH]
  ·rw[e]at W;exact W.elim
  ·rw[e]at F;exact F.elim
  ·rw[e]at F;exact F.elim
 refine(V w β _ D I H).mono ?_
 rintro e w' ⟨cv,aW,M',rfl,N,_,_,hr⟩
 refine⟨cv,rfl,⟨N.os,N.tape,N.output,N.size,fun b hb=>N.same b hb (yB b)⟩, ?_⟩
 exact PRel.mono (di (fun _ _ h=>h.elim)) _ _ hr
end Go.Ev
namespace Go.Ev
open Go
inductive Ds where
 |nil
 |nd (l:Ds) (k:Nat) (v:aj) (r:Ds)
def Ds.find:Ds→Nat→Option aj
 | .nil,_=>none
 | .nd l k v r,f=>bif Nat.beq f k then some v else bif Nat.ble f k then l.find f else r.find f
def Ds.All(p:Nat→aj→Prop):Ds→Prop
 | .nil=>True
 | .nd l k v r=>Ds.All p l∧p k v∧Ds.All p r
theorem Ds.all_find{p:Nat→aj→Prop}{f:Nat}{v:aj}: ∀{t:Ds},Ds.All p t→t.find f=some v→p f v
 | .nil,_,h=>by simp[Ds.find]at h
 | .nd l k u r,F,h=>by
   obtain⟨h1,h2,h3⟩:=F
   simp only[Ds.find]at h
   cases D:Nat.beq f k with
   |true=>
    rw[D,cond_true]at h
    have:f=k:=Nat.eq_of_beq_eq_true D
    subst this
    cases h;exact h2
   |false=>
    rw[D,cond_false]at h
    cases hc:Nat.ble f k with
    |true=>rw[hc,cond_true]at h;exact Ds.all_find h1 h
    |false=>rw[hc,cond_false]at h;exact Ds.all_find h3 h
def EM(P:Program)(f:Nat)(af:aj):Prop:= ∃hs r,P.funcs[f]? =some r∧Dr P hs af.eff r=some af
theorem codeOk{P:Program}{f:Nat}{af:aj}{hs:List Nat}{r:Func}(h:P.funcs[f]? =some r)(k:Dr P hs af.eff r=some af):EM P f af:=⟨hs,r,h,k⟩
def ExtOk(P:Program)(f:Nat)(g:List T→Option T):Prop:=
 (∃F,P.funcs[f]? =some F∧(F.name== "runtime.NumGoroutine")=false∧F.body.isSome=true)∧
   ∀args r,g args=some r→ ∀(w:World) (M:MSet) (D:Array Value),(∀b o,M b o→b<w.heap.size)→PList w M args D.toList→
    Calls P f D w fun e w'=> ∃cv,e= .returned cv∧RowKit.Below w.heap.size w w'∧PRel w' (fun b _=>b<w.heap.size) r cv
theorem asn{P:Program}{t:Ds}{x:Nat→Option (List T→Option T)}{y:Nat→Option (List T→Option (List T×Option Nat))}(h:Ds.All (EM P) t)(hx: ∀f g,x f=some g→ExtOk P f g)
  (F: ∀f g,y f=some g→(∃r,P.funcs[f]? =some r∧(r.name== "runtime.NumGoroutine")=false∧r.body.isSome=true)∧au9 P f g):px P ⟨t.find,x,y⟩:=
 ⟨fun f af H=>Ds.all_find h H,fun f g _ D=>hx f g D,fun f g _ _ D=>F f g D⟩
noncomputable abbrev NJ(E:Env)(m f:Nat)(args:List T)(sh:List ah):Option (T×List ah):=cK E m f args sh
theorem cS{E:Env}{m f:Nat}{args:List T}{sh:List ah}{r:Option (T×List ah)}(h:NJ E m f args sh=r):cK E m f args sh=r:=h
end Go.Ev
