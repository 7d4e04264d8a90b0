/- A tree evaluator over the model, proved against it (part D): where it answers, the call returns that answer. Conditions: none beyond its theorems' own. -/
import Derived.Test.YtnkgnjecmfkcfaaGreatEvC
set_option linter.unusedSimpArgs false
set_option linter.unusedVariables false
namespace Go.Ev
open Go
def bare(fr:Fr)(sh:List ah):St:={fr,lh:= .nil,sh}
theorem Ab(fr:Fr)(sh:List ah)(k:Nat):(bare fr sh).get .L k=eB:=by simp[bare,St.get,aI,aH,aE.get_nil]
theorem dF.shared{β aW:aN}{G G':Sp→Nat→Nat}{w:World}{M:MSet}{k:Nat}{e:ah}(BO: ∀n g,g≤G .S n→aW .S n g=β .S n g)(r: ∀n,G .S n≤G' .S n)(D:e.g≤G .S k)(h:dF β G w M .S k e):dF aW G' w M .S k e:=by
 unfold dF at h ⊢
 rw[BO k _ D]
 obtain⟨g,ob⟩:=e
 cases ob with
 |none=>trivial
 |cells cs H bx=>
  obtain⟨c,el,fz,h1,h2,h3,h4,h5,h6,F⟩:=h
  refine⟨c,el,fz,h1,h2,h3,h4, ?_,h6,F⟩
  cases bx
  ·exact h5
  ·exact ua.mono (dr.refl w M) BO r h5
 |map ks I fz=>exact h
theorem Ej{B:eH}{st:St}{w:World}{β:aN}{M:MSet}(h:aZ B st w β M)(fr:Fr):aZ B (bare fr st.sh) w β M:=by
 refine⟨fun sp k=> ?_,fun sp k H k' D F I=> ?_,h.mlt,fun k r=> ?_,fun k r=>h.sblk k r,h.os,h.tape,h.output,h.size,h.same,h.keep,h.msup⟩
 ·cases sp with
  |L=>grind [dF,eB,Ab]
  |S=>exact dF.shared (G:=st.gens) (β:=β) (fun _ _ _=>rfl) (fun _=>Nat.le_refl _) (Nat.le_refl _) (h.obj .S k)
 ·cases sp with
  |L=>rw[Ab]at D;exact D.elim
  |S=>
   cases H with
   |L=>rw[Ab]at F;exact F.elim
   |S=>exact h.dist .S k .S k' D F I
 ·rw[Ab]at r;exact r.elim
def dY(sh:List ah)(β:aN)(b:Nat):Prop:= ∃k,live (aI sh k)∧(β .S k (aI sh k).g).blk=b
theorem aa5{B:eH}{st:St}{w:World}{β:aN}{M:MSet}(h:aZ B st w β M)(fr:Fr):aZ ⟨w,M,dY st.sh β⟩ (bare fr st.sh) w β M:=by
 have D:=Ej h fr
 refine⟨D.obj,D.dist,h.mlt,fun k r=> ?_,fun k r=> .inl ⟨k,r,rfl⟩,rfl,rfl,rfl,Nat.le_refl _,fun _ _ _=>rfl,dr.refl w M,fun _ _ _ _ F=>F⟩
 rw[Ab]at r;exact r.elim
theorem UF{B:eH}{st:St}{w:World}{β:aN}{M:MSet}(h:aZ B st w β M)(fr:Fr):aZ ⟨w,M,fun _=>False⟩ (bare fr []) w β M:=by
 have e: ∀sp k,(bare fr []).get sp k=eB:=by intro sp k;cases sp <;> simp[bare,St.get,aI,aH,aE.get_nil]
 refine⟨fun sp k=> ?_,fun sp k H k' D _ _=> ?_,h.mlt,fun k r=> ?_,fun k r=> ?_,rfl,rfl,rfl,Nat.le_refl _,fun _ _ _=>rfl,dr.refl w M,fun _ _ _ _ F=>F⟩
 ·grind [dF,eB]
 ·rw[e]at D;exact D.elim
 ·rw[e]at r;exact r.elim
 ·rw[e]at r;exact r.elim
theorem HN{B:eH}{st:St}{w w':World}{β:aN}{M:MSet}(h:aZ B st w β M)(H:w'.os=w.os)(I:w'.tape=w.tape)(PH:w'.output=w.output)(r:w.heap.size≤w'.heap.size)(F: ∀b,b<w.heap.size→w'.heap[b]? =w.heap[b]?):
  aZ B st w' β M∧Tr st w β M st w' β M:=by
 have hk:dr w M w' M:=⟨fun b o v D _=>by rw[iG (w:=w) (F b (tZ D))];exact D,fun b O c D _=>by rw[F b (lZ D)];exact D,fun _ _ _ h=>h⟩
 refine⟨⟨fun sp k=> ?_,h.dist,fun b o J=>Nat.lt_of_lt_of_le (h.mlt b o J) r,h.lblk,h.sblk,H.trans h.os,I.trans h.tape,PH.trans h.output,Nat.le_trans h.size r,fun b h1 h2=>(F b (Nat.lt_of_lt_of_le h1 h.size)).trans (h.same b h1 h2),h.keep.trans hk h.size,h.msup⟩,hk,fun _ _ _ _=>rfl,fun _ _=>Nat.le_refl _⟩
 exact dF.mono hk (fun _ _ _ _=>rfl) (fun _ _=>Nat.le_refl _) (Nat.le_refl _) (fun N=>F _ (h.lt N)) (fun _ _ J=>J) (h.obj sp k)
theorem ajB{B:eH}{st:St}{w w':World}{β aW:aN}{M M':MSet}{aX:List ah}(h:aZ B st w β M)(r:aZ ⟨w,M,dY st.sh β⟩ (bare .nil aX) w' aW M')(BO: ∀n g,g≤st.gens .S n→aW .S n g=β .S n g)(hG: ∀n,st.gens .S n≤(aI aX n).g):
  aZ B {st with sh:=aX} w' (fun sp k g=>match sp with| .L=>β .L k g| .S=>aW .S k g) M'∧Tr st w β M {st with sh:=aX} w' (fun sp k g=>match sp with| .L=>β .L k g| .S=>aW .S k g) M':=by
 have V: ∀k,({st with sh:=aX}:St).get .L k=st.get .L k:=fun k=>rfl
 have W: ∀k,({st with sh:=aX}:St).get .S k=aI aX k:=fun k=>rfl
 have UA: ∀sp k g,g≤st.gens sp k→(fun(sp:Sp) k g=>match sp with| .L=>β .L k g| .S=>aW .S k g:aN) sp k g=β sp k g:=by
  grind
 have C1: ∀sp k,st.gens sp k≤({st with sh:=aX}:St).gens sp k:=by
  grind
 have notS: ∀k,live (st.get .L k)→ ¬dY st.sh β (β .L k (st.gens .L k)).blk:=by
  rintro k D ⟨k',N,H⟩
  have:=h.dist .S k' .L k N D H
  cases this.1
 have X: ∀b,dY st.sh β b→B.SB b∨B.w.heap.size≤b:=by
  rintro b ⟨k,D,rfl⟩
  exact h.sblk k D
 have O: ∀k,live (aI aX k)→B.SB (aW .S k (aI aX k).g).blk∨B.w.heap.size≤(aW .S k (aI aX k).g).blk:=by
  intro k D
  rcases r.sblk k D with e|e
  ·exact X _ e
  ·exact .inr (Nat.le_trans h.size e)
 refine⟨⟨fun sp k=> ?_,fun sp k U k' I J H=> ?_,r.mlt,fun k D=>h.lblk k D,fun k D=>O k D,r.os.trans h.os,r.tape.trans h.tape,r.output.trans h.output,Nat.le_trans h.size r.size,fun b h1 h2=> ?_,h.keep.trans r.keep h.size,fun b o h1 h2 h3=> ?_⟩,r.keep,UA,C1⟩
 ·cases sp with
  |L=>
   refine dF.mono r.keep UA C1 (Nat.le_refl _) (fun D=> ?_) (fun D o Y=> ?_) (h.obj .L k)
   ·exact r.same _ (h.lt D) (notS k D)
   ·exact r.msup _ o (h.lt D) (notS k D) Y
  |S=>exact dF.shared (G:=(bare .nil aX).gens) (β:=aW) (fun _ _ _=>rfl) (fun _=>Nat.le_refl _) (Nat.le_refl _) (r.obj .S k)
 ·cases sp with
  |L=>
   cases U with
   |L=>exact h.dist .L k .L k' I J H
   |S=>
    exfalso
    have F:(β .L k (st.gens .L k)).blk=(aW .S k' (aI aX k').g).blk:=H
    rcases r.sblk k' J with e|e
    ·exact notS k I (by rw[F];exact e)
    ·have:=h.lt (sp:= .L) (k:=k) I
     have Z:w.heap.size≤(aW .S k' (aI aX k').g).blk:=e
     omega
  |S=>
   cases U with
   |L=>
    exfalso
    have F:(aW .S k (aI aX k).g).blk=(β .L k' (st.gens .L k')).blk:=H
    rcases r.sblk k I with e|e
    ·exact notS k' J (by rw[←F];exact e)
    ·have:=h.lt (sp:= .L) (k:=k') J
     have Z:w.heap.size≤(aW .S k (aI aX k).g).blk:=e
     omega
   |S=>exact r.dist .S k .S k' I J H
 ·have R: ¬dY st.sh β b:=fun hs=>by
   grind
  exact(r.same b (Nat.lt_of_lt_of_le h1 h.size) R).trans (h.same b h1 h2)
 ·have R: ¬dY st.sh β b:=fun hs=>by
   grind
  exact r.msup b o (Nat.lt_of_lt_of_le h1 h.size) R (h.msup b o h1 h2 h3)
def HO(M:MSet)(S:Hy):MSet:=fun b x=>M b x∨(b=S.blk∧S.off≤x∧x<S.off+S.ext)
theorem ajC{B:eH}{st:St}{w w':World}{β:aN}{M:MSet}(h:aZ B st w β M)(V:w'.os=w.os)(W:w'.tape=w.tape)(PH:w'.output=w.output)(H:w.heap.size≤w'.heap.size)(D: ∀b,b<w.heap.size→w'.heap[b]? =w.heap[b]?)
  (k g:Nat) (hg:st.gens .L k<g) (S:Hy) (hS:w.heap.size≤S.blk) (hS2:S.blk<w'.heap.size) (ob:Ob)
  (ho:dF (gm β .L k g S) (st.up (.L,k,⟨g,ob⟩)).gens w' (HO M S) .L k ⟨g,ob⟩):
  aZ B (st.up (.L,k,⟨g,ob⟩)) w' (gm β .L k g S) (HO M S)∧Tr st w β M (st.up (.L,k,⟨g,ob⟩)) w' (gm β .L k g S) (HO M S):=by
 have hk:dr w M w' (HO M S):=⟨fun b o v I _=>by rw[iG (w:=w) (D b (tZ I))];exact I,fun b es c I _=>by rw[D b (lZ I)];exact I,fun b x J hm=>hm.resolve_right (fun e=>by have:=e.1;omega)⟩
 have J: ∀r k' X,X≤st.gens r k'→gm β .L k g S r k' X=β r k' X:=by
  grind [ub]
 have hG: ∀r k',st.gens r k'≤(st.up (.L,k,⟨g,ob⟩)).gens r k':=by
  intro r k'
  rw[dX]
  grind
 have U: ∀r k',(gm β .L k g S r k' ((st.up (.L,k,⟨g,ob⟩)).gens r k'))=if r= .L∧k'=k then S else β r k' (st.gens r k'):=by
  grind [dX,bK]
 refine⟨⟨fun r k'=> ?_,fun Y k1 Z k2 N O R=> ?_,fun b x hm=> ?_,fun k' F=> ?_,fun k' F=> ?_,V.trans h.os,W.trans h.tape,PH.trans h.output,Nat.le_trans h.size H,fun b J hn=> ?_,h.keep.trans hk h.size,fun b x h1 h2 h3=> .inl (h.msup b x h1 h2 h3)⟩,hk,J,hG⟩
 ·rw[eO]
  split
  ·grind
  ·exact dF.mono hk J hG (Nat.le_refl _) (fun F=>D _ (h.lt F)) (fun _ _ hm=> .inl hm) (h.obj r k')
 ·rw[U,U]at R
  rw[eO]at N O
  by_cases e1:Y= .L∧k1=k <;> by_cases e2:Z= .L∧k2=k
  ·grind
  ·rw[if_pos e1,if_neg e2]at R;rw[if_neg e2]at O
   have:=h.lt O;omega
  ·rw[if_neg e1,if_pos e2]at R;rw[if_neg e1]at N
   have:=h.lt N;omega
  ·rw[if_neg e1,if_neg e2]at R;rw[if_neg e1]at N;rw[if_neg e2]at O
   exact h.dist _ _ _ _ N O R
 ·rcases hm with hm|hm
  ·exact Nat.lt_of_lt_of_le (h.mlt b x hm) H
  ·grind
 ·rw[U];rw[eO]at F
  split
  ·exact Nat.le_trans h.size hS
  ·rename_i e;rw[if_neg e]at F;exact h.lblk k' F
 ·rw[U];rw[eO]at F
  rw[if_neg (by rintro⟨e,_⟩;cases e)]at F ⊢
  exact h.sblk k' F
 ·have:=h.size
  rw[D b zZ];exact h.same b J hn
theorem qQ{w w':World}{M M':MSet}: ∀{cs:List T} {r:List Value},cs.all iC=true→PList w M cs r→PList w' M' cs r
 | [],r,_,h=>by grind [PList]
 |t::ts,r,hs,h=>by
  simp only[List.all_cons,Bool.and_eq_true]at hs
  simp only[PList]at h ⊢
  obtain⟨u,us,rfl,h1,h2⟩:=h
  refine⟨u,us,rfl, ?_,qQ hs.2 h2⟩
  have D:=hs.1
  cases t <;> simp[iC]at D <;> simpa only[PRel]using h1
def MZ:Value→Nat→Option Value
 | .tuple a,j=>if j<100 then a[j]? else match a[j/100-1]? with
   |some (.agg b)=>b[j%100]?
   |_=>none
 | .agg a,j=>a[j]?
 |v,_=>some v
def jX:Value→Nat→Value→Value
 | .tuple a,j,x=>if j<100 then .tuple (a.setIfInBounds j x)else match a[j/100-1]? with
   |some (.agg b)=> .tuple (a.setIfInBounds (j/100-1) (.agg (b.setIfInBounds (j%100) x)))
   |_=> .tuple a
 | .agg a,j,x=> .agg (a.setIfInBounds j x)
 |_,_,x=>x
abbrev jk:Value:= .slice none 0 0
section
variable{β:aN}{G:Sp→Nat→Nat}{w:World}{M:MSet}
theorem au.set: ∀{ts:List T} {r:List Value} (j:Nat) {t:T} {v:Value},au β G w M ts r→aq β G w M t v→au β G w M (ts.set j t) (r.set j v)
 | [],r,j,t,v,h,_=>by grind [au]
 |t::ts,r,0,F,H,h,D=>by
  grind [au]
 |t::ts,r,j+1,F,H,h,D=>by
  simp only[au]at h;obtain⟨u,us,rfl,h1,h2⟩:=h
  simp only[List.set_cons_succ,au]
  exact⟨_,_,rfl,h1,au.set j h2 D⟩
theorem uw{cs:List T}{j:Nat}{t:T}(h:cs.all single=true)(r:single t=true):(cs.set j t).all single=true:=by
 grind
theorem Ac{cs:List T}{j:Nat}{t u:T}(h:(cs.set j u).all single=true)(r:single t=true):(cs.set j t).all single=true:=by
 have:=uw (j:=j) h r
 simp_all
theorem UG{r y t:T}{v u:Value}{j:Nat}(h:aq β G w M r v)(D:eE r j=some y)(F:aq β G w M t u)(hs:single t=true):
  (∃x,MZ v j=some x∧aq β G w M y x)∧aq β G w M (aL r j t) (jX v j u):=by
 cases r
 case tup vs=>
  simp only[aq]at h;obtain⟨a,rfl,H⟩:=h
  simp only[eE]at D
  by_cases Ad:j<100
  ·rw[if_pos Ad]at D
   obtain⟨x,h1,h2⟩:=H.get D
   refine⟨⟨x,by simpa[MZ,Ad]using h1,h2⟩, ?_⟩
   simp only[aL,jX,aq,Ad,if_true]
   exact⟨_,rfl,by simpa using au.set j H F⟩
  ·rw[if_neg Ad]at D
   cases hi:vs[j/100-1]? with
   |none=>grind
   |some R=>
    rw[hi]at D
    cases R <;> try (simp only at D;cases D;done)
    rename_i cs
    simp only at D
    obtain⟨x0,U,N⟩:=H.get hi
    simp only[aq]at N;obtain⟨b,rfl,O,V⟩:=N
    obtain⟨x,h1,h2⟩:=O.get D
    have I:a[j/100-1]? =some (.agg b):=by simpa using U
    refine⟨⟨x,by simpa[MZ,Ad,I]using h1,h2⟩, ?_⟩
    simp only[aL,jX,Ad,if_false,hi,I,aq]
    refine⟨_,rfl, ?_⟩
    rw[Array.toList_setIfInBounds]
    refine au.set _ H ?_
    simp only[aq]
    exact⟨_,rfl,by simpa using au.set (j%100) O F,uw V hs⟩
 case agg cs=>
  simp only[aq]at h;obtain⟨a,rfl,H,J⟩:=h
  simp only[eE]at D
  obtain⟨x,h1,h2⟩:=H.get D
  refine⟨⟨x,by simpa[MZ]using h1,h2⟩, ?_⟩
  simp only[aL,jX,aq]
  exact⟨_,rfl,by simpa using au.set j H F,uw J hs⟩
 case any=>simp[eE]at D
 all_goals
  simp only[eE,Option.some.injEq]at D;subst D
  refine⟨⟨v, ?_,h⟩, ?_⟩
  ·simp only[aq,PRel]at h
   first
    |(subst h;rfl)
    |(obtain⟨_,rfl,_⟩:=h;rfl)
    |(obtain⟨_,_,rfl,_⟩:=h;rfl)
    |(obtain⟨_,_,_,rfl,_⟩:=h;rfl)
    |(obtain⟨_,_,_,_,rfl,_⟩:=h;rfl)
    |(obtain⟨_,rfl⟩:=h;rfl)
  ·simp only[aq,PRel]at h
   first
    |(subst h;exact F)
    |(obtain⟨_,rfl,_⟩:=h;exact F)
    |(obtain⟨_,_,rfl,_⟩:=h;exact F)
    |(obtain⟨_,_,_,rfl,_⟩:=h;exact F)
    |(obtain⟨_,_,_,_,rfl,_⟩:=h;exact F)
    |(obtain⟨_,rfl⟩:=h;exact F)
theorem pX{a:Array Value}{j:Nat}{x y:Value}(h:a[j]? =some x):(a.toList.set j y).set j x=a.toList:=by
 rw[List.set_set]
 have r:a.toList[j]? =some x:=by simpa using h
 grind [List.getElem?_eq_some_iff.1,List.set_getElem_self]
theorem Ae(a:Array Value)(j:Nat)(x:Value): ∃b,jX (.tuple a) j x= .tuple b:=by
 simp only[jX]
 split
 ·grind
 ·split <;> exact⟨_,rfl⟩
theorem Af{v:Value}{j:Nat}(h: ∀a,jX v j jk≠ .tuple a)(r: ∀a,jX v j jk≠ .agg a):jX v j jk=jk∧MZ v j=some v:=by
 cases v
 case tuple a=>obtain⟨b,D⟩:=Ae a j jk;exact absurd D (h _)
 all_goals first|exact⟨rfl,rfl⟩|exact absurd rfl (r _)
theorem aa7{r t:T}{cv x:Value}{j:Nat}(h:aq β G w M (aL r j .nilsl) (jX cv j jk))(hx:MZ cv j=some x)(I:aq β G w M t x)(hs:single t=true):aq β G w M (aL r j t) cv:=by
 cases r
 case tup vs=>
  by_cases Ad:j<100
  ·simp only[aL,Ad,if_true,aq]at h ⊢
   obtain⟨a,D,F⟩:=h
   cases cv <;> simp[jX,Ad]at D
   rename_i a0
   subst D
   simp only[MZ,Ad,if_true]at hx
   refine⟨a0,rfl, ?_⟩
   have:=au.set j F I
   grind [List.set_set,Array.toList_setIfInBounds,pX]
  ·have N: ∃a0 b,cv= .tuple a0∧a0[j/100-1]? =some (.agg b)∧b[j%100]? =some x:=by
    cases cv
    case tuple a0=>
     grind [MZ,hi]
    all_goals
     exfalso
     simp only[aL,Ad,if_false]at h
     split at h <;> (simp only[jX,aq]at h;obtain⟨_,h,_⟩:=h;cases h)
   obtain⟨a0,b,rfl,J,U⟩:=N
   simp only[jX,Ad,if_false,J]at h
   simp only[aL,Ad,if_false]at h ⊢
   split at h
   ·rename_i cs hi
    simp only[aq]at h ⊢
    obtain⟨a,D,F⟩:=h
    cases D
    refine⟨a0,rfl, ?_⟩
    have V:j/100-1<vs.length:=(List.getElem?_eq_some_iff.1 hi).1
    have H:aq β G w M (.agg (cs.set (j%100) .nilsl)) (.agg (b.setIfInBounds (j%100) jk)):=by
     obtain⟨x1,e1,e2⟩:=F.get (List.getElem?_set_self V)
     rw[Array.toList_setIfInBounds,List.getElem?_set_self (by have:=(Array.getElem?_eq_some_iff.1 J).1;simpa using this)]at e1
     cases e1;exact e2
    have O:aq β G w M (.agg (cs.set (j%100) t)) (.agg b):=by
     simp only[aq]at H ⊢
     obtain⟨Z,W,J6,X⟩:=H
     cases W
     refine⟨b,rfl, ?_,Ac X hs⟩
     have:=au.set (j%100) J6 I
     rw[List.set_set,Array.toList_setIfInBounds,pX U]at this
     exact this
    have:=au.set (j/100-1) F O
    rw[List.set_set,Array.toList_setIfInBounds,pX J]at this
    exact this
   ·simp only[aq]at h ⊢
    obtain⟨a,D,F⟩:=h
    cases D
    refine⟨a0,rfl, ?_⟩
    have:=au.set (j/100-1) (t:= .any) (v:= .agg b) F (by simp only[aq])
    rw[List.set_set,Array.toList_setIfInBounds,pX J]at this
    exact this
 case agg cs=>
  simp only[aL,aq]at h ⊢
  obtain⟨a,D,F,R⟩:=h
  cases cv
  case tuple a'=>obtain⟨b,Y⟩:=Ae a' j jk;rw[Y]at D;cases D
  all_goals simp[jX]at D
  rename_i a0
  subst D
  simp only[MZ]at hx
  refine⟨a0,rfl, ?_,Ac R hs⟩
  have:=au.set j F I
  grind [List.set_set,Array.toList_setIfInBounds,pX]
 case any=>simp only[aL,aq]
 all_goals
  simp only[aL,aq]at h ⊢
  obtain⟨h1,h2⟩:=Af (v:=cv) (j:=j) (fun a e=>by rw[e]at h;cases h) (fun a e=>by rw[e]at h;cases h)
  rw[h2]at hx
  cases hx
  exact I
def okC:T→Nat→Prop
 | .any,_=>False
 | .tup r,j=>j<100∨ ∃cs,r[j/100-1]? =some (.agg cs)
 |_,_=>True
theorem UH{p:T}{v x:Value}{j:Nat}{cs:List T}{len:Nat}{ex:Bool}(D:okC p j)(h:aq β G w M p (jX v j jk))(hx:MZ v j=some x):
  eE (aL p j (.sl cs len ex)) j=some (.sl cs len ex)∧aq β G w M (aL (aL p j (.sl cs len ex)) j .nilsl) (jX v j jk):=by
 have J:aq β G w M .nilsl jk:=by simp only[aq]
 cases p
 case tup vs=>
  simp only[aq]at h
  obtain⟨a,r,F⟩:=h
  by_cases Ad:j<100
  ·cases v <;> simp[jX,Ad]at r
   rename_i a0
   subst r
   simp only[MZ,Ad,if_true]at hx
   have N:=au.length _ _ F
   simp at N
   obtain⟨V,_⟩:=Array.getElem?_eq_some_iff.1 hx
   refine⟨by simp only[aL,eE,Ad,if_true];rw[List.getElem?_set_self zZ], ?_⟩
   simp only[aL,jX,aq,List.set_set,Ad,if_true]
   refine⟨_,rfl, ?_⟩
   have:=au.set j F J
   rw[Array.toList_setIfInBounds,List.set_set]at this
   rw[Array.toList_setIfInBounds];exact this
  ·have D:j<100∨ ∃cs,vs[j/100-1]? =some (.agg cs):=D
   obtain⟨H,hi⟩:=D.resolve_left Ad
   cases v
   case tuple a0=>
    simp only[MZ,Ad,if_false]at hx
    cases hk:a0[j/100-1]? with
    |none=>grind
    |some W=>
     rw[hk]at hx
     cases W <;> try (simp only at hx;cases hx;done)
     rename_i b
     simp only at hx
     simp only[jX,Ad,if_false,hk]at r ⊢
     cases r
     have U:j/100-1<vs.length:=(List.getElem?_eq_some_iff.1 hi).1
     have I:aq β G w M (.agg H) (.agg (b.setIfInBounds (j%100) jk)):=by
      obtain⟨x1,e1,e2⟩:=F.get hi
      rw[Array.toList_setIfInBounds,List.getElem?_set_self (by have:=(Array.getElem?_eq_some_iff.1 hk).1;simpa using this)]at e1
      cases e1;exact e2
     simp only[aq]at I
     obtain⟨b1,X,J6,Y⟩:=I
     cases X
     have O:=au.length _ _ J6
     simp at O
     obtain⟨Z,_⟩:=Array.getElem?_eq_some_iff.1 hx
     refine⟨?_, ?_⟩
     ·simp only[aL,eE,Ad,if_false,hi]
      rw[List.getElem?_set_self U]
      simp only
      rw[List.getElem?_set_self zZ]
     ·simp only[aL,Ad,if_false,hi]
      rw[List.getElem?_set_self U]
      simp only[List.set_set,aq]
      refine⟨_,rfl, ?_⟩
      have h3:aq β G w M (.agg (H.set (j%100) .nilsl)) (.agg (b.setIfInBounds (j%100) jk)):=by
       simp only[aq]
       refine⟨_,rfl, ?_,uw Y rfl⟩
       have:=au.set (j%100) J6 J
       rw[Array.toList_setIfInBounds,List.set_set]at this
       rw[Array.toList_setIfInBounds];exact this
      have:=au.set (j/100-1) F h3
      rw[Array.toList_setIfInBounds,List.set_set]at this
      rw[Array.toList_setIfInBounds];exact this
   all_goals (simp only[jX]at r;cases r)
 case agg vs=>
  simp only[aq]at h
  obtain⟨a,r,F,R⟩:=h
  cases v
  case tuple a'=>obtain⟨b,hb⟩:=Ae a' j jk;rw[hb]at r;cases r
  all_goals simp[jX]at r
  rename_i a0
  subst r
  simp only[MZ]at hx
  have N:=au.length _ _ F
  simp at N
  obtain⟨V,_⟩:=Array.getElem?_eq_some_iff.1 hx
  refine⟨by simp only[aL,eE];rw[List.getElem?_set_self zZ], ?_⟩
  simp only[aL,jX,aq,List.set_set]
  refine⟨_,rfl, ?_,uw R rfl⟩
  have:=au.set j F J
  rw[Array.toList_setIfInBounds,List.set_set]at this
  rw[Array.toList_setIfInBounds];exact this
 case any=>exact D.elim
 all_goals
  refine⟨rfl, ?_⟩
  simp only[aL]
  have hp:jX v j jk=jk:=by
   grind [aq,PRel,Af]
  rw[hp];exact J
end
def UI(P:Program)(f:Nat)(F:Bool)(args:List T)(sh:List ah)(r:T)(H:List ah):Prop:=
 ∀(w:World) (β:aN) (M:MSet) (D:Array Value),aZ ⟨w,M,dY sh β⟩ (bare .nil sh) w β M→iH F β (bare .nil sh).gens w M args D.toList→
  Calls P f D w fun e w'=> ∃cv I M',e= .returned cv∧aZ ⟨w,M,dY sh β⟩ (bare .nil H) w' I M'∧(∀n g,g≤(aI sh n).g→I .S n g=β .S n g)∧(∀n,(aI sh n).g≤(aI H n).g)∧ow F I (bare .nil H).gens w' M' r cv
theorem KI(p x y:T)(j:Nat)(h:single x=true):aL (aL p j x) j y=aL p j y:=by
 cases p
 case tup vs=>
  by_cases r:j<100
  ·grind [aL,List.set_set]
  grind [aL,List.set_eq_of_length_le,hi,List.getElem?_set_self,List.set_set,List.getElem?_eq_none_iff.1,List.getElem?_eq_some_iff.1]
 case agg vs=>simp only[aL,List.set_set]
 all_goals first|(simp only[aL];done)|(simp only[aL];cases x <;> first|rfl|cases h)
def au7(w w':World)(M:MSet)(r:T)(j:Nat)(cs:List T)(len:Nat)(cv:Value):Prop:=
 ∃(S:Hy) (sz D:Nat) (c:Array Value) (el:TypeId),w.heap.size≤S.blk∧w'.heap[S.blk]? =some (.cells c el (0,0))∧S.off+S.ext≤c.size∧cs.length≤S.ext∧PList w' M cs ((c.toList.drop S.off).take cs.length)∧(lY (aL r j .nilsl)=true∨ ∀i,i<S.ext→M S.blk (S.off+i))∧
  cs.all single=true∧cs.length=len*sz∧len≠0∧len≤D∧D*sz≤S.ext∧MZ cv j=some (.slice (some ⟨S.blk,S.off,none⟩) len D)∧ ∀β G,aq β G w' M (aL r j .nilsl) (jX cv j jk)
def PI(P:Program)(f:Nat)(args:List T)(sh:List ah)(j:Nat)(r:T)(F:List ah):Prop:=
 ∀(w:World) (β:aN) (M:MSet) (D:Array Value),aZ ⟨w,M,dY sh β⟩ (bare .nil sh) w β M→iH false β (bare .nil sh).gens w M args D.toList→
  Calls P f D w fun e w'=> ∃cv H M',e= .returned cv∧aZ ⟨w,M,dY sh β⟩ (bare .nil F) w' H M'∧
   ((eE r j=some .nilsl∧PRel w' M' r cv)∨ ∃cs len,eE r j=some (.sl cs len false)∧au7 w w' M' r j cs len cv)
def M0(r off D:Nat):Option Nat→Value
 |none=> .tuple #[]
 |some n=> .slice (some ⟨r,off,none⟩) n D
def au8(P:Program)(f:Nat)(h:List T→Option (List T×Option Nat)):Prop:=
 (∀r,h []=some ([],r)→r.getD 0=0→ ∀w:World,Calls P f #[jk] w fun e w'=>e= .returned (match r with|none=> .tuple #[]|some _=>jk)∧RowKit.Below w.heap.size w w')∧
 ∀cs H r,h cs=some (H,r)→H.length=cs.length→ ∀(w:World) (M:MSet) (D off F:Nat) (c:Array Value) (el:TypeId) (I:List Value),w.heap[D]? =some (.cells c el (0,0))→off+cs.length≤c.size→cs.length≤F→(c.toList.drop off).take cs.length=I→PList w M cs I→
  Calls P f #[.slice (some ⟨D,off,none⟩) cs.length F] w fun e w'=> ∃us,e= .returned (M0 D off F r)∧PList w M H us∧RowKit.Below w.heap.size (setBlock w D (.cells (splice c.toList off us).toArray el)) w'
def pd(P:Program)(E:Env):Prop:=
 (∀f af,E.fn f=some af→ ∃hs F,P.funcs[f]? =some F∧CI P hs af.eff F=some af)∧
 (∀f g,E.fn f=none→E.ext f=some g→(∃F,P.funcs[f]? =some F∧(F.name== "runtime.NumGoroutine")=false∧F.body.isSome=true)∧
   ∀args r,g args=some r→ ∀(w:World) (M:MSet) (D:Array Value),(∀b o,M b o→b<w.heap.size)→PList w M args D.toList→
    Calls P f D w fun e w'=> ∃cv,e= .returned cv∧RowKit.Below w.heap.size w w'∧PRel w' (fun b _=>b<w.heap.size) r cv)∧
 (∀f h,E.fn f=none→E.ext f=none→E.wr f=some h→(∃F,P.funcs[f]? =some F∧(F.name== "runtime.NumGoroutine")=false∧F.body.isSome=true)∧
   au8 P f h)
def ux(P:Program)(E:Env)(call:jB):Prop:= ∀f af args sh r D,E.fn f=some af→call f args sh=some (r,D)→(af.own=none→UI P f af.eff args sh r D)∧(∀j,af.own=some j→af.eff=false∧PI P f args sh j r D)
theorem Ag{st bn:St}{a:Act}{w w':World}{β aW:aN}{M M':MSet}{n:Nat}{d:Option Nat}{v:T}{cv:Value}{fr:Fr}(r:iF st a w β M n)(H:Tr st w β M bn w' aW M')(D:gf st.fr n d v=some fr)(I:aq aW bn.gens w' M' v cv):
  iF {bn with fr} (a.put d cv) w' aW M' n:=by
 cases d with
 |none=>
  simp[gf]at D;subst D
  exact⟨r.size,r.defers,fun t=>H.val (r.slot t)⟩
 |some d=>
  simp only[gf]at D
  split at D
  ·rename_i J
   simp at D;subst D
   refine⟨by simp[Act.put,r.size],r.defers,fun t=> ?_⟩
   have e1:aa (cL st.fr d v) t=if t=d then v else aa st.fr t:=kY st.fr d v t
   have e2:(a.put (some d) cv).tmps.getD t undef=if t=d then cv else a.tmps.getD t undef:=by
    simp only[Act.put,Array.getD_eq_getD_getElem?,Array.getElem?_setIfInBounds]
    by_cases F:d=t
    ·subst F;rw[if_pos rfl,if_pos (by rw[r.size];exact J),if_pos rfl];rfl
    ·grind
   show aq aW bn.gens w' M' (aa (cL st.fr d v) t) _
   rw[e1,e2]
   split
   ·exact I
   ·exact H.val (r.slot t)
  ·cases D
end Go.Ev
namespace Go.Ev
open Go
theorem aa9{B:eH}{st:St}{w:World}{β:aN}{M:MSet}(h:aZ B st w β M)(fr:Fr):aZ B {st with fr} w β M:=
 ⟨h.obj,h.dist,h.mlt,h.lblk,h.sblk,h.os,h.tape,h.output,h.size,h.same,h.keep,h.msup⟩
theorem Tr.fr{st bn:St}{w w':World}{β aW:aN}{M M':MSet}(h:Tr st w β M bn w' aW M')(fr:Fr):Tr st w β M {bn with fr} w' aW M':=⟨h.keep,h.beta,h.gens⟩
theorem KJ{w w':World}{M M':MSet}{r:T}{cv:Value}(hs:scalar r=true)(h:PRel w M r cv):PRel w' M' r cv:=by
 cases r <;> simp[scalar]at hs
 case tup vs=>
  simp only[PRel]at h ⊢
  obtain⟨a,rfl,D⟩:=h
  refine⟨a,rfl, ?_⟩
  generalize a.toList=l at D
  induction vs generalizing l with
  |nil=>grind [PList]
  |cons t ts ih=>
   simp only[PList]at D ⊢
   obtain⟨u,us,rfl,h1,h2⟩:=D
   have F:=hs t zP
   grind [PRel]
 all_goals simpa only[PRel]using h
theorem sE{β aW:aN}{G G':Sp→Nat→Nat}{w w':World}{M M':MSet}: ∀{cs:List T} {r:List Value},cs.all iC=true→au β G w M cs r→au aW G' w' M' cs r
 | [],r,_,h=>by grind [au]
 |t::ts,r,hs,h=>by
  simp only[List.all_cons,Bool.and_eq_true]at hs
  simp only[au]at h ⊢
  obtain⟨u,us,rfl,h1,h2⟩:=h
  refine⟨u,us,rfl, ?_,sE hs.2 h2⟩
  have D:=hs.1
  cases t <;> simp[iC]at D <;> simpa only[aq]using h1
theorem PJ{w w':World}{M M':MSet}{r:T}{cv:Value}(hs:lY r=true)(h:PRel w M r cv):PRel w' M' r cv:=by
 cases r <;> simp[lY,iC]at hs
 case tup vs=>
  simp only[PRel]at h ⊢
  obtain⟨a,rfl,D⟩:=h
  refine⟨a,rfl, ?_⟩
  generalize a.toList=l at D
  induction vs generalizing l with
  |nil=>grind [PList]
  |cons t ts ih=>
   simp only[PList]at D ⊢
   obtain⟨u,us,rfl,h1,h2⟩:=D
   have H:=hs t zP
   refine⟨u,us,rfl, ?_,ih (fun x hx=>hs x (by simp[hx])) us h2⟩
   cases t <;> simp[iC]at H <;> try (simpa only[PRel]using h1;done)
   simp only[PRel]at h1 ⊢
   obtain⟨b,rfl,I,F⟩:=h1
   exact⟨b,rfl,qQ (List.all_eq_true.2 fun x hx=>H x hx) I,F⟩
 case agg vs=>
  simp only[PRel]at h ⊢
  obtain⟨a,rfl,D,F⟩:=h
  exact⟨a,rfl,qQ (List.all_eq_true.2 fun x hx=>hs x hx) D,F⟩
 all_goals simpa only[PRel]using h
theorem KK{β aW:aN}{G G':Sp→Nat→Nat}{w w':World}{M M':MSet}{r:T}{cv:Value}(hs:lY r=true)(h:aq β G w M r cv):aq aW G' w' M' r cv:=by
 cases r <;> simp[lY,iC]at hs
 case tup vs=>
  simp only[aq]at h ⊢
  obtain⟨a,rfl,D⟩:=h
  refine⟨a,rfl, ?_⟩
  generalize a.toList=l at D
  induction vs generalizing l with
  |nil=>grind [au]
  |cons t ts ih=>
   simp only[au]at D ⊢
   obtain⟨u,us,rfl,h1,h2⟩:=D
   have H:=hs t zP
   refine⟨u,us,rfl, ?_,ih (fun x hx=>hs x (by simp[hx])) us h2⟩
   cases t <;> simp[iC]at H <;> try (simpa only[aq]using h1;done)
   simp only[aq]at h1 ⊢
   obtain⟨b,rfl,I,F⟩:=h1
   exact⟨b,rfl,sE (List.all_eq_true.2 fun x hx=>H x hx) I,F⟩
 case agg vs=>
  simp only[aq]at h ⊢
  obtain⟨a,rfl,D,F⟩:=h
  exact⟨a,rfl,sE (List.all_eq_true.2 fun x hx=>hs x hx) D,F⟩
 all_goals simpa only[aq]using h
section
variable{P:Program}{E:Env}{call:jB}{B:eH}{st:St}{a:Act}{w:World}{β:aN}{M:MSet}{o:Oper}
theorem oD{f:Nat}{D:Func}(H:P.funcs[f]? =some D)(I:(D.name== "runtime.NumGoroutine")=false)(F:D.body.isSome=true)(r:Array Value)(w:World):(callFunc f r).run P w= .ok (.enter f r) w:=by
 have h1: ¬D.name= "runtime.NumGoroutine" :=by simpa using I
 have h2: ¬D.body=none:=by intro e;rw[e]at F;simp at F
 simp[callFunc,H,h1,h2]
theorem PK(I:jE β st.gens w M st.rho a.eval){c:Call}(N:o.op= .call c){sh:Nat}{J9:lX}(hc:nh P sh c=some J9){f:Nat}{r:List T}(F:bw st.rho J9=some (some (f,r))):
  ∃D:Array Value,(execOp a.eval o).run P w=(callFunc f D).run P w∧au β st.gens w M r D.toList:=by
 unfold nh at hc
 split at hc
 ·rename_i O H
  simp only[Option.map_eq_some_iff]at hc
  obtain⟨as,h1,rfl⟩:=hc
  simp[bw]at F
  obtain⟨rfl,rfl⟩:=F
  refine⟨c.args.map a.eval, ?_,by simpa using qN I h1⟩
  simp[execOp,N,resolve,H,Deferred.ofValue,Act.eval,invoke]
 ·rename_i x R H
  split at hc
  ·rename_i y as h1 h2
   simp at hc;subst hc
   simp only[bw,Option.some.injEq]at F
   split at F
   ·rename_i O Y Z e
    simp at F
    obtain⟨rfl,rfl⟩:=F
    have J:=I x y h1
    rw[e]at J
    simp only[aq]at J
    obtain⟨U,V,e1,W,X⟩:=J
    refine⟨U++c.args.map a.eval++V, ?_, ?_⟩
    ·simp[execOp,N,resolve,H,e1,Deferred.ofValue,invoke]
    ·have:=au.append (au.append W (qN I h2)) X
     simpa using this
   ·simp at F
  ·cases hc
 all_goals
  exfalso
  revert F
  try (simp only[Option.map_eq_some_iff]at hc;obtain⟨as,h1,rfl⟩:=hc;simp[bw];done)
  try (cases hc;done)
 ·grind [bw]
 ·split at hc
  ·grind [bw]
  ·cases hc
theorem PL{sh:Nat}{op:Op}{J9:lX}{ρ:aP→T}{x:Option (Nat×List T)}(h:cF P sh op=some J9)(hc:bw ρ J9=some x): ∃c,op= .call c∧nh P sh c=some J9:=by
 cases op with
 |call c=>exact⟨c,rfl,h⟩
 |makeFunc D first F=>
  exfalso
  cases D <;> simp only[cF]at h <;> try (cases h;done)
  grind [bw]
 |makeMap t r=>
  exfalso
  cases r <;> simp only[cF]at h
  ·grind [bw]
  ·cases h
 |_=>
  grind [cF,Option.map_eq_some_iff,bw]
theorem au9(h:aZ B st w β M){f:Nat}{g:List T→Option (List T×Option Nat)}
  (hnil: ∀r,g []=some ([],r)→r.getD 0=0→ ∀w:World,Calls P f #[jk] w fun e w'=>e= .returned (match r with|none=> .tuple #[]|some _=>jk)∧RowKit.Below w.heap.size w w')
  (pY: ∀cs Z r,g cs=some (Z,r)→Z.length=cs.length→ ∀(w:World) (M:MSet) (U off J:Nat) (c:Array Value) (el:TypeId) (vs:List Value),w.heap[U]? =some (.cells c el (0,0))→off+cs.length≤c.size→cs.length≤J→(c.toList.drop off).take cs.length=vs→PList w M cs vs→
    Calls P f #[.slice (some ⟨U,off,none⟩) cs.length J] w fun e w'=> ∃us,e= .returned (M0 U off J r)∧PList w M Z us∧RowKit.Below w.heap.size (setBlock w U (.cells (splice c.toList off us).toArray el)) w')
  {N:List T} {H:Array Value} (hv:au β st.gens w M N H.toList) {r:T} {O:St} (F:Un g st N=some (r,O)):
  O.fr=st.fr∧Calls P f H w fun e w'=> ∃cv V M',e= .returned cv∧aZ B O w' V M'∧Tr st w β M O w' V M'∧w.heap.size≤w'.heap.size∧aq V O.gens w' M' r cv:=by
 unfold Un at F
 split at F
 ·have hc:H= #[jk]:=by
   grind [au,aq,Array.toList_inj.1]
  subst hc
  have fin: ∀W:Option Nat,g []=some ([],W)→W.getD 0=0→O=st→(∀V M' w',aq V st.gens w' M' r (match W with|none=> .tuple #[]|some _=>jk))→
    O.fr=st.fr∧Calls P f #[jk] w fun e w'=> ∃cv V M',e= .returned cv∧aZ B O w' V M'∧Tr st w β M O w' V M'∧w.heap.size≤w'.heap.size∧aq V O.gens w' M' r cv:=by
   rintro W hg h0 rfl hr
   refine⟨rfl,(hnil W hg h0 w).mono ?_⟩
   rintro e w' ⟨rfl,D⟩
   obtain⟨o1,o2⟩:=HN h D.os D.tape D.output D.size D.block
   exact⟨_,β,M,rfl,o1,o2,D.size,hr _ _ _⟩
  split at F
  ·grind [Option.some.injEq,Prod.mk.injEq,aq,au]
  ·rename_i hg
   simp only[Option.some.injEq,Prod.mk.injEq]at F
   obtain⟨rfl,rfl⟩:=F
   simp_all[aq,jk]
  ·cases F
 ·rename_i sp k g0 off len
  simp only[au,aq]at hv
  obtain⟨u,us,h1,⟨aH0,J,rfl,hlc,hce⟩,rfl⟩:=hv
  have hc:H= #[.slice (some ⟨(β sp k g0).blk,(β sp k g0).off+off,none⟩) len J]:=Array.toList_inj.1 h1
  subst hc
  generalize he:st.get sp k=e0 at F
  obtain⟨R,ob⟩:=e0
  cases ob with
  |none=>cases F
  |map _ _ _=>cases F
  |cells cs wm bx=>
  cases bx with
  |true=>cases F
  |false=>
  dsimp only at F
  split at F
  ·rename_i ava
   obtain⟨rfl,HH,ki⟩:=ava
   split at F
   ·rename_i Z W hg
    split at F
    ·rename_i hys
     obtain⟨BS,hy2,hy3⟩:=hys
     simp only[Option.some.injEq,Prod.mk.injEq]at F
     obtain⟨rfl,rfl⟩:=F
     have xW:=h.obj sp k
     rw[he]at xW
     unfold dF at xW
     obtain⟨c,el,fz,qP,h2,h3,h4,h5,h6,h7,h8⟩:=xW
     dsimp only at qP h2 h3 h4 h5 h6
     subst h4
     have I:((cs.drop off).take len).length=len:=by rw[List.length_take,List.length_drop];omega
     have hcl:c.toList.length=c.size:=zP
     have hpl:PList w M ((cs.drop off).take len) ((c.toList.drop ((β sp k R).off+off)).take len):=by
      have q:=PList.take len (PList.drop off (show PList w M cs ((c.toList.drop (β sp k R).off).take cs.length)from h5))
      rw[List.drop_take,List.take_take,List.drop_drop,Nat.min_eq_left zZ]at q
      exact q
     have aD:=pY _ Z W hg (by rw[I];exact BS) w M (β sp k R).blk ((β sp k R).off+off) J c el _ qP (by rw[I];omega) (by rw[I];exact hlc) (by rw[I]) hpl
     rw[I]at aD
     refine⟨ag5 _ _,aD.mono ?_⟩
     rintro e w' ⟨us,rfl,hpu,D⟩
     have hul:us.length=len:=by rw[←PList.length _ _ hpu];exact BS
     have X:=uo h he R (Nat.le_refl _) qP off us (splice cs off Z) HH zZ (by rw[cR];omega) (by rw[cR];exact h3) (oC h7 hy2) (by
      rw[cR]
      have UC:(splice (c.toList.drop (β sp k R).off) off us).take cs.length=splice ((c.toList.drop (β sp k R).off).take cs.length) off us:=by
       apply List.ext_getElem?
       intro j
       rw[List.getElem?_take,eF,eF,List.getElem?_take,List.length_take]
       by_cases hj:j<cs.length
       ·rw[if_pos hj,if_pos hj]
        by_cases hc:off≤j∧j<off+us.length∧j<(c.toList.drop (β sp k R).off).length
        ·rw[if_pos hc,if_pos zZ]
        ·rw[if_neg hc,if_neg zZ]
       ·rw[if_neg hj,if_neg hj,if_neg zZ]
      rw[UC]
      exact PList.splice h5 hpu)
     rw[nj]at X
     have Y:=dM w (β sp k R).blk (.cells (splice c.toList ((β sp k R).off+off) us).toArray el)
     obtain⟨o1,o2⟩:=HN X.1 D.os D.tape D.output D.size fun b hb=>D.block b (by rw[Y]at hb;exact hb)
     refine⟨_,β,M,rfl,o1,X.2.trans o2 (by rw[Y];exact Nat.le_refl _),by rw[←Y];exact D.size, ?_⟩
     cases W with
     |none=>simp[ai9,M0,aq,au]
     |some n=>
      simp only[ai9,M0,aq]
      refine⟨?_,J,rfl, ?_,hce⟩
      ·rw[dX,if_pos ⟨rfl,rfl⟩];exact Nat.le_refl _
      ·simp at hy3;omega
    ·cases F
   ·cases F
  ·cases F
 ·cases F
theorem PM(hE:pd P E)(hO:ux P E call)(h:aZ B st w β M){f:Nat}{O:List T}{F:Array Value}(hv:au β st.gens w M O F.toList){r:T}{V:St}{d:Nat}(D:br E call d st f O=some (r,V)):
  (callFunc f F).run P w= .ok (.enter f F) w∧V.fr=st.fr∧
  Calls P f F w fun e w'=> ∃cv I M',e= .returned cv∧aZ B V w' I M'∧Tr st w β M V w' I M'∧w.heap.size≤w'.heap.size∧aq I V.gens w' M' r cv:=by
 unfold br at D
 split at D
 ·rename_i af Z
  obtain⟨hs,fn,hf,wJ⟩:=hE.1 f af Z
  have hnb:(fn.name== "runtime.NumGoroutine")=false∧fn.body.isSome=true:=by
   grind [CI]
  refine⟨oD hf hnb.1 hnb.2 _ _, ?_⟩
  split at D
  ·rename_i q hq
   obtain⟨ts,us⟩:=q
   obtain⟨M1,q1,q2,q3,q4,q5,q6⟩:=jr (fun t=>xt af.eff st aJ t) O B st w β M _ ts us _ (Fz.refl st) h hv hq
   split at D
   ·rename_i oE
    simp only[Option.map_eq_some_iff]at D
    obtain⟨⟨R,aX⟩,aD,D⟩:=D
    simp at D
    obtain⟨rfl,rfl⟩:=D
    refine⟨Eg st us, ?_⟩
    have J:af.own=none:=by
     cases ho:af.own with
     |none=>rfl
     |some j=>rw[((hO f af ts (st.ups us).sh R aX Z aD).2 j ho).1]at oE;cases oE
    have Y:=(hO f af ts (st.ups us).sh R aX Z aD).1 J
    rw[oE]at q4 Y
    have hx:iH true β (bare .nil (st.ups us).sh).gens w M1 ts F.toList:=by
     intro I G' p1 p2
     refine q4 I G' (fun k g hg=>p1 k g ?_) (fun k=>Nat.le_trans (Nat.le_of_eq ?_) (p2 k))
     ·have:(bare .nil (st.ups us).sh).gens .S k=(st.ups us).gens .S k:=rfl
      rw[this,q2.gens];exact hg
     ·have:(bare .nil (st.ups us).sh).gens .S k=(st.ups us).gens .S k:=rfl
      rw[this,q2.gens]
    refine(Y w β M1 F (aa5 q1 .nil) hx).mono ?_
    rintro e w' ⟨cv,I,M',rfl,H,BO,hG,hr⟩
    obtain⟨b1,b2⟩:=ajB q1 H BO hG
    refine⟨cv,_,M',rfl,b1,(Tr.fz q2 q3).trans b2 (Nat.le_refl _),H.size, ?_⟩
    exact hr _ _ (fun _ _ _=>rfl) (fun _=>Nat.le_refl _)
   ·rename_i oE
    simp at oE
    split at D
    ·rename_i r0 aD
     obtain⟨R,aX⟩:=r0
     rw[oE]at q4
     have yc: ∀b,¬dY [] β b:=by rintro b ⟨k,hl,_⟩;simp[aI,aH]at hl;exact hl.elim
     have BW:aZ ⟨w,M1,dY [] β⟩ (bare .nil []) w β M1:=by
      have h0:=UF q1 .nil
      exact⟨h0.obj,h0.dist,h0.mlt,fun k hl=>h0.lblk k hl,fun k hl=>(h0.sblk k hl).imp (fun e=>e.elim) id,rfl,rfl,rfl,Nat.le_refl _,fun _ _ _=>rfl,dr.refl w M1,fun _ _ _ _ hm=>hm⟩
     have W: ∀(c:Bool),(c=true→ ∀{w1 M1 w2 M2 cv},PRel w1 M1 R cv→PRel w2 M2 R cv)→ ∀(w':World) (cv:Value) (I:aN) (M':MSet) (PN:St),PN=(if c=true then st else st.ups us)→aZ ⟨w,M1,dY [] β⟩ (bare .nil aX) w' I M'→PRel w' M' R cv→
       ∃X I M',Ending.returned cv= .returned X∧aZ B PN w' I M'∧Tr st w β M PN w' I M'∧w.heap.size≤w'.heap.size∧aq I PN.gens w' M' R X:=by
      intro c qR w' cv I M' PN uy H hr'
      have U:=fun b (hb:b<w.heap.size)=>H.same b hb (yc b)
      by_cases eY:c=true
      ·rw[if_pos eY]at uy;subst uy
       obtain⟨o1,o2⟩:=HN h H.os H.tape H.output H.size U
       exact⟨cv,β,M,rfl,o1,o2,H.size,PRel.toV _ _ _ _ (qR eY hr')⟩
      ·rw[if_neg eY]at uy;subst uy
       obtain⟨o1,o2⟩:=HN q1 H.os H.tape H.output H.size U
       refine⟨cv,β,M1,rfl,o1,(Tr.fz q2 q3).trans o2 (Nat.le_refl _),H.size,PRel.toV _ _ _ _ (PRel.mono (de ?_) _ _ hr')⟩
       intro b x hm
       have hb:=q1.mlt b x hm
       exact H.msup b x hb (yc b) hm
     cases J:af.own with
     |none=>
      simp only[J]at D
      simp at D
      obtain⟨rfl,uy⟩:=D
      have Y:=(hO f af ts [] R aX Z aD).1 J
      rw[oE]at Y
      have ajG:V.fr=st.fr:=by rw[←uy];split;rfl;exact Eg st us
      refine⟨ajG,(Y w β M1 F BW q4).mono ?_⟩
      rintro e w' ⟨cv,I,M',rfl,H,BO,hG,hr⟩
      exact W (scalar R) (fun h=>KJ h) w' cv I M' V uy.symm H hr
     |some j=>
      simp only[J]at D
      have Y:=((hO f af ts [] R aX Z aD).2 j J).2
      unfold zH at D
      have ajG:V.fr=st.fr:=by
       split at D
       ·simp at D;obtain⟨_,rfl⟩:=D;split;rfl;exact Eg st us
       ·split at D
        ·simp at D;obtain⟨_,rfl⟩:=D;show(ite _ _ _:St).fr=_;split;rfl;exact Eg st us
        ·cases D
       ·cases D
      refine⟨ajG,(Y w β M1 F BW q4).mono ?_⟩
      rintro e w' ⟨cv,I,M',rfl,H,hr⟩
      rcases hr with⟨hc,hr⟩|⟨cs,len,hc,S,sz,cap,c,el,s1,s2,s3,s4,s5,s6,s7,s8,s9,s10,s11,s12,s13⟩
      ·rw[hc]at D
       simp at D;obtain⟨rfl,uy⟩:=D
       exact W (lY R) (fun h=>PJ h) w' cv I M' V uy.symm H hr
      ·rw[hc]at D
       simp only at D
       split at D
       ·rename_i hcs
        have hsz:cs.length/len=sz:=by rw[s8];exact Nat.mul_div_cancel_left _ (Nat.pos_of_ne_zero s9)
        rw[hsz]at D
        have U:=fun b (hb:b<w.heap.size)=>H.same b hb (yc b)
        have fin: ∀(PN:St) (M3:MSet),aZ B PN w β M3→Tr st w β M PN w β M3→(∀β G,aq β G w' (HO M3 S) (aL R j .nilsl) (jX cv j jk))→
          some (aL R j (.isl .L d ((PN.get .L d).g+1) 0 len sz),PN.up (.L,d,⟨(PN.get .L d).g+1,.cells cs 0 false⟩))=some (r,V)→
          ∃X I M',Ending.returned cv= .returned X∧aZ B V w' I M'∧Tr st w β M V w' I M'∧w.heap.size≤w'.heap.size∧aq I V.gens w' M' r X:=by
         intro PN M3 h3 t3 RI D
         simp only[Option.some.injEq,Prod.mk.injEq]at D
         obtain⟨rfl,rfl⟩:=D
         obtain⟨o1,o2⟩:=ajC h3 H.os H.tape H.output H.size U d ((PN.get .L d).g+1) (Nat.lt_succ_self _) S s1 (lZ s2) (.cells cs 0 false) (by
          unfold dF
          simp only[bK]
          exact⟨c,el,(0,0),s2,s3,s4,rfl,qQ hcs.1 s5,fun i _ hi=> .inr ⟨rfl,by omega,by omega⟩,s7,Nat.zero_le _⟩)
         refine⟨cv,_,_,rfl,o1,t3.trans o2 (Nat.le_refl _),H.size,aa7 (RI _ _) s12 ?_ rfl⟩
         simp only[aq]
         rw[bK]
         exact⟨by simp[dX],cap,rfl,s10,by simpa using s11⟩
        by_cases eY:lY (aL R j .nilsl)=true
        ·simp only[eY,if_true]at D
         exact fin st M h (Tr.refl _ _ _ _) (fun β G=>KK eY (s13 β G)) D
        ·simp only[eY,Bool.false_eq_true,if_false]at D
         refine fin (st.ups us) M1 q1 (Tr.fz q2 q3) (fun β G=>aq.mono (de ?_) (fun _ _ _ _=>rfl) (fun _ _=>Nat.le_refl _) _ _ (s13 β G)) D
         rintro b x (hm|⟨rfl,h1,h2⟩)
         ·exact H.msup b x (q1.mlt b x hm) (yc b) hm
         ·have:=(s6.resolve_left eY) (x-S.off) zZ
          rwa [show S.off+(x-S.off)=x by omega]at this
       ·cases D
    ·cases D
  ·cases D
 ·rename_i g Z HI
  split at D
  ·rename_i q hq
   obtain⟨ts,us⟩:=q
   simp only[Option.map_eq_some_iff]at D
   obtain⟨R,hg,D⟩:=D
   simp at D
   obtain⟨rfl,rfl⟩:=D
   obtain⟨⟨fn,hf,hn,hb⟩,Y⟩:=hE.2.1 f g Z HI
   obtain⟨M1,q1,q2,q3,q4,q5,q6⟩:=jr (fun t=>xt false st aJ t) O B st w β M _ ts us _ (Fz.refl st) h hv hq
   refine⟨oD hf hn hb _ _,rfl,(Y ts R hg w M1 F q1.mlt q4).mono ?_⟩
   rintro e w' ⟨cv,rfl,N,hr⟩
   obtain⟨o1,o2⟩:=HN h N.os N.tape N.output N.size N.block
   exact⟨cv,β,M,rfl,o1,o2,N.size,PRel.toV _ _ _ _ (PRel.mono (de (fun b x hm=>h.mlt b x hm)) _ _ hr)⟩
  ·cases D
 ·rename_i Z HI
  split at D
  ·rename_i g hwr
   obtain⟨⟨fn,hf,hn,hb⟩,hnil,Y⟩:=hE.2.2 f g Z HI hwr
   refine⟨oD hf hn hb _ _, ?_⟩
   grind [au9]
  ·cases D
variable{ops:Array Oper}{Q:Exit→Act→World→Prop}{n:Nat}{K:Act→World→Prop}
theorem KL(r:iF st a w β M n){j d:Nat}(D:(ops[j]?).bind (·.dst)=some d)(F:aa st.fr d≠ .any):yielded ops a.tmps j=match aa st.fr d with| .b x=>some x|_=>none:=by
 unfold yielded
 rw[D]
 simp only[Option.bind_some]
 have hs:=r.slot d
 rw[Array.getD_eq_getD_getElem?]at hs
 cases hx:a.tmps[d]? with
 |none=>
  rw[hx]at hs
  simp only[Option.getD_none]at hs
  generalize aa st.fr d=t at*
  cases t
  case any=>grind
  all_goals (simp only[aq,PRel,undef]at hs;simp_all)
 |some cv=>
  rw[hx]at hs
  simp only[Option.getD_some]at hs
  generalize aa st.fr d=t at*
  cases t <;> simp only[aq,PRel]at hs
  case b x=>subst hs;rfl
  case any=>grind
  all_goals first
   |(subst hs;rfl)
   |(obtain⟨_,rfl,_⟩:=hs;rfl)
   |(obtain⟨_,_,rfl,_⟩:=hs;rfl)
   |(obtain⟨_,_,_,rfl,_⟩:=hs;rfl)
   |(obtain⟨_,_,_,_,rfl,_⟩:=hs;rfl)
   |(obtain⟨_,rfl⟩:=hs;rfl)
theorem l8(hE:pd P E)(hO:ux P E call){hs:List Nat}{R:aF}{i:Nat}(hi:ops[i]? =some o)(hc:pS P hs ops o=some R)(h:aZ B st w β M)(J:iF st a w β M n){I:St}(O:bg E call n R st=some I)
  (hK: ∀Y w' F M',aZ B I w' F M'→iF I Y w' F M' n→Tr st w β M I w' F M'→w.heap.size≤w'.heap.size→K Y w'):wpOp P ops Q i K a w:=by
 have Z:=Uq J
 unfold wpOp
 rw[hi]
 simp only
 unfold pS at hc
 split at hc
 ·rename_i J9 Aa
  have core: ∀gd,R=⟨o.dst,J9,gd⟩→(match bw st.rho J9 with
    |some (some c)=>match br E call (o.dst.getD 0) st c.1 c.2 with
     |some r=>(gf st.fr n o.dst r.1).map fun fr=>({r.2 with fr}:St)
     |none=>none
    |some none=>none
    |none=>match(bt (o.dst.getD 0) st.rho J9).run st.get st.sh.length with
     |some (.val v ups)=>(gf st.fr n o.dst v).map fun fr=>({st.ups ups with fr}:St)
     |none=>none)=some I→o.wp P a w K Q:=by
   intro gd _ D
   unfold Oper.wp
   split at D
   ·rename_i c aD
    obtain⟨f,U⟩:=c
    split at D
    ·rename_i r V
     obtain⟨r,wI⟩:=r
     simp only[Option.map_eq_some_iff]at D
     obtain⟨fr,N,rfl⟩:=D
     have H:=PL Aa aD
     obtain⟨c,ho,H⟩:=H
     obtain⟨W,hx,rF⟩:=PK Z ho H aD
     obtain⟨d1,d2,d3⟩:=PM hE hO h rF V
     rw[hx,d1,Oper.upon_enter]
     refine d3.mono ?_
     rintro e w' ⟨cv,F,M',rfl,k1,k2,k3,k4⟩
     refine hK _ _ F M' (aa9 k1 fr) ?_ (k2.fr fr) k3
     exact Ag J k2 N k4
    ·cases D
   ·cases D
   ·split at D
    ·rename_i v ups hq
     simp only[Option.map_eq_some_iff]at D
     obtain⟨fr,N,rfl⟩:=D
     obtain⟨nx,cv,w',F,M',r1,r2,r3,r4,r5,r6⟩:=au4 (P:=P) Z h Aa hq
     rw[r1]
     have:=hK (a.put o.dst cv) w' F M' (aa9 r3 fr) (Ag J r4 N r6) (r4.fr fr) r5
     rcases r2 with rfl|⟨rfl,rfl⟩
     ·exact this
     ·exact this
    ·cases D
  split at hc
  ·grind [Region.wanted,bg]
  ·rename_i j want hg
   split at hc
   ·rename_i d V
    simp at hc;subst hc
    unfold bg at O
    simp only at O
    have X:aa st.fr d≠ .any:=by intro e;rw[e]at O;cases O
    have hy:=KL (ops:=ops) J V X
    have aBs:(gf st.fr n o.dst aO).map (fun fr=>({st with fr}:St))=some I→K (a.put o.dst undef) w:=by
     intro hp
     simp only[Option.map_eq_some_iff]at hp
     obtain⟨fr,N,rfl⟩:=hp
     exact hK _ _ β M (aa9 h fr) (Ag J (Tr.refl _ _ _ _) N (by simp[aq,aO,undef,au])) ((Tr.refl _ _ _ _).fr fr) (Nat.le_refl _)
    grind [Region.wanted]
   ·cases hc
 ·cases hc
end
end Go.Ev
namespace Go.Ev
open Go
theorem Q.run_congr{α:Type}{h F:Sp→Nat→ah}{nx r:Nat}: ∀(q:Q α),(∀κ∈q.log h nx,F κ.1 κ.2=h κ.1 κ.2)→(q.asks h nx=true→r=nx)→q.run F r=q.run h nx
 | .ret a,_,_=>rfl
 | .fail,_,_=>rfl
 | .rd sp k f,D,H=>by
   have e:F sp k=h sp k:=D (sp,k) (by simp[Q.log])
   simp only[Q.run,e]
   exact Q.run_congr (f (h sp k)) (fun κ hk=>D κ (by simp[Q.log,hk])) (fun I=>H (by simp[Q.asks,I]))
 | .new f,D,H=>by
   have e:r=nx:=H rfl
   subst e
   simp only[Q.run]
   exact Q.run_congr (f r) (fun κ hk=>D κ (by simp[Q.log,hk])) (fun _=>rfl)
theorem ig(f:T→Q (T×List Up))(h:Sp→Nat→ah)(nx:Nat)(D: ∀t,(f t).asks h nx=false): ∀ts,(bf f ts).asks h nx=false:=by
 have r: ∀{α γ:Type} (q:Q α) (g:α→Q γ),q.asks h nx=false→(∀a,(g a).asks h nx=false)→(q.bind g).asks h nx=false:=by
  intro α γ q g F H
  induction q with
  |ret a=>exact H a
  |fail=>rfl
  |rd sp k f ih=>grind [Q.bind,Q.asks]
  |new f ih=>simp[Q.asks]at F
 intro ts
 induction ts with
 |nil=>rfl
 |cons t ts ih=>
  simp only[bf]
  refine r _ _ (D t) (fun p=>r _ _ ih (fun q=>rfl))
theorem M4(h:Sp→Nat→ah)(nx:Nat): ∀(keep:Bool) (n:Nat) (t:T),(fz keep n t).asks h nx=false:=by
 have r: ∀{α γ:Type} (q:Q α) (g:α→Q γ),q.asks h nx=false→(∀a,(g a).asks h nx=false)→(q.bind g).asks h nx=false:=by
  intro α γ q g D F
  induction q with
  |ret a=>exact F a
  |fail=>rfl
  |rd sp k f ih=>grind [Q.bind,Q.asks]
  |new f ih=>simp[Q.asks]at D
 intro keep n
 induction n generalizing keep with
 |zero=>intro t;rfl
 |succ n ih=>
  intro t
  cases t <;> simp only[fz] <;> try rfl
  ·split
   ·rfl
   ·simp only[Q.asks];split
    ·split
     ·split <;> rfl
     ·split
      ·exact r _ _ (ig _ _ _ (fun t=>ih false t) _) (fun _=>rfl)
      ·rfl
     ·rfl
    ·rfl
  ·split
   ·rfl
   ·simp only[Q.asks];split
    ·split
     ·exact r _ _ (ig _ _ _ (fun t=>ih false t) _) (fun _=>rfl)
     ·rfl
    ·rfl
  ·grind [Q.asks]
  ·exact r _ _ (ig _ _ _ (fun t=>ih keep t) _) (fun _=>r _ _ (ig _ _ _ (fun t=>ih keep t) _) (fun _=>rfl))
  ·exact r _ _ (ig _ _ _ (fun t=>ih keep t) _) (fun _=>rfl)
  ·exact r _ _ (ig _ _ _ (fun t=>ih keep t) _) (fun _=>rfl)
theorem js{ρ M5:aP→T}{l:List aP}(h: ∀x∈l,M5 x=ρ x):l.map M5=l.map ρ:=List.map_congr_left h
theorem kJ{ρ M5:aP→T}{d:Nat}{x:Option aP}(h: ∀y∈x.toList,M5 y=ρ y):dx M5 d x=dx ρ d x:=by
 cases x with
 |none=>rfl
 |some y=>grind [dx]
theorem PO{ρ M5:aP→T}(d:Nat)(op:lX)(h: ∀x∈wy op,M5 x=ρ x):bt d M5 op=bt d ρ op:=by
 cases op <;> simp only[wy]at h <;> simp only[bt]
 case mv x=>grind
 case pick c a b=>grind
 case box x sh=>grind
 case build z ps=>
  have e: ∀p∈ps,M5 p.2.2=ρ p.2.2:=fun p D=>h _ (List.mem_map.2 ⟨p,D,rfl⟩)
  have e1:(ps.all fun p=>decide ((cellsOf (M5 p.2.2)).length=p.2.1)&&noTup (M5 p.2.2))=(ps.all fun p=>decide ((cellsOf (ρ p.2.2)).length=p.2.1)&&noTup (ρ p.2.2)):=by
   grind
  grind [List.map_congr_left]
 case bsl z len ps=>
  grind [List.map_congr_left]
 case ld x n ag=>grind
 case st x v n=>grind
 case nck x=>grind
 case bin o x y=>grind
 case eq n k x y=>grind
 case un o x=>grind
 case cvi k x=>grind
 case b2s x=>rw[h x zP]
 case mkfn f a c=>rw[js (fun x hx=>h x (by simp[hx])),js (fun x hx=>h x (by simp[hx]))]
 case mksl z b x sh=>rw[h x zP]
 case slS x l hh=>
  rw[h x zP,kJ (x:=l) (fun y r=>h y (by simp at r;simp[r]))]
  split
  ·rw[kJ (x:=hh) (fun y r=>h y (by simp at r;simp[r]))]
  ·rfl
 case slV sz x l hh m=>
  rw[h x zP,kJ (x:=l) (fun y r=>h y (by simp at r;simp[r]))]
  split
  ·rfl
  ·rw[kJ (x:=hh) (fun y r=>h y (by simp at r;simp[r]))]
   split
   ·rfl
   ·rename_i mm _ _;rw[h mm zP]
   ·rfl
 case fa x o=>rw[h x zP]
 case fld x o n ag=>rw[h x zP]
 case ia x y n=>rw[h x zP,h y zP]
 case iaA x y l n=>rw[h x zP,h y zP]
 case ixS x y=>rw[h x zP,h y zP]
 case ixA x y l n ag=>rw[h x zP,h y zP]
 case lk k x y z ok=>rw[h x zP,h y zP]
 case mu k x y z=>rw[h x zP,h y zP,h z zP]
 case ext x j=>rw[h x zP]
 case lenS x=>rw[h x zP]
 case lenV x=>rw[h x zP]
 case lenM x=>rw[h x zP]
 case app s b x y sh nm=>rw[h x zP,h y zP]
 case mm b as=>rw[js h]
theorem Ek{ρ M5:aP→T}(op:lX)(h: ∀x∈wy op,M5 x=ρ x):bw M5 op=bw ρ op:=by
 cases op <;> simp only[wy]at h <;> simp only[bw]
 case callf f as=>simp_all
 case callv f as=>rw[h f zP,js (fun x hx=>h x (by simp[hx]))]
theorem UJ{ρ:aP→T}{op:lX}(F:quiet op=true)(d:Nat)(h:Sp→Nat→ah)(nx:Nat):bw ρ op=none∧(bt d ρ op).log h nx= []∧(bt d ρ op).asks h nx=false∧ ∀v r,(bt d ρ op).run h nx=some (.val v r)→r= []:=by
 have D: ∀x:Option T,(Ev.val x).log h nx= []∧(Ev.val x).asks h nx=false∧ ∀v r,(Ev.val x).run h nx=some (.val v r)→r= []:=by
  intro x;cases x <;> simp[Ev.val,Q.log,Q.asks,Q.run]
 cases op <;> simp[quiet]at F <;> refine⟨rfl, ?_⟩ <;> simp only[bt]
 case slV sz x l hh m=>
  split
  ·simp[Q.log,Q.asks,Q.run]
  ·split
   ·unfold xp
    grind [Q.bind,Q.log,Q.asks,Q.run]
   ·grind [Q.log,Q.asks,Q.run]
   ·simp[Q.log,Q.asks,Q.run]
 all_goals first
  |exact D _
  |(simp[Q.log,Q.asks,Q.run];done)
  |(repeat' split
    all_goals first
     |exact D _
     |(simp[Q.log,Q.asks,Q.run];done))
end Go.Ev
namespace Go.Ev
open Go
theorem HQ{us:List Up}{sp:Sp}{k:Nat}:jh us sp k=true↔(sp,k)∈cS us:=by
 grind [jh,cS]
theorem HR(s p:St): ∀(us:List Up) (sp:Sp) (k:Nat),jh us sp k=true→(s.ups us).get sp k=(p.ups us).get sp k:=by
 intro us
 induction us generalizing s p with
 |nil=>grind [jh]
 |cons u us ih=>
  grind [St.ups,kI,jh,eO]
theorem yt(s p:St)(us:List Up)(sp:Sp)(k:Nat):(s.ups us).get sp k=if(sp,k)∈cS us then(p.ups us).get sp k else s.get sp k:=by
 split
 ·rename_i h;exact HR s p us sp k (HQ.2 h)
 ·rename_i h
  refine kI s us sp k ?_
  cases r:jh us sp k with
  |false=>rfl
  |true=>exact absurd (HQ.1 r) h
theorem KM(s p:St)(hs:s.sh=p.sh): ∀us,(s.ups us).sh=(p.ups us).sh:=by
 intro us
 induction us generalizing s p with
 |nil=>exact hs
 |cons u us ih=>
  simp only[St.ups]
  refine ih _ _ ?_
  obtain⟨a,b,c⟩:=u
  cases a
  ·exact hs
  ·simp[St.up,hs]
theorem El(s:St): ∀us,(∀u∈us,u.1= .S→u.2.1<s.sh.length)→(s.ups us).sh.length=s.sh.length:=by
 intro us
 induction us generalizing s with
 |nil=>intro _;rfl
 |cons u us ih=>
  intro h
  obtain⟨a,b,c⟩:=u
  simp only[St.ups]
  have r:(s.up (a,b,c)).sh.length=s.sh.length:=by
   cases a with
   |L=>rfl
   |S=>simp_all[St.up,jD]
  grind
theorem KN{s p:St}{us:List Up}(h:inB p us=true)(D: ∀sp k,(sp,k)∈cS us→s.get sp k=p.get sp k): ∀u∈us,u.1= .S→u.2.1<s.sh.length:=by
 intro u r e
 unfold inB at h
 rw[List.all_eq_true]at h
 have h1:=h u r
 obtain⟨a,b,c⟩:=u
 dsimp only at e;subst e
 simp at h1
 have h2:=D .S b (by unfold cS;exact List.mem_map.2 ⟨_,r,rfl⟩)
 refine MS (st:=s) ?_
 grind [xq,live]
theorem Em{fr fr2:Fr}{n:Nat}{d:Option Nat}{v:T}{g:Fr}(h:gf fr n d v=some g): ∃r,gf fr2 n d v=some r∧ ∀t,aa r t=if d=some t then aa g t else aa fr2 t:=by
 cases d with
 |none=>exact⟨fr2,rfl,fun t=>by simp⟩
 |some d=>
  grind [gf,kY]
def wrote(fp:FP)(sp:Sp)(k:Nat):Prop:=(sp,k)∈fp.w∨(fp.all=true∧sp= .S)
structure aba (ao:aF) (fp:FP) (s s' p':St):Prop where
 slot: ∀t,aa s'.fr t=if ao.d=some t then aa p'.fr t else aa s.fr t
 key: ∀sp k,(wrote fp sp k→s'.get sp k=p'.get sp k)∧(¬wrote fp sp k→s'.get sp k=s.get sp k)
 len:(fp.all=true→s'.sh.length=p'.sh.length)∧(fp.all=false→s'.sh.length=s.sh.length)
variable{E:Env}{call:jB}{n:Nat}
theorem PQ{s p:St}{r:aF}(h: ∀t∈looks r,aa s.fr t=aa p.fr t): ∀x∈wy r.op,s.rho x=p.rho x:=by
 intro x hx
 cases x with
 |t m=>
  refine h m ?_
  grind [looks,tmpsOf]
 |c v=>rfl
theorem abb{s p:St}{d j:Nat}{r I:T}{us:List Up}{J:St}(D:zH d j r p us=some (I,J))(h: ∀sp k,(sp,k)∈(Sp.L,d)::cS us→s.get sp k=p.get sp k)(O:(s.ups us).sh.length=s.sh.length):
  ∃s2,zH d j r s us=some (I,s2)∧(∀sp k,((sp,k)∈(Sp.L,d)::cS us→s2.get sp k=J.get sp k)∧((sp,k)∉(Sp.L,d)::cS us→s2.get sp k=s.get sp k))∧s2.sh.length=s.sh.length:=by
 have base: ∀(c:Bool) (sp:Sp) (k:Nat),((sp,k)∈(Sp.L,d)::cS us→(if c=true then s else s.ups us).get sp k=(if c=true then p else p.ups us).get sp k)∧((sp,k)∉(Sp.L,d)::cS us→(if c=true then s else s.ups us).get sp k=s.get sp k):=by
  grind [Bool.false_eq_true,yt]
 have len: ∀c:Bool,(if c=true then s else s.ups us).sh.length=s.sh.length:=by
  grind
 unfold zH at D ⊢
 split at D
 ·rename_i hc
  simp only[Option.some.injEq,Prod.mk.injEq]at D ⊢
  obtain⟨rfl,rfl⟩:=D
  exact⟨_,⟨rfl,rfl⟩,base _,len _⟩
 ·rename_i cs Ur ex hc
  split at D
  ·rename_i H
   rw[if_pos H]
   simp only[Option.some.injEq,Prod.mk.injEq]at D ⊢
   obtain⟨rfl,rfl⟩:=D
   have N:=(base (lY (aL r j .nilsl)) .L d).1 (List.mem_cons_self ..)
   rw[N]
   refine⟨_,⟨rfl,rfl⟩,fun sp k=>⟨fun F=> ?_,fun F=> ?_⟩, ?_⟩
   ·rw[eO,eO]
    split
    ·rfl
    ·exact(base _ sp k).1 F
   ·rw[eO,if_neg (by rintro⟨rfl,rfl⟩;exact F (List.mem_cons_self ..))]
    exact(base _ sp k).2 F
   ·exact len _
  ·cases D
 ·cases D
theorem HS{D:aF}{fp:FP}{s p U:St}(he:bg E call n D p=some U)(df:bL E call D p=some fp)(h1: ∀t∈looks D,aa s.fr t=aa p.fr t)(h2: ∀sp k,(sp,k)∈fp.r∨(sp,k)∈fp.w→s.get sp k=p.get sp k)(h3:fp.all=true→s.sh=p.sh):
  ∃O,bg E call n D s=some O∧aba D fp s O U:=by
 have V:=PQ h1
 have aBs:(gf p.fr n D.d aO).map (fun fr=>({p with fr}:St))=some U→fp=fF→ ∃O,(gf s.fr n D.d aO).map (fun fr=>({s with fr}:St))=some O∧aba D fp s O U:=by
  intro hp hn
  subst hn
  simp only[Option.map_eq_some_iff]at hp
  obtain⟨g,W,rfl⟩:=hp
  obtain⟨g2,e1,e2⟩:=Em (fr2:=s.fr) W
  refine⟨{s with fr:=g2},by rw[e1];rfl,e2,fun sp k=>⟨fun hw=> ?_,fun _=>rfl⟩,⟨(fun I=>by cases I),fun _=>rfl⟩⟩
  rcases hw with hw|hw
  ·simp[fF]at hw
  ·cases hw.1
 have core:(match bw p.rho D.op with
       |some (some c)=>match br E call (D.d.getD 0) p c.1 c.2 with
        |some r=>(gf p.fr n D.d r.1).map fun fr=>({r.2 with fr}:St)
        |none=>none
       |some none=>none
       |none=>match(bt (D.d.getD 0) p.rho D.op).run p.get p.sh.length with
        |some (.val v ups)=>(gf p.fr n D.d v).map fun fr=>({p.ups ups with fr}:St)
        |none=>none)=some U→(match bw p.rho D.op with
       |some (some c)=>ev E call (D.d.getD 0) p c.1 c.2
       |some none=>none
       |none=>
        let q:=bt (D.d.getD 0) p.rho D.op
        match q.run p.get p.sh.length with
        |some (.val _ ups)=>if q.asks p.get p.sh.length||inB p ups then some (⟨q.asks p.get p.sh.length,q.log p.get p.sh.length,cS ups⟩:FP)else none
        |none=>none)=some fp→
   ∃O,(match bw s.rho D.op with
    |some (some c)=>match br E call (D.d.getD 0) s c.1 c.2 with
     |some r=>(gf s.fr n D.d r.1).map fun fr=>({r.2 with fr}:St)
     |none=>none
    |some none=>none
    |none=>match(bt (D.d.getD 0) s.rho D.op).run s.get s.sh.length with
     |some (.val v ups)=>(gf s.fr n D.d v).map fun fr=>({s.ups ups with fr}:St)
     |none=>none)=some O∧aba D fp s O U:=by
  intro J F
  rw[Ek D.op V]
  split at J
  ·rename_i c hc
   obtain⟨f,args⟩:=c
   rw[hc]at F
   simp only[hc]at F ⊢
   split at J
   ·rename_i r H
    obtain⟨r,p2⟩:=r
    simp only[Option.map_eq_some_iff]at J
    obtain⟨g,W,rfl⟩:=J
    obtain⟨g2,e1,e2⟩:=Em (fr2:=s.fr) W
    suffices hs: ∃s2,br E call (D.d.getD 0) s f args=some (r,s2)∧(∀sp k,(wrote fp sp k→s2.get sp k=p2.get sp k)∧(¬wrote fp sp k→s2.get sp k=s.get sp k))∧(fp.all=true→s2.sh.length=p2.sh.length)∧(fp.all=false→s2.sh.length=s.sh.length)by
     obtain⟨s2,d1,d2,d3⟩:=hs
     refine⟨{s2 with fr:=g2},by rw[d1];simp[e1],e2,d2,d3⟩
    unfold ev at F
    unfold br at H ⊢
    split at H
    ·rename_i af X
     simp only[X]at F ⊢
     cases N:(bf (fz af.eff aJ) args).run p.get p.sh.length with
     |none=>simp[N]at H
     |some q=>
      obtain⟨ts,us⟩:=q
      simp only[N]at H F
      split at F
      ·cases F
      ·rename_i PR
       simp at PR
       have zN: ∀κ∈(bf (fz af.eff aJ) args).log p.get p.sh.length,κ∈fp.r:=by
        grind
       have Y:(bf (fz af.eff aJ) args).run s.get s.sh.length=some (ts,us):=by
        rw[←N]
        refine Q.run_congr _ (fun κ hk=>h2 _ _ (.inl (zN κ hk))) (fun I=> ?_)
        rw[ig _ _ _ (fun t=>M4 _ _ _ _ t)]at I;cases I
       rw[Y]
       simp only
       split at H
       ·rename_i oE
        simp only[oE,if_true]at F ⊢
        simp at F;subst F
        simp only[Option.map_eq_some_iff]at H
        obtain⟨⟨r',aX⟩,aD,H⟩:=H
        simp at H;obtain⟨rfl,rfl⟩:=H
        have Z:=h3 rfl
        have aBt:=KM s p Z us
        refine⟨{s.ups us with sh:=aX},by rw[aBt,aD];rfl,fun sp k=> ?_,fun _=>rfl,(fun I=>by cases I)⟩
        cases sp with
        |S=>exact⟨fun _=>rfl,fun hw=>absurd (.inr ⟨rfl,rfl⟩) hw⟩
        |L=>
         have:=yt s p us .L k
         refine⟨fun hw=> ?_,fun hw=> ?_⟩
         ·rcases hw with hw|hw
          ·rw[if_pos hw]at this;exact this
          ·cases hw.2
         ·rw[if_neg (fun e=>hw (.inl e))]at this;exact this
       ·rename_i oE
        simp only[oE,Bool.false_eq_true,if_false]at F ⊢
        split at H
        ·rename_i r0 aD
         simp only[aD]at F ⊢
         cases R:af.own with
         |some j=>
          simp only[R]at F H ⊢
          simp at F;subst F
          obtain⟨s2,g1,g2,g3⟩:=abb (s:=s) H (fun sp k hk=>h2 sp k (.inr hk)) (El s us (KN PR (fun sp k hk=>h2 sp k (.inr (List.mem_cons_of_mem _ hk)))))
          refine⟨s2,g1,fun sp k=>⟨fun hw=> ?_,fun hw=>(g2 sp k).2 (fun e=>hw (.inl e))⟩,(fun I=>by cases I),fun _=>g3⟩
          rcases hw with hw|hw
          ·exact(g2 sp k).1 hw
          ·cases hw.1
         |none=>
         simp only[R]at F H ⊢
         simp at F;subst F
         simp at H;obtain⟨rfl,rfl⟩:=H
         by_cases eY:scalar r0.1=true
         ·simp only[eY,if_true]
          refine⟨s,rfl,fun sp k=>⟨fun hw=> ?_,fun _=>rfl⟩,(fun I=>by cases I),fun _=>rfl⟩
          rcases hw with hw|hw
          ·simp at hw
          ·cases hw.1
         ·simp only[eY,Bool.false_eq_true,if_false]
          refine⟨s.ups us,rfl,fun sp k=> ?_,(fun I=>by cases I),fun _=> ?_⟩
          ·have:=yt s p us sp k
           refine⟨fun hw=> ?_,fun hw=> ?_⟩
           ·rcases hw with hw|hw
            ·rw[if_pos hw]at this;exact this
            ·cases hw.1
           ·rw[if_neg (fun e=>hw (.inl e))]at this;exact this
          ·exact El s us (KN PR (fun sp k hk=>h2 sp k (.inr (by simpa[eY]using hk))))
        ·cases H
    ·rename_i g' X HI
     simp only[X,HI]at F ⊢
     simp at F;subst F
     cases N:(bf (fz false aJ) args).run p.get p.sh.length with
     |none=>simp[N]at H
     |some q=>
      simp only[N]at H
      have Y:(bf (fz false aJ) args).run s.get s.sh.length=some q:=by
       rw[←N]
       refine Q.run_congr _ (fun κ hk=>h2 _ _ (.inl hk)) (fun I=> ?_)
       rw[ig _ _ _ (fun t=>M4 _ _ _ _ t)]at I;cases I
      rw[Y]
      simp only[Option.map_eq_some_iff]at H ⊢
      obtain⟨r',hg',H⟩:=H
      simp at H;obtain⟨rfl,rfl⟩:=H
      refine⟨s,⟨r',hg',rfl⟩,fun sp k=>⟨fun hw=> ?_,fun _=>rfl⟩,(fun I=>by cases I),fun _=>rfl⟩
      rcases hw with hw|hw
      ·simp at hw
      ·cases hw.1
    ·rename_i X HI
     simp only[X,HI]at F
     cases F
   ·cases J
  ·cases J
  ·rename_i hc
   simp only[hc]at F ⊢
   rw[PO _ D.op V]
   split at J
   ·rename_i v ups N
    simp only[N]at F
    split at F
    ·rename_i PR
     simp at F;subst F
     simp only[Option.map_eq_some_iff]at J
     obtain⟨g,W,rfl⟩:=J
     obtain⟨g2,e1,e2⟩:=Em (fr2:=s.fr) W
     have Y:(bt (D.d.getD 0) p.rho D.op).run s.get s.sh.length=some (.val v ups):=by
      grind [Q.run_congr]
     rw[Y]
     refine⟨{s.ups ups with fr:=g2},by simp[e1],e2,fun sp k=> ?_, ?_⟩
     ·have:=yt s p ups sp k
      refine⟨fun hw=> ?_,fun hw=> ?_⟩
      ·by_cases hm:(sp,k)∈cS ups
       ·rw[if_pos hm]at this;exact this
       ·rcases hw with hw|hw
        ·exact absurd hw hm
        ·obtain⟨ha,rfl⟩:=hw
         have Z:=KM s p (h3 ha) ups
         show aI (s.ups ups).sh k=aI (p.ups ups).sh k
         rw[Z]
      ·rw[if_neg (fun e=>hw (.inl e))]at this;exact this
     ·refine⟨fun ha=> ?_,fun ha=> ?_⟩
      ·have Z:=KM s p (h3 ha) ups
       show(s.ups ups).sh.length=(p.ups ups).sh.length
       rw[Z]
      ·rw[show(bt (D.d.getD 0) p.rho D.op).asks p.get p.sh.length=false from ha,Bool.false_or]at PR
       exact El s ups (KN PR (fun sp k hk=>h2 sp k (.inr hk)))
    ·cases F
   ·cases J
 unfold bg at he ⊢
 unfold bL at df
 cases hgd:D.gd with
 |none=>
  grind
 |some g=>
  obtain⟨j,want⟩:=g
  simp only[hgd]at he df ⊢
  grind [looks]
end Go.Ev
namespace Go.Ev
open Go
theorem HT(r:List Nat): ∀(D:List Nat) (F i:Nat),(D.foldl (fun m p=>m ||| 2 ^ p ||| aH 0 r p) F).testBit i=true↔F.testBit i=true∨ ∃p∈D,p=i∨(aH 0 r p).testBit i=true
 | [],F,i=>by simp
 |p::D,F,i=>by
  simp only[List.foldl_cons]
  rw[HT r D]
  grind
theorem KO(r D:List Nat)(i:Nat):(D9 r D).testBit i=true↔ ∃p∈D,p=i∨(aH 0 r p).testBit i=true:=by
 unfold D9;rw[HT];simp
theorem jF{α:Type}(d:α): ∀(l r:List α) (k:Nat),k<l.length→aH d (l++r) k=aH d l k
 | [],r,k,h=>by simp at h
 |x::xs,r,0,h=>rfl
 |x::xs,r,k+1,h=>by simp_all[List.cons_append,aH,jF]
theorem qS{α:Type}(d:α): ∀(l:List α) (x:α),aH d (l++ [x]) l.length=x
 | [],x=>rfl
 |y::r,x=>by simp_all[List.cons_append,List.length_cons,aH,qS]
theorem Ah: ∀(mI:List (List Nat)) (r:List Nat),(lr mI r).length=r.length+mI.length∧(∀k,k<r.length→aH 0 (lr mI r) k=aH 0 r k)∧
  ∀j ps,mI[j]? =some ps→ ∀i,(aH 0 (lr mI r) (r.length+j)).testBit i=true↔ ∃p∈ps,p=i∨((if p<r.length+j then aH 0 (lr mI r) p else 0).testBit i=true)
 | [],r=>by simp[lr]
 |ps::mI,r=>by
  obtain⟨h1,h2,h3⟩:=Ah mI (r++ [D9 r ps])
  simp only[lr]
  refine⟨by rw[h1];simp;omega,fun k hk=> ?_,fun j F D i=> ?_⟩
  ·grind [jF]
  ·cases j with
   |zero=>
    simp at D;subst D
    rw[Nat.add_zero,h2 r.length zP,qS,KO]
    constructor
    ·rintro⟨p,H,e⟩
     refine⟨p,H,e.imp id fun e=> ?_⟩
     by_cases I:p<r.length
     ·grind [jF]
     ·exfalso
      have: ∀(l:List Nat) (k:Nat),l.length≤k→aH 0 l k=0:=by
       intro l
       induction l with
       |nil=>intro k _;rfl
       |cons x xs ih=>intro k hk;cases k with|zero=>simp at hk|succ k=>exact ih k (by simpa using hk)
      grind
    grind [jF]
   |succ j=>
    have:=h3 j F (by simpa using D) i
    grind
theorem uz: ∀(mI:List (List Nat)) (r:Nat),tX r mI=true→ ∀j D,mI[j]? =some D→ ∀p∈D,p<r+j
 | [],r,h,j,D,F,p,H=>by simp at F
 |q::mI,r,h,j,D,F,p,H=>by
  simp only[tX,Bool.and_eq_true,List.all_eq_true]at h
  cases j with
  |zero=>grind
  |succ j=>
   have:=uz mI (r+1) h.2 j D (by simpa using F) p H
   omega
theorem Ai{m:Nat}{as:List aF}{k:Nat}{a:aF}:(k,a)∈zM m as↔as[k]? =some a∧m.testBit k=false:=by
 unfold zM
 rw[List.mem_filter,List.mem_map]
 constructor
 ·grind
 ·rintro⟨h1,h2⟩
  exact⟨⟨(a,k),List.mem_zipIdx_iff_getElem?.2 h1,rfl⟩,by simpa using h2⟩
theorem uA: ∀(F D:List aF) (N:List Nat),tY N D F=true→ ∀j a,F[j]? =some a→ ∀m,N[j]? =some m→ ∀k H,k<D.length+j→(D++F)[k]? =some H→m.testBit k=false→fH H a=true
 | [],D,N,h,j,a,I,m,J,k,H,hk,O,R=>by simp at I
 |r::F,D,[],h,j,a,I,m,J,k,H,hk,O,R=>by simp at J
 |r::F,D,U::N,h,j,a,I,m,J,k,H,hk,O,R=>by
  simp only[tY,Bool.and_eq_true,List.all_eq_true]at h
  cases j with
  |zero=>
   simp at I J;subst I;subst J
   have:D[k]? =some H:=by rw[List.getElem?_append_left zZ]at O;exact O
   exact h.1 (k,H) (Ai.2 ⟨this,R⟩)
  |succ j=>
   exact uA F (D++ [r]) N h.2 j a (by simpa using I) m (by simpa using J) k H (by simp;omega) (by simpa using O) R
variable{E:Env}{call:jB}{n:Nat}
theorem Aj: ∀(F D:List aF) (I:List Nat) (bo:List FP) (st H:St),bo.length=D.length→I.length=F.length→aK E call n (ni I D F) bo st=some H→
  ∃(pre:Nat→St) (fp:Nat→FP),pre 0=st∧pre F.length=H∧ ∀j a m,F[j]? =some a→I[j]? =some m→bg E call n a (pre j)=some (pre (j+1))∧bL E call a (pre j)=some (fp j)∧
   ∀k J,k<D.length+j→(D++F)[k]? =some J→m.testBit k=false→quiet a.op=false→quiet J.op=false→apart (if k<D.length then aH ⟨true,[],[]⟩ bo k else fp (k-D.length)) (fp j)=true
 | [],D,I,bo,st,H,W,R,h=>by
   cases I with
   |cons _ _=>simp at R
   |nil=>simp[ni,aK]at h;subst h;exact⟨fun _=>st,fun _=>fF,rfl,rfl,by simp⟩
 |r::F,D,[],bo,st,H,W,R,h=>by simp at R
 |r::F,D,m0::I,bo,st,H,W,R,h=>by
  simp only[ni,aK]at h
  cases Y:bL E call r st with
  |none=>simp[Y]at h
  |some U=>
   simp only[Y]at h
   generalize hu:(if quiet r.op=true then []else((zM m0 D).filter fun p=> !quiet p.2.op).map (·.1))=uno at h
   split at h
   ·rename_i bH
    cases Z:bg E call n r st with
    |none=>simp[Z]at h
    |some eL=>
     simp only[Z]at h
     obtain⟨pre,fp,p1,p2,p3⟩:=Aj F (D++ [r]) I (bo++ [U]) eL H (by simp[W]) (by simpa using R) h
     refine⟨fun j=>match j with|0=>st|j+1=>pre j,fun j=>match j with|0=>U|j+1=>fp j,rfl,p2,fun j a m hj N=> ?_⟩
     cases j with
     |zero=>
      simp at hj N;subst hj;subst N
      refine⟨by simp only;rw[Z,p1],Y,fun k J hk X hb O PS=> ?_⟩
      have V:k<D.length:=zZ
      rw[if_pos V]
      have ha':D[k]? =some J:=by rw[List.getElem?_append_left V]at X;exact X
      rw[List.all_eq_true]at bH
      refine bH k ?_
      rw[←hu,if_neg (by rw[O];simp)]
      exact List.mem_map.2 ⟨(k,J),List.mem_filter.2 ⟨Ai.2 ⟨ha',hb⟩,by simp[PS]⟩,rfl⟩
     |succ j=>
      obtain⟨e1,e2,e3⟩:=p3 j a m (by simpa using hj) (by simpa using N)
      refine⟨e1,e2,fun k J hk X hb O PS=> ?_⟩
      have:=e3 k J (by simp;omega) (by simpa using X) hb O PS
      by_cases h1:k<D.length
      ·grind [jF]
      ·rw[if_neg h1]
       by_cases h2:k=D.length
       ·subst h2
        rw[if_pos zP,←W,qS]at this
        simpa using this
       ·rw[if_neg (by simp;omega)]at this
        obtain⟨x,hx⟩: ∃x,k-D.length=x+1:=⟨k-D.length-1,by omega⟩
        rw[hx]
        simp only
        have hx2:k-(D++ [r]).length=x:=by simp;omega
        rw[hx2]at this
        exact this
   ·cases h
theorem HU{a:aF}{p:St}{fp:FP}(I:quiet a.op=true)(h:bL E call a p=some fp):fp.all=false∧fp.r= []∧fp.w= []:=by
 obtain⟨J,N,O,R⟩:=UJ (ρ:=p.rho) I (a.d.getD 0) p.get p.sh.length
 have H:(match bw p.rho a.op with
       |some (some c)=>ev E call (a.d.getD 0) p c.1 c.2
       |some none=>none
       |none=>
        let q:=bt (a.d.getD 0) p.rho a.op
        match q.run p.get p.sh.length with
        |some (.val _ D)=>if q.asks p.get p.sh.length||inB p D then some (⟨q.asks p.get p.sh.length,q.log p.get p.sh.length,cS D⟩:FP)else none
        |none=>none)=some fp→fp.all=false∧fp.r= []∧fp.w= []:=by
  intro F
  rw[J]at F
  simp only at F
  split at F
  ·rename_i v D hr
   have:=R v D hr;subst this
   split at F
   ·simp at F;subst F;exact⟨O,N,rfl⟩
   ·cases F
  ·cases F
 unfold bL at h
 cases U:a.gd with
 |none=>grind
 |some g=>
  simp only[U]at h
  split at h
  ·split at h
   ·exact H h
   ·simp at h;subst h;exact⟨rfl,rfl,rfl⟩
  ·simp at h;subst h;exact⟨rfl,rfl,rfl⟩
theorem UK: ∀(a b:List ah),(∀k,aI a k=aI b k)→a.length=b.length→a=b
 | [],[],_,_=>rfl
 | [],y::r,_,h=>by simp at h
 |x::xs,[],_,h=>by simp at h
 |x::xs,y::r,h,D=>by
  have h0:x=y:=h 0
  rw[h0,UK xs r (fun k=>h (k+1)) (by simpa using D)]
end Go.Ev
namespace Go.Ev
open Go
variable{E:Env}{call:jB}{n:Nat}
structure jt (E:Env) (call:jB) (n:Nat) (as:List aF) (mI:List (List Nat)) (bit:Nat→Nat→Bool) (pre:Nat→St) (fp:Nat→FP):Prop where
 len:mI.length=as.length
 edges: ∀(j:Nat) (ps:List Nat),mI[j]? =some ps→ ∀p∈ps,p<j
 bits: ∀(j:Nat) (ps:List Nat),mI[j]? =some ps→ ∀i,bit j i=true↔ ∃p∈ps,p=i∨bit p i=true
 run: ∀(j:Nat) (a:aF),as[j]? =some a→bg E call n a (pre j)=some (pre (j+1))∧bL E call a (pre j)=some (fp j)
 slots: ∀(j:Nat) (a:aF) (k:Nat) (a':aF),as[j]? =some a→as[k]? =some a'→k<j→bit j k=false→fH a' a=true
 apart: ∀(j:Nat) (a:aF) (k:Nat) (a':aF),as[j]? =some a→as[k]? =some a'→k<j→bit j k=false→quiet a.op=false→quiet a'.op=false→Ev.apart (fp k) (fp j)=true
variable{as:List aF}{mI:List (List Nat)}{bit:Nat→Nat→Bool}{pre:Nat→St}{fp:Nat→FP}
def Ak(mI:List (List Nat))(L:Nat→Prop):Prop:= ∀(j:Nat) (r:List Nat),mI[j]? =some r→L j→ ∀p∈r,L p
theorem xD(R:jt E call n as mI bit pre fp){L:Nat→Prop}(hc:Ak mI L): ∀(j:Nat) (r:List Nat),mI[j]? =some r→(∀p∈r,L p)→ ∀i,bit j i=true→L i:=by
 intro j
 induction j using Nat.strongRecOn with
 |_ j ih=>
  intro r F I i N
  obtain⟨p,h1,h2⟩:=(R.bits j r F i).1 N
  rcases h2 with rfl|h2
  ·exact I p h1
  ·have D:=R.edges j r F p h1
   have H:p<mI.length:=Nat.lt_trans D (List.getElem?_eq_some_iff.1 F).1
   have J:mI[p]? =some mI[p]:=List.getElem?_eq_getElem H
   exact ih p D _ J (hc p _ J (I p h1)) i h2
theorem pZ(R:jt E call n as mI bit pre fp){L:Nat→Prop}(hc:Ak mI L){i j:Nat}(hi:i<as.length)(I:j<as.length)(D: ¬L i)(F: ∀H,mI[i]? =some H→ ∀p∈H,L p)(J:i=j∨(j<i∧bit i j=true)∨(i<j∧bit j i=true)):L j↔j<i:=by
 rcases J with rfl|⟨h1,h2⟩|⟨h1,h2⟩
 ·grind
 ·refine⟨fun _=>h1,fun _=> ?_⟩
  have N:i<mI.length:=by rw[R.len];exact hi
  have r:mI[i]? =some mI[i]:=List.getElem?_eq_getElem N
  exact xD R hc i _ r (F _ r) j h2
 ·refine⟨fun O=>absurd ?_ D,fun h=>by omega⟩
  have BX:j<mI.length:=by rw[R.len];exact I
  have r:mI[j]? =some mI[j]:=List.getElem?_eq_getElem BX
  exact xD R hc j _ r (hc j _ r O) i h2
structure Inv (as:List aF) (pre:Nat→St) (fp:Nat→FP) (L:Nat→Prop) (s:St):Prop where
 slot: ∀t i,i≤as.length→(∀(j:Nat) (a:aF),as[j]? =some a→a.d=some t→(L j↔j<i))→aa s.fr t=aa (pre i).fr t
 key: ∀sp k i,i≤as.length→(∀j,j<as.length→wrote (fp j) sp k→(L j↔j<i))→s.get sp k=(pre i).get sp k
 len: ∀i,i≤as.length→(∀j,j<as.length→(fp j).all=true→(L j↔j<i))→s.sh.length=(pre i).sh.length
theorem Al(R:jt E call n as mI bit pre fp){j:Nat}{a:aF}(r:as[j]? =some a):aba a (fp j) (pre j) (pre (j+1)) (pre (j+1)):=by
 obtain⟨h1,h2⟩:=R.run j a r
 obtain⟨D,e1,e2⟩:=HS (s:=pre j) h1 h2 (fun _ _=>rfl) (fun _ _ _=>rfl) (fun _=>rfl)
 grind
theorem HV(R:jt E call n as mI bit pre fp)(t i:Nat): ∀r,i≤r→r≤as.length→(∀(j:Nat) (a:aF),as[j]? =some a→i≤j→j<r→a.d≠some t)→aa (pre r).fr t=aa (pre i).fr t:=by
 intro r h1
 induction r with
 |zero=>grind
 |succ m ih=>
  intro h2 h3
  by_cases D:i=m+1
  ·subst D;rfl
  ·have M6:m<as.length:=zZ
   have F:as[m]? =some as[m]:=List.getElem?_eq_getElem M6
   have H:=(Al R F).slot t
   grind
theorem M7(R:jt E call n as mI bit pre fp)(sp:Sp)(k i:Nat): ∀r,i≤r→r≤as.length→(∀j,i≤j→j<r→ ¬wrote (fp j) sp k)→(pre r).get sp k=(pre i).get sp k:=by
 intro r h1
 induction r with
 |zero=>grind
 |succ m ih=>
  intro h2 h3
  by_cases D:i=m+1
  ·subst D;rfl
  ·have M6:m<as.length:=zZ
   have F:as[m]? =some as[m]:=List.getElem?_eq_getElem M6
   have H:=((Al R F).key sp k).2 (h3 m zZ zZ)
   grind
theorem M8(R:jt E call n as mI bit pre fp)(i:Nat): ∀r,i≤r→r≤as.length→(∀j,i≤j→j<r→(fp j).all=false)→(pre r).sh.length=(pre i).sh.length:=by
 intro r h1
 induction r with
 |zero=>grind
 |succ m ih=>
  intro h2 h3
  by_cases D:i=m+1
  ·subst D;rfl
  ·have M6:m<as.length:=zZ
   have F:as[m]? =some as[m]:=List.getElem?_eq_getElem M6
   have H:=(Al R F).len.2 (h3 m zZ zZ)
   grind
theorem either(R:jt E call n as mI bit pre fp){i j:Nat}{a r:aF}(hi:as[i]? =some a)(F:as[j]? =some r)(H:i≠j):
  ((j<i∧bit i j=true)∨(i<j∧bit j i=true))∨((fH a r=true∨fH r a=true)∧(quiet a.op=true∨quiet r.op=true∨Ev.apart (fp i) (fp j)=true∨Ev.apart (fp j) (fp i)=true)):=by
 rcases Nat.lt_or_gt_of_ne H with h|h
 ·cases D:bit j i with
  |true=>grind
  |false=>
   refine .inr ⟨.inl (R.slots j r i a F hi h D), ?_⟩
   cases h1:quiet a.op
   ·cases h2:quiet r.op
    ·exact .inr (.inr (.inl (R.apart j r i a F hi h D h2 h1)))
    ·grind
   ·exact .inl rfl
 ·cases D:bit i j with
  |true=>grind
  |false=>
   refine .inr ⟨.inr (R.slots i a j r hi F h D), ?_⟩
   cases h1:quiet a.op
   ·cases h2:quiet r.op
    ·exact .inr (.inr (.inr (R.apart i a j r hi F h D h1 h2)))
    ·grind
   ·exact .inl rfl
theorem BY{x y:aF}(h:fH x y=true∨fH y x=true){t:Nat}:(x.d=some t→t∉looks y∧y.d≠some t):=by
 grind [fH]
theorem qU{xs r:List (Sp×Nat)}(h:eu xs r=true){κ:Sp×Nat}(h1:κ∈xs)(h2:κ∈r):False:=by
 grind [eu]
theorem wK{xs:List (Sp×Nat)}(h:Gn xs=true){k:Nat}(h1:(Sp.S,k)∈xs):False:=by
 grind [Gn]
theorem UL{x y:FP}(h:Ev.apart x y=true∨Ev.apart y x=true){sp:Sp}{k:Nat}(D:wrote y sp k):(sp,k)∉x.r∧(sp,k)∉x.w∧ ¬(x.all=true∧sp= .S):=by
 rcases h with h|h <;> unfold Ev.apart at h <;> simp only[Bool.and_eq_true,Bool.or_eq_true,Bool.not_eq_true']at h <;> obtain⟨⟨⟨⟨a1,a2⟩,F⟩,a4⟩,a5⟩:=h
 ·rcases D with D|⟨D,rfl⟩
  ·refine⟨fun e=>qU F e D,fun e=>qU a2 e D,fun e=> ?_⟩
   grind [wK]
  ·rcases a5 with a5|a5
   ·grind
   ·refine⟨fun e=>wK a5.1 e,fun e=>wK a5.2 e,fun e=> ?_⟩
    grind
 ·rcases D with D|⟨D,rfl⟩
  ·refine⟨fun e=>qU a1 D e,fun e=>qU a2 D e,fun e=> ?_⟩
   grind [wK]
  ·rcases a4 with a4|a4
   ·grind
   ·refine⟨fun e=>wK a4.1.2 e,fun e=>wK a4.2 e,fun e=> ?_⟩
    grind
theorem UM(R:jt E call n as mI bit pre fp){L:Nat→Prop}(hc:Ak mI L){s:St}(I:Inv as pre fp L s){i:Nat}{a:aF}(hi:as[i]? =some a)(hni: ¬L i)(hpi: ∀ps,mI[i]? =some ps→ ∀p∈ps,L p):
  ∃s',bg E call n a s=some s'∧Inv as pre fp (fun j=>L j∨j=i) s':=by
 have Z:i<as.length:=(List.getElem?_eq_some_iff.1 hi).1
 obtain⟨r1,r2⟩:=R.run i a hi
 have M9: ∀t,(t∈looks a∨a.d=some t)→ ∀(j:Nat) (W:aF),as[j]? =some W→W.d=some t→(L j↔j<i):=by
  intro t ht j W F hd
  have BX:=(List.getElem?_eq_some_iff.1 F).1
  by_cases Y:i=j
  ·subst Y;exact pZ R hc Z BX hni hpi (.inl rfl)
  ·rcases either R hi F Y with h|⟨h,_⟩
   ·grind [pZ]
   grind [BY]
 have En: ∀sp k,((sp,k)∈(fp i).r∨(sp,k)∈(fp i).w∨((fp i).all=true∧sp= .S))→ ∀j,j<as.length→wrote (fp j) sp k→(L j↔j<i):=by
  intro sp k ht j BX hw
  have F:as[j]? =some as[j]:=List.getElem?_eq_getElem BX
  by_cases Y:i=j
  ·grind
  ·rcases either R hi F Y with h|⟨_,h⟩
   ·grind [pZ]
   ·exfalso
    rcases h with h|h|h
    ·obtain⟨q1,q2,q3⟩:=HU h r2
     rcases ht with ht|ht|ht
     ·rw[q2]at ht;simp at ht
     ·rw[q3]at ht;simp at ht
     ·rw[q1]at ht;cases ht.1
    ·obtain⟨q1,q2,q3⟩:=HU h (R.run j _ F).2
     rcases hw with hw|hw
     ·rw[q3]at hw;simp at hw
     ·rw[q1]at hw;cases hw.1
    ·obtain⟨z1,z2,z3⟩:=UL h hw
     rcases ht with ht|ht|ht
     ·exact z1 ht
     ·exact z2 ht
     ·exact z3 ht
 have UN:(fp i).all=true→ ∀j,j<as.length→(fp j).all=true→(L j↔j<i):=by
  intro X j BX D
  exact En .S 0 (.inr (.inr ⟨X,rfl⟩)) j BX (.inr ⟨D,rfl⟩)
 obtain⟨s',e1,e2⟩:=HS (s:=s) r1 r2 (fun t ht=>I.slot t i (Nat.le_of_lt Z) (fun j W F hd=>M9 t (.inl ht) j W F hd))
  (fun sp k ht=>I.key sp k i (Nat.le_of_lt Z) (fun j BX hw=>En sp k (ht.elim .inl fun h=> .inr (.inl h)) j BX hw))
  (fun X=>UK _ _ (fun k=>I.key .S k i (Nat.le_of_lt Z) (fun j BX hw=>En .S k (.inr (.inr ⟨X,rfl⟩)) j BX hw)) (I.len i (Nat.le_of_lt Z) (UN X)))
 refine⟨s',e1,fun t H BR J=> ?_,fun sp k H BR J=> ?_,fun H BR J=> ?_⟩
 ·rw[e2.slot t]
  split
  ·rename_i hd
   have N:i<H:=(J i a hi hd).1 (.inr rfl)
   rw[HV R t (i+1) H N BR]
   intro j W F h1 h2 O
   have hL:=(J j W F O).2 h2
   have:=M9 t (.inr hd) j W F O
   rcases hL with hL|hL
   ·have:=this.1 hL;omega
   ·omega
  ·rename_i hd
   exact I.slot t H BR (fun j W F O=>by
    have:=J j W F O
    constructor
    ·exact fun hL=>this.1 (.inl hL)
    ·intro U
     rcases this.2 U with hL|hL
     ·exact hL
     ·subst hL;rw[hi]at F;simp at F;subst F;exact absurd O hd)
 ·by_cases hw:wrote (fp i) sp k
  ·have N:i<H:=(J i Z hw).1 (.inr rfl)
   rw[(e2.key sp k).1 hw,M7 R sp k (i+1) H N BR]
   intro j h1 h2 V
   have BX:j<as.length:=zZ
   have hL:=(J j BX V).2 h2
   have:=En sp k (hw.elim (fun e=> .inr (.inl e)) fun e=> .inr (.inr e)) j BX V
   rcases hL with hL|hL
   ·have:=this.1 hL;omega
   ·omega
  ·rw[(e2.key sp k).2 hw]
   exact I.key sp k H BR (fun j BX V=>by
    have:=J j BX V
    constructor
    ·exact fun hL=>this.1 (.inl hL)
    ·intro U
     rcases this.2 U with hL|hL
     ·exact hL
     ·subst hL;exact absurd V hw)
 ·cases X:(fp i).all with
  |true=>
   have N:i<H:=(J i Z X).1 (.inr rfl)
   rw[e2.len.1 X,M8 R (i+1) H N BR]
   intro j h1 h2
   cases D:(fp j).all with
   |false=>rfl
   |true=>
    have BX:j<as.length:=zZ
    have hL:=(J j BX D).2 h2
    have:=UN X j BX D
    rcases hL with hL|hL
    ·have:=this.1 hL;omega
    ·omega
  |false=>
   rw[e2.len.2 X]
   exact I.len H BR (fun j BX D=>by
    have:=J j BX D
    constructor
    ·exact fun hL=>this.1 (.inl hL)
    ·intro U
     rcases this.2 U with hL|hL
     ·exact hL
     ·subst hL;rw[X]at D;cases D)
end Go.Ev
namespace Go.Ev
open Go
section
variable{P:Program}{E:Env}{call:jB}{n:Nat}{hs:List Nat}{ops:Array Oper}
theorem ju: ∀{r:List Oper} {as:List aF},dq P hs ops r=some as→as.length=r.length∧ ∀(j:Nat) (o:Oper),r[j]? =some o→ ∃a,as[j]? =some a∧pS P hs ops o=some a
 | [],as,h=>by grind [dq]
 |o::r,as,h=>by
  simp only[dq]at h
  split at h
  ·rename_i a D h1 h2
   simp at h;subst h
   obtain⟨e1,e2⟩:=ju h2
   grind
  ·cases h
theorem UO(O:pd P E)(R:ux P E call){Q:Exit→Act→World→Prop}: ∀(k i:Nat) (as:List aF),i+k=ops.size→dq P hs ops (ops.toList.drop i)=some as→
  ∀{B:eH} {st D:St} {a:Act} {w:World} {β:aN} {M:MSet},aZ B st w β M→iF st a w β M n→ai E call n as st=some D→
  (∀H w' F M',aZ B D w' F M'→iF D H w' F M' n→Tr st w β M D w' F M'→w.heap.size≤w'.heap.size→Q .normal H w')→wpOps P ops Q (List.range' i k) a w
 |0,i,as,MX,hc,B,st,D,a,w,β,M,h,I,r,J=>by
  have V:ops.toList.drop i= []:=List.drop_eq_nil_of_le (by simp;omega)
  rw[V]at hc
  simp[dq]at hc;subst hc
  simp[ai]at r;subst r
  simp only[List.range',wpOps]
  exact J a w β M h I (Tr.refl _ _ _ _) (Nat.le_refl _)
 |k+1,i,as,MX,hc,B,st,D,a,w,β,M,h,I,r,J=>by
  have hi:i<ops.toList.length:=by simp;omega
  rw[List.drop_eq_getElem_cons hi]at hc
  simp only[dq]at hc
  split at hc
  ·rename_i ao N h1 h2
   simp at hc;subst hc
   simp only[ai]at r
   split at r
   ·rename_i eL BP
    rw[List.range'_succ,wpOps_cons]
    refine l8 O R (o:=ops.toList[i]) (by simp at hi ⊢) h1 h I BP ?_
    intro H w' F M' W X Y U
    exact UO O R k (i+1) N zZ h2 W X r (fun a2 Z UP M2 s1 s2 s3 s4=>J a2 Z UP M2 s1 s2 (Y.trans s3 U) (Nat.le_trans U s4))
   ·cases r
  ·cases hc
theorem ahc{B:eH}{s F:St}{w:World}{β:aN}{M:MSet}(r: ∀sp k,F.get sp k=s.get sp k)(h:aZ B s w β M):aZ B F w β M:=by
 have BZ:F.gens=s.gens:=by funext sp k;show(F.get sp k).g=_;rw[r]
 refine⟨fun sp k=>by rw[r,BZ];exact h.obj sp k,fun sp k J k' H I e=> ?_,h.mlt,fun k D=> ?_,fun k D=> ?_,h.os,h.tape,h.output,h.size,h.same,h.keep,h.msup⟩
 ·rw[r]at H I;rw[BZ]at e;exact h.dist sp k J k' H I e
 ·rw[r]at D;rw[BZ];exact h.lblk k D
 ·rw[r]at D;rw[BZ];exact h.sblk k D
theorem ahd{s r:St}{a:Act}{w:World}{β:aN}{M:MSet}(D: ∀sp k,r.get sp k=s.get sp k)(F: ∀t,aa r.fr t=aa s.fr t)(h:iF s a w β M n):iF r a w β M n:=by
 have BZ:r.gens=s.gens:=by funext sp k;show(r.get sp k).g=_;rw[D]
 exact⟨h.size,h.defers,fun t=>by rw[BZ,F];exact h.slot t⟩
theorem UQ{st s r:St}{w w':World}{β aW:aN}{M M':MSet}(D: ∀sp k,r.get sp k=s.get sp k)(h:Tr st w β M s w' aW M'):Tr st w β M r w' aW M':=by
 have BZ:r.gens=s.gens:=by funext sp k;show(r.get sp k).g=_;rw[D]
 exact⟨h.keep,h.beta,by rw[BZ];exact h.gens⟩
theorem ajI(hE:pd P E)(hO:ux P E call){Q:Exit→Act→World→Prop}{as:List aF}{bit:Nat→Nat→Bool}{pre:Nat→St}{fp:Nat→FP}(hc:dq P hs ops ops.toList=some as)
  (R:jt E call n as (ops.toList.map cu) bit pre fp) {B:eH} {st:St} {w:World} {β:aN} {M:MSet}:
  ∀(D:Nat) (r:Array Bool) (s:St) (a:Act) (F:World) (Gs:aN) (M1:MSet),r.size=ops.size→((List.range ops.size).filter fun i=> !r.getD i true).length≤D→Ak (ops.toList.map cu) (fun j=>r.getD j false=true)→
   Inv as pre fp (fun j=>r.getD j false=true) s→aZ B s F Gs M1→iF s a F Gs M1 n→Tr st w β M s F Gs M1→w.heap.size≤F.heap.size→
   (∀O w' N M',aZ B (pre as.length) w' N M'→iF (pre as.length) O w' N M' n→Tr st w β M (pre as.length) w' N M'→w.heap.size≤w'.heap.size→Q .normal O w')→
   wpAny P .any ops Q D r a F:=by
 obtain⟨hlen,Am⟩:=ju hc
 have UR:as.length=ops.size:=by simpa using hlen
 have done: ∀(r:Array Bool) (s:St) (a:Act) (F:World) (Gs:aN) (M1:MSet),r.size=ops.size→Ak (ops.toList.map cu) (fun j=>r.getD j false=true)→Inv as pre fp (fun j=>r.getD j false=true) s→aZ B s F Gs M1→iF s a F Gs M1 n→Tr st w β M s F Gs M1→w.heap.size≤F.heap.size→
   (∀O w' N M',aZ B (pre as.length) w' N M'→iF (pre as.length) O w' N M' n→Tr st w β M (pre as.length) w' N M'→w.heap.size≤w'.heap.size→Q .normal O w')→Region.ready .any ops r= []→Q .normal a F:=by
  intro r s a F Gs M1 hls J I h W X H Y hr
  have all: ∀j,j<ops.size→r.getD j false=true:=by
   intro j
   induction j using Nat.strongRecOn with
   |_ j ih=>
    intro hj
    cases hb:r.getD j false with
    |true=>rfl
    |false=>
     exfalso
     have:j∈Region.ready .any ops r:=by
      unfold Region.ready
      rw[List.mem_filter]
      refine⟨List.mem_range.2 hj, ?_⟩
      have h1:r.getD j true=false:=by
       grind
      rw[h1]
      simp only[Bool.not_false,Bool.true_and]
      have Z:ops[j]? =some ops[j]:=Array.getElem?_eq_getElem hj
      rw[Z]
      simp only[Option.map_some,Option.getD_some]
      rw[←Array.all_toList,List.all_eq_true]
      intro e he
      cases qV:Region.binds .any e with
      |false=>rfl
      |true=>
       simp only[Bool.not_true,Bool.false_or]
       have abd:e.on∈cu ops[j]:=by
        unfold cu
        exact List.mem_map.2 ⟨e,List.mem_filter.2 ⟨he,qV⟩,rfl⟩
       have hpj:(ops.toList.map cu)[j]? =some (cu ops[j]):=by simp[Z]
       have hlt:=R.edges j _ hpj e.on abd
       exact ih e.on hlt zZ
     grind
  have cond: ∀j,j<as.length→(r.getD j false=true↔j<as.length):=fun j hj=>⟨fun _=>hj,fun _=>all j zZ⟩
  have g1: ∀sp k,(pre as.length).get sp k=s.get sp k:=fun sp k=>(I.key sp k as.length (Nat.le_refl _) (fun j hj _=>cond j hj)).symm
  have g2: ∀t,aa (pre as.length).fr t=aa s.fr t:=fun t=>(I.slot t as.length (Nat.le_refl _) (fun j a hj _=>cond j (List.getElem?_eq_some_iff.1 hj).1)).symm
  exact Y a F Gs M1 (ahc g1 h) (ahd g1 g2 W) (UQ g1 X) H
 intro D
 induction D with
 |zero=>
  intro r s a F Gs M1 hls aBw J I h W X H Y
  have hr:Region.ready .any ops r= []:=by
   simp_all[Region.ready,List.filter_eq_nil_iff,Bool.and_eq_true,List.eq_nil_of_length_eq_zero]
  exact⟨hr,done r s a F Gs M1 hls J I h W X H Y hr⟩
 |succ D ih=>
  intro r s a F Gs M1 hls aBw J I h W X H Y
  refine⟨done r s a F Gs M1 hls J I h W X H Y,fun i hi=> ?_⟩
  unfold Region.ready at hi
  rw[List.mem_filter]at hi
  obtain⟨hir,B3⟩:=hi
  have lO:i<ops.size:=List.mem_range.1 hir
  have Z:ops[i]? =some ops[i]:=Array.getElem?_eq_getElem lO
  rw[Z]at B3
  simp only[Bool.and_eq_true,Bool.not_eq_true',Option.map_some,Option.getD_some]at B3
  obtain⟨B4,B5⟩:=B3
  have U:i<r.size:=zZ
  have KG: ¬(r.getD i false=true):=by
   simp[Array.getD_eq_getD_getElem?,Array.getElem?_eq_getElem U]at B4 ⊢; exact B4
  have avj: ∀ps,(ops.toList.map cu)[i]? =some ps→ ∀p∈ps,r.getD p false=true:=by
   intro ps jY p hp
   simp[Z]at jY;subst jY
   unfold cu at hp
   obtain⟨e,he,rfl⟩:=List.mem_map.1 hp
   obtain⟨BP,ZP⟩:=List.mem_filter.1 he
   rw[←Array.all_toList,List.all_eq_true]at B5
   have:=B5 e BP
   simpa[ZP]using this
  obtain⟨ao,hao,jR⟩:=Am i ops[i] zP
  obtain⟨s',he,I'⟩:=UM R J I hao KG avj
  refine l8 hE hO Z jR h W he ?_
  intro O w' N M' r1 r2 r3 r4
  have HL: ∀j,(r.setIfInBounds i true).getD j false=true↔(r.getD j false=true∨j=i):=by
   intro j
   simp only[Array.getD_eq_getD_getElem?,Array.getElem?_setIfInBounds]
   by_cases hj:i=j
   ·subst hj;simp[U]
   ·rw[if_neg hj]
    exact⟨.inl,fun e=>e.resolve_right (fun e=>hj e.symm)⟩
  refine ih (r.setIfInBounds i true) s' O w' N M' (by simp[hls]) ?_ ?_ ?_ r1 r2 (X.trans r3 H) (Nat.le_trans H r4) Y
  ·have hfe:(List.range ops.size).filter (fun j=> !(r.setIfInBounds i true).getD j true)=((List.range ops.size).filter (fun j=> !r.getD j true)).filter (fun j=>decide (j≠i)):=by
    rw[List.filter_filter]
    apply List.filter_congr
    intro j hj
    simp only[Array.getD_eq_getD_getElem?,Array.getElem?_setIfInBounds]
    by_cases V:i=j
    ·subst V;simp[U]
    ·have: ¬j=i:=fun e=>V e.symm
     rw[if_neg V];simp[this]
   rw[hfe]
   have hlt:(((List.range ops.size).filter (fun j=> !r.getD j true)).filter (fun j=>decide (j≠i))).length<((List.range ops.size).filter (fun j=> !r.getD j true)).length:=by
    rw[List.length_filter_lt_length_iff_exists]
    exact⟨i,List.mem_filter.2 ⟨hir,by rw[B4];rfl⟩,by simp⟩
   omega
  ·intro j ps jY hj p hp
   rw[HL]at hj ⊢
   rcases hj with hj|hj
   ·exact .inl (J j ps jY hj p hp)
   ·subst hj;exact .inl (avj ps jY p hp)
  ·have:(fun j=>(r.setIfInBounds i true).getD j false=true)=(fun j=>r.getD j false=true∨j=i):=by funext j;exact propext (HL j)
   rw[this];exact I'
end
end Go.Ev
namespace Go.Ev
open Go
def ajK:Out→Exit
 | .nrm=> .normal
 | .ext id=> .exit id
 | .ret=> .ret
section
variable{P:Program}{E:Env}{call:jB}{n:Nat}{hs:List Nat}
theorem US{l:List Nat}{j:Nat}(h:j<l.length):l[j]? =some (aH 0 l j):=by
 induction l generalizing j with
 |nil=>simp at h
 |cons x xs ih=>
  cases j with
  |zero=>rfl
  |succ j=>grind [aH]
theorem UT(hE:pd P E)(hO:ux P E call)(hm:P.follows .mixedOrders=true){id:Nat}{ops:Array Oper}{as:List aF}(hc:dq P hs ops ops.toList=some as)(BP:tX 0 (ops.toList.map cu)=true)(ZP:tY (lr (ops.toList.map cu) []) [] as=true)
  {B:eH} {st J:St} {a:Act} {w:World} {β:aN} {M:MSet} (h:aZ B st w β M) (V:iF st a w β M n) (W:aK E call n (ni (lr (ops.toList.map cu) []) [] as) [] st=some J) {Q:Exit→Act→World→Prop}
  (hq: ∀I w' X M',aZ B J w' X M'→iF J I w' X M' n→Tr st w β M J w' X M'→w.heap.size≤w'.heap.size→Q .normal I w'):(Code.region id ops true).wp P Q a w:=by
 obtain⟨F,Am⟩:=ju hc
 obtain⟨m1,m2,m3⟩:=Ah (ops.toList.map cu) []
 have M6:(lr (ops.toList.map cu) []).length=as.length:=by rw[m1,F];simp
 obtain⟨pre,fp,Y,p2,p3⟩:=Aj as [] _ [] st J rfl M6 W
 have H: ∀j,j<as.length→(lr (ops.toList.map cu) [])[j]? =some (aH 0 (lr (ops.toList.map cu) []) j):=fun j r=>US (by rw[M6];exact r)
 have Z:=uz _ 0 BP
 have R:jt E call n as (ops.toList.map cu) (fun j i=>(aH 0 (lr (ops.toList.map cu) []) j).testBit i) pre fp:=by
  refine⟨by rw[F];simp,fun j U r p hp=>by have:=Z j U r p hp;omega,fun j U r i=> ?_,fun j I r=> ?_,fun j a1 k a2 r hk D hb=> ?_,fun j a1 k a2 r hk D hb hq1 PS=> ?_⟩
  ·have:=m3 j U r i
   simp only[List.length_nil,Nat.zero_add]at this
   grind
  ·obtain⟨e1,e2,_⟩:=p3 j I _ r (H j (List.getElem?_eq_some_iff.1 r).1)
   grind
  ·exact uA as [] _ ZP j a1 r _ (H j (List.getElem?_eq_some_iff.1 r).1) k a2 (by simpa using D) (by simpa using hk) hb
  ·obtain⟨_,_,e3⟩:=p3 j a1 _ r (H j (List.getElem?_eq_some_iff.1 r).1)
   simp_all
 obtain⟨d1,d2⟩:=Eb h (w.drawn+1)
 refine wp_region_any hm ?_
 have N: ∀j,((Array.replicate ops.size false).getD j false=true)↔False:=by
  intro j
  simp only[Array.getD_eq_getD_getElem?,Array.getElem?_replicate]
  split <;> simp
 have hI:Inv as pre fp (fun j=>(Array.replicate ops.size false).getD j false=true) st:=by
  have aBz:(fun j=>(Array.replicate ops.size false).getD j false=true)=fun _=>False:=by funext j;exact propext (N j)
  rw[aBz]
  refine⟨fun t i hi O=> ?_,fun sp k i hi O=> ?_,fun i hi O=> ?_⟩
  ·rw[HV R t 0 i (Nat.zero_le _) hi (fun j I r _ D hd=>(O j I r hd).2 D),Y]
  ·rw[M7 R sp k 0 i (Nat.zero_le _) hi (fun j _ D hw=>(O j zZ hw).2 D),Y]
  ·rw[M8 R 0 i (Nat.zero_le _) hi (fun j _ D=>by
    cases hal:(fp j).all with
    |false=>rfl
    |true=>exact((O j zZ hal).2 D).elim),Y]
 refine ajI (st:=st) (w:=w) (β:=β) (M:=M) hE hO hc R ops.size _ st a _ β M zP ?_ ?_ hI d1 ⟨V.size,V.defers,fun t=>d2.val (V.slot t)⟩ d2 (Nat.le_refl _) ?_
 ·exact Nat.le_trans (List.length_filter_le _ _) zP
 ·intro j U _ r
  exact((N j).1 r).elim
 grind
theorem eP{ops:Array Oper}{L:Array Bool}{i:Nat}(hi:i<ops.size):i∈Region.ready .any ops L↔L.getD i true=false∧ ∀p∈cu ops[i],L.getD p false=true:=by
 have r:ops[i]? =some ops[i]:=Array.getElem?_eq_getElem hi
 unfold Region.ready
 rw[List.mem_filter,List.mem_range,r]
 simp only[Bool.and_eq_true,Bool.not_eq_true',Option.map_some,Option.getD_some,hi,true_and]
 refine and_congr_right fun _=> ?_
 rw[←Array.all_toList,List.all_eq_true]
 grind [cu]
theorem nk{ops:Array Oper}{L:Array Bool}{i:Nat}(h:i∈Region.ready .any ops L):i<ops.size:=by
 grind [Region.ready]
theorem eX{o:aF}{r:List aF}{st s:St}(h:ai E call n (o::r) st=some s): ∃t,bg E call n o st=some t∧ai E call n r t=some s:=by
 grind [ai]
theorem abe(hE:pd P E)(hO:ux P E call)(hm:P.follows .mixedOrders=true){id:Nat}{ops:Array Oper}{o0 o1 o2 o3:aF}(hc:dq P hs ops ops.toList=some [o0,o1,o2,o3])(D:Ea (ops.toList.map cu)=true)
  {B:eH} {st s1 s2:St} {a:Act} {w:World} {β:aN} {M:MSet} (h:aZ B st w β M) (hf:iF st a w β M n) (e1:ai E call n [o0,o1,o2,o3] st=some s1) (e2:ai E call n [o0,o2,o1,o3] st=some s2) {Q:Exit→Act→World→Prop}
  (q1: ∀H w' r M',aZ B s1 w' r M'→iF s1 H w' r M' n→Tr st w β M s1 w' r M'→w.heap.size≤w'.heap.size→Q .normal H w')
  (q2: ∀H w' r M',aZ B s2 w' r M'→iF s2 H w' r M' n→Tr st w β M s2 w' r M'→w.heap.size≤w'.heap.size→Q .normal H w'):(Code.region id ops true).wp P Q a w:=by
 obtain⟨hlen,Am⟩:=ju hc
 have hsz:ops.size=4:=by simpa using hlen.symm
 obtain⟨t0,f0,e1⟩:=eX e1
 obtain⟨t1,f1,e1⟩:=eX e1
 obtain⟨t2,f2,e1⟩:=eX e1
 obtain⟨t3,f3,e1⟩:=eX e1
 simp only[ai,Option.some.injEq]at e1
 subst e1
 obtain⟨t0',g0,e2⟩:=eX e2
 obtain⟨u1,g1,e2⟩:=eX e2
 obtain⟨u2,g2,e2⟩:=eX e2
 obtain⟨u3,g3,e2⟩:=eX e2
 simp only[ai,Option.some.injEq]at e2
 subst e2
 rw[f0]at g0
 injection g0 with g0
 subst g0
 have ew: ∀j (hj:j<ops.size) (ao:aF),[o0,o1,o2,o3][j]? =some ao→pS P hs ops ops[j]=some ao:=by
  intro j hj ao hao
  obtain⟨x,hx,hy⟩:=Am j ops[j] zP
  grind
 have jY: ∃p1 p2 X,ops.toList.map cu= [[],p1,p2,X]∧0∈p1∧0∈p2∧(∀x∈p1,x<1)∧(∀x∈p2,x<1)∧1∈X∧2∈X∧ ∀x∈X,x<3:=by
  unfold Ea at D
  grind
 obtain⟨p1,p2,X,aH5,a1,a2,b1,b2,c1,c2,c3⟩:=jY
 have O: ∀j (hj:j<ops.size) (ps:List Nat),[[],p1,p2,X][j]? =some ps→cu ops[j]=ps:=by
  grind
 have R:0<ops.size:=zZ
 have F:1<ops.size:=zZ
 have J:2<ops.size:=zZ
 have U:3<ops.size:=zZ
 have r0:=O 0 R [] rfl
 have r1:=O 1 F p1 rfl
 have r2:=O 2 J p2 rfl
 have r3:=O 3 U X rfl
 obtain⟨d1,d2⟩:=Eb h (w.drawn+1)
 refine wp_region_any hm ?_
 rw[hsz]
 have base:iF st a {w with drawn:=w.drawn+1} β M n:=⟨hf.size,hf.defers,fun t=>d2.val (hf.slot t)⟩
 have sz0:w.heap.size≤{w with drawn:=w.drawn+1}.heap.size:=Nat.le_refl _
 have W: ∀(t s:St),bg E call n o3 t=some s→(∀H w' r M',aZ B s w' r M'→iF s H w' r M' n→Tr st w β M s w' r M'→w.heap.size≤w'.heap.size→Q .normal H w')→
   ∀H w' r M',aZ B t w' r M'→iF t H w' r M' n→Tr st w β M t w' r M'→w.heap.size≤w'.heap.size→wpAny P .any ops Q 1 #[true,true,true,false] H w':=by
  intro t s he hq H w' r M' x1 x2 x3 x4
  refine⟨fun hr=> ?_,fun i hi=> ?_⟩
  ·have:3∈Region.ready .any ops #[true,true,true,false]:=(eP U).2 ⟨rfl,fun p D=>by
    rw[r3]at D
    have:=c3 p D
    have:p=0∨p=1∨p=2:=zZ
    rcases this with rfl|rfl|rfl <;> rfl⟩
   rw[hr]at this;cases this
  ·have N:=nk hi
   obtain⟨I,_⟩:=(eP N).1 hi
   have:i=0∨i=1∨i=2∨i=3:=zZ
   rcases this with rfl|rfl|rfl|rfl
   ·cases I
   ·cases I
   ·cases I
   ·refine l8 hE hO (o:=ops[3]) (Array.getElem?_eq_getElem U) (ew 3 U o3 rfl) x1 x2 he ?_
    intro a2 w2 UP M2 z1 z2 z3 Y
    have ZT:Region.ready .any ops (#[true,true,true,false].setIfInBounds 3 true)= []:=by
     rw[List.eq_nil_iff_forall_not_mem]
     intro i hi
     have N:=nk hi
     obtain⟨I,_⟩:=(eP N).1 hi
     have:i=0∨i=1∨i=2∨i=3:=zZ
     rcases this with rfl|rfl|rfl|rfl <;> cases I
    exact⟨ZT,hq a2 w2 UP M2 z1 z2 (x3.trans z3 x4) (Nat.le_trans x4 Y)⟩
 refine⟨fun hr=> ?_,fun i hi=> ?_⟩
 ·have:0∈Region.ready .any ops (Array.replicate 4 false):=(eP R).2 ⟨rfl,fun p D=>by rw[r0]at D;cases D⟩
  rw[hr]at this;cases this
 ·have N:=nk hi
  obtain⟨I,V⟩:=(eP N).1 hi
  have:i=0∨i=1∨i=2∨i=3:=zZ
  rcases this with rfl|rfl|rfl|rfl
  ·refine l8 hE hO (o:=ops[0]) (Array.getElem?_eq_getElem R) (ew 0 R o0 rfl) d1 base f0 ?_
   intro H w' r M' x1 x2 x3 x4
   have x3':Tr st w β M t0 w' r M':=d2.trans x3 sz0
   show wpAny P .any ops Q 3 #[true,false,false,false] H w'
   refine⟨fun hr=> ?_,fun i hi=> ?_⟩
   ·have:1∈Region.ready .any ops #[true,false,false,false]:=(eP F).2 ⟨rfl,fun p D=>by
     rw[r1]at D
     have:=b1 p D
     have:p=0:=zZ
     subst this;rfl⟩
    rw[hr]at this;cases this
   ·have N:=nk hi
    obtain⟨I,V⟩:=(eP N).1 hi
    have:i=0∨i=1∨i=2∨i=3:=zZ
    rcases this with rfl|rfl|rfl|rfl
    ·cases I
    ·refine l8 hE hO (o:=ops[1]) (Array.getElem?_eq_getElem F) (ew 1 F o1 rfl) x1 x2 f1 ?_
     intro a2 w2 UP M2 z1 z2 z3 Y
     have Z:=x3'.trans z3 x4
     show wpAny P .any ops Q 2 #[true,true,false,false] a2 w2
     refine⟨fun hr=> ?_,fun i hi=> ?_⟩
     ·have:2∈Region.ready .any ops #[true,true,false,false]:=(eP J).2 ⟨rfl,fun p D=>by
       rw[r2]at D
       have:=b2 p D
       have:p=0:=zZ
       subst this;rfl⟩
      rw[hr]at this;cases this
     ·have N:=nk hi
      obtain⟨I,V⟩:=(eP N).1 hi
      have:i=0∨i=1∨i=2∨i=3:=zZ
      rcases this with rfl|rfl|rfl|rfl
      ·cases I
      ·cases I
      ·refine l8 hE hO (o:=ops[2]) (Array.getElem?_eq_getElem J) (ew 2 J o2 rfl) z1 z2 f2 ?_
       intro a3 w3 β3 M3 v1 v2 v3 v4
       exact W t2 t3 f3 q1 a3 w3 β3 M3 v1 v2 (Z.trans v3 (Nat.le_trans x4 Y)) (Nat.le_trans x4 (Nat.le_trans Y v4))
      ·have:=V 2 (by rw[r3];exact c2);cases this
    ·refine l8 hE hO (o:=ops[2]) (Array.getElem?_eq_getElem J) (ew 2 J o2 rfl) x1 x2 g1 ?_
     intro a2 w2 UP M2 z1 z2 z3 Y
     have Z:=x3'.trans z3 x4
     show wpAny P .any ops Q 2 #[true,false,true,false] a2 w2
     refine⟨fun hr=> ?_,fun i hi=> ?_⟩
     ·have:1∈Region.ready .any ops #[true,false,true,false]:=(eP F).2 ⟨rfl,fun p D=>by
       rw[r1]at D
       have:=b1 p D
       have:p=0:=zZ
       subst this;rfl⟩
      rw[hr]at this;cases this
     ·have N:=nk hi
      obtain⟨I,V⟩:=(eP N).1 hi
      have:i=0∨i=1∨i=2∨i=3:=zZ
      rcases this with rfl|rfl|rfl|rfl
      ·cases I
      ·refine l8 hE hO (o:=ops[1]) (Array.getElem?_eq_getElem F) (ew 1 F o1 rfl) z1 z2 g2 ?_
       intro a3 w3 β3 M3 v1 v2 v3 v4
       exact W u2 u3 g3 q2 a3 w3 β3 M3 v1 v2 (Z.trans v3 (Nat.le_trans x4 Y)) (Nat.le_trans x4 (Nat.le_trans Y v4))
      ·cases I
      ·have:=V 1 (by rw[r3];exact c1);cases this
    ·have:=V 1 (by rw[r3];exact c1);cases this
  ·have:=V 0 (by rw[r1];exact a1);cases this
  ·have:=V 0 (by rw[r2];exact a2);cases this
  ·have:=V 1 (by rw[r3];exact c1);cases this
theorem nl(ks:List Nat)(f:Fr)(j:Nat):aa (tW ks f) j=if j∈ks then .any else aa f j:=by
 induction ks with
 |nil=>simp[tW]
 |cons k ks ih=>
  grind [tW,kY]
theorem C3(ks:List Nat)(l r:aE ah)(j:Nat):aE.get eB (zI ks l r) j=if j∈ks then⟨max (aE.get eB l j).g (aE.get eB r j).g,.none⟩else aE.get eB l j:=by
 induction ks with
 |nil=>simp[zI]
 |cons k ks ih=>
  grind [zI,aE.get_set]
theorem qa(ks:List Nat)(s t:St)(sp:Sp)(k:Nat):(mZ ks s t).get sp k=if sp= .L∧k∈ks then⟨max (s.get sp k).g (t.get sp k).g,.none⟩else s.get sp k:=by
 cases sp with
 |S=>rw[if_neg zP];rfl
 |L=>
  show aE.get eB (zI ks s.lh t.lh) k=_
  rw[C3]
  by_cases h:k∈ks
  ·rw[if_pos h,if_pos ⟨rfl,h⟩];rfl
  ·rw[if_neg h,if_neg (by simp[h])];rfl
theorem wL(ks:List Nat)(s t:St)(sp:Sp)(k:Nat):s.gens sp k≤(mZ ks s t).gens sp k:=by
 show(s.get sp k).g≤((mZ ks s t).get sp k).g
 rw[qa]
 grind
theorem nn{ks:List Nat}{s t:St}{sp:Sp}{k:Nat}(h:live ((mZ ks s t).get sp k)):(mZ ks s t).get sp k=s.get sp k∧live (s.get sp k):=by
 rw[qa]at h ⊢
 split at h
 ·exact h.elim
 ·grind
theorem oG{ks:List Nat}{s t:St}{sp:Sp}{k:Nat}(h:live ((mZ ks s t).get sp k)):(mZ ks s t).gens sp k=s.gens sp k:=by
 show((mZ ks s t).get sp k).g=(s.get sp k).g
 rw[(nn h).1]
theorem UU(ks:List Nat)(t:St){B:eH}{s:St}{w:World}{β:aN}{M:MSet}(h:aZ B s w β M):aZ B (mZ ks s t) w β M:=by
 refine⟨fun sp k=> ?_,fun sp k H k' D F e=> ?_,h.mlt,fun k r=> ?_,fun k r=> ?_,h.os,h.tape,h.output,h.size,h.same,h.keep,h.msup⟩
 ·rw[qa]
  split
  ·unfold dF;trivial
  ·exact dF.mono (dr.refl w M) (fun _ _ _ _=>rfl) (wL ks s t) (Nat.le_refl _) (fun _=>rfl) (fun _ _ h=>h) (h.obj sp k)
 ·rw[oG D,oG F]at e;exact h.dist sp k H k' (nn D).2 (nn F).2 e
 ·rw[oG r];exact h.lblk k (nn r).2
 ·rw[oG r];exact h.sblk k (nn r).2
theorem UW(ks:List Nat)(t:St){s:St}{a:Act}{w:World}{β:aN}{M:MSet}(h:iF s a w β M n):iF (mZ ks s t) a w β M n:=by
 refine⟨h.size,h.defers,fun i=> ?_⟩
 show aq β (mZ ks s t).gens w M (aa (tW ks s.fr) i) _
 rw[nl]
 split
 ·simp only[aq]
 ·exact aq.mono (dr.refl w M) (fun _ _ _ _=>rfl) (wL ks s t) _ _ (h.slot i)
theorem UX(ks:List Nat)(t:St){st s:St}{w w':World}{β aW:aN}{M M':MSet}(h:Tr st w β M s w' aW M'):Tr st w β M (mZ ks s t) w' aW M':=⟨h.keep,h.beta,fun sp k=>Nat.le_trans (h.gens sp k) (wL ks s t sp k)⟩
theorem An{ks:List Nat}{s t:St}(h:zJ ks s t)(sp:Sp)(k:Nat):(mZ ks s t).get sp k=(mZ ks t s).get sp k:=by
 obtain⟨h1,_,h4⟩:=h
 cases sp with
 |S=>show aI s.sh k=aI t.sh k;rw[h1]
 |L=>
  rw[qa,qa]
  by_cases hk:k∈ks
  ·grind
  ·rw[if_neg (by simp[hk]),if_neg (by simp[hk])]
   exact h4 k hk
theorem abf{ks:List Nat}{s t:St}(h:zJ ks s t)(k:Nat):aa (mZ ks s t).fr k=aa (mZ ks t s).fr k:=by
 show aa (tW ks s.fr) k=aa (tW ks t.fr) k
 rw[nl,nl]
 split
 ·rfl
 ·rename_i hk;exact h.2.1 k hk
theorem sF{ks:List Nat}{F H:Option (Out×St)}{o:Out}{s:St}(h:MN ks F H=some (o,s)): ∃r D,F=some (o,r)∧H=some (o,D)∧zJ ks r D∧s=mZ ks r D:=by
 unfold MN at h
 grind
theorem HX(a:Code)(D r:ak):MO P hs a D r= .seq D r∨ ∃id ops F H I J,a= .region id ops true∧dq P hs ops ops.toList=some [F,H,I,J]∧Ea (ops.toList.map cu)=true∧MO P hs a D r= .fork [F,H,I,J] [F,I,H,J] r:=by
 unfold MO
 grind
theorem ajN(hE:pd P E)(hO:ux P E call)(hm:P.follows .mixedOrders=true)(fl:Nat): ∀(c:Code) (ac:ak),ga P hs c=some ac→
  ∀{B:eH} {st V:St} {a:Act} {w:World} {β:aN} {M:MSet} {o:Out},aZ B st w β M→iF st a w β M n→fG E call fl n ac st=some (o,V)→ ∀{Q:Exit→Act→World→Prop},
  (∀J w' N M',aZ B V w' N M'→iF V J w' N M' n→Tr st w β M V w' N M'→w.heap.size≤w'.heap.size→Q (ajK o) J w')→c.wp P Q a w:=by
 intro c
 induction c with
 |skip=>
  intro ac hc B st V a w β M o h F r Q D
  simp[ga]at hc;subst hc
  simp[fG]at r;obtain⟨rfl,rfl⟩:=r
  exact wp_skip (D a w β M h F (Tr.refl _ _ _ _) (Nat.le_refl _))
 |region id ops draw=>
  intro ac hc B st V a w β M o h F r Q D
  cases draw with
  |false=>
   simp only[ga,Option.map_eq_some_iff]at hc
   obtain⟨as,h1,rfl⟩:=hc
   simp only[fG,Option.map_eq_some_iff]at r
   obtain⟨Y,h2,h3⟩:=r
   simp at h3;obtain⟨rfl,rfl⟩:=h3
   refine wp_region ?_
   rw[List.range_eq_range']
   exact UO hE hO ops.size 0 as zZ (by simpa using h1) h F h2 D
  |true=>
   simp only[ga]at hc
   split at hc
   ·rename_i as h1
    split at hc
    ·rename_i hcc
     simp only[Bool.and_eq_true]at hcc
     simp at hc;subst hc
     simp only[fG,Option.map_eq_some_iff]at r
     obtain⟨Y,h2,h3⟩:=r
     simp at h3;obtain⟨rfl,rfl⟩:=h3
     exact UT hE hO hm h1 hcc.1 hcc.2 h F h2 D
    ·cases hc
   ·cases hc
 |seq x y W X=>
  intro ac hc B st V a w β M o h F r Q D
  simp only[ga]at hc
  split at hc
  ·rename_i H ay h1 h2
   simp only[Option.some.injEq]at hc
   rcases HX (P:=P) (hs:=hs) x H ay with hj|⟨id,ops,o0,o1,o2,o3,rfl,jR,Ao,hj⟩
   rotate_left
   ·rw[hj]at hc
    subst hc
    simp only[fG]at r
    split at r
    ·rename_i s1 s2 e1 e2
     obtain⟨t1,t2,g1,g2,rZ,rfl⟩:=sF r
     refine wp_seq ?_
     refine abe hE hO hm jR Ao h F e1 e2 ?_ ?_
     ·intro J w' N M' O R U I
      exact X ay h2 O R g1 (fun a2 w2 UP M2 z1 z2 z3 z4=>D a2 w2 UP M2 (UU _ _ z1) (UW _ _ z2) (UX _ _ (U.trans z3 I)) (Nat.le_trans I z4))
     ·intro J w' N M' O R U I
      exact X ay h2 O R g2 (fun a2 w2 UP M2 z1 z2 z3 z4=>D a2 w2 UP M2 (ahc (An rZ) (UU _ _ z1)) (ahd (An rZ) (abf rZ) (UW _ _ z2)) (UQ (An rZ) (UX _ _ (U.trans z3 I))) (Nat.le_trans I z4))
    ·cases r
   rw[hj]at hc
   subst hc
   simp only[fG]at r
   refine wp_seq ?_
   cases hx:fG E call fl n H st with
   |none=>simp[hx]at r
   |some p=>
    obtain⟨ox,Y⟩:=p
    cases ox with
    |nrm=>
     simp only[hx]at r
     refine W H h1 h F hx ?_
     intro J w' N M' O R U I
     exact X ay h2 O R r (fun a2 w2 UP M2 s1 s2 s3 s4=>D a2 w2 UP M2 s1 s2 (U.trans s3 I) (Nat.le_trans I s4))
    |ext id=>
     simp[hx]at r;obtain⟨rfl,rfl⟩:=r
     exact W H h1 h F hx D
    |ret=>
     simp[hx]at r;obtain⟨rfl,rfl⟩:=r
     exact W H h1 h F hx D
  ·cases hc
 |cond c x y W X=>
  intro ac hc B st V a w β M o h F r Q D
  simp only[ga]at hc
  split at hc
  ·rename_i c' H ay h0 h1 h2
   simp at hc;subst hc
   simp only[fG]at r
   have vc:=Uq F c c' h0
   split at r
   ·rename_i e
    rw[e]at vc
    exact wp_cond_true vc.bool (W H h1 h F r D)
   ·rename_i e
    rw[e]at vc
    exact wp_cond_false vc.bool (X ay h2 h F r D)
   ·cases r
  ·cases hc
 |block id x ih=>
  intro ac hc B st V a w β M o h F r Q D
  simp only[ga,Option.map_eq_some_iff]at hc
  obtain⟨H,h1,rfl⟩:=hc
  simp only[fG]at r
  refine wp_block ?_
  cases hx:fG E call fl n H st with
  |none=>simp[hx]at r
  |some p=>
   obtain⟨ox,Y⟩:=p
   cases ox with
   |nrm=>simp[hx]at r;obtain⟨rfl,rfl⟩:=r;exact ih H h1 h F hx D
   |ret=>simp[hx]at r;obtain⟨rfl,rfl⟩:=r;exact ih H h1 h F hx D
   |ext PD=>
    simp only[hx]at r
    by_cases Z:PD=id
    ·simp only[Z,if_true,Option.some.injEq,Prod.mk.injEq]at r
     obtain⟨rfl,rfl⟩:=r
     refine ih H h1 h F hx ?_
     intro J w' N M' O R U I
     show Exit.inBlock id Q (.exit PD) J w'
     simp only[Exit.inBlock,Z,if_true]
     exact D J w' N M' O R U I
    ·simp only[Z,if_false,Option.some.injEq,Prod.mk.injEq]at r
     obtain⟨rfl,rfl⟩:=r
     refine ih H h1 h F hx ?_
     intro J w' N M' O R U I
     show Exit.inBlock id Q (.exit PD) J w'
     simp only[Exit.inBlock,Z,if_false]
     exact D J w' N M' O R U I
 |loop x ih=>
  intro ac hc B st V a w β M o h F r Q D
  simp only[ga,Option.map_eq_some_iff]at hc
  obtain⟨H,h1,rfl⟩:=hc
  simp only[fG]at r
  have key: ∀(m:Nat) (Y:St) (a1:Act) (w1:World) (Gs:aN) (M1:MSet),aZ B Y w1 Gs M1→iF Y a1 w1 Gs M1 n→Tr st w β M Y w1 Gs M1→w.heap.size≤w1.heap.size→iter (fG E call fl n H) m Y=some (o,V)→Code.rounds P x Q m a1 w1:=by
   intro m
   induction m with
   |zero=>grind [iter]
   |succ m ihm=>
    intro Y a1 w1 Gs M1 g1 g2 g3 g4 hi
    rw[rounds_succ]
    simp only[iter]at hi
    cases hx:fG E call fl n H Y with
    |none=>simp[hx]at hi
    |some p=>
     obtain⟨ox,wI⟩:=p
     cases ox with
     |nrm=>
      simp only[hx]at hi
      refine ih H h1 g1 g2 hx ?_
      intro J w' N M' O R U I
      exact ihm wI J w' N M' O R (g3.trans U g4) (Nat.le_trans g4 I) hi
     |ext id=>
      simp[hx]at hi;obtain⟨rfl,rfl⟩:=hi
      refine ih H h1 g1 g2 hx ?_
      intro J w' N M' O R U I
      exact D J w' N M' O R (g3.trans U g4) (Nat.le_trans g4 I)
     |ret=>
      simp[hx]at hi;obtain⟨rfl,rfl⟩:=hi
      refine ih H h1 g1 g2 hx ?_
      intro J w' N M' O R U I
      exact D J w' N M' O R (g3.trans U g4) (Nat.le_trans g4 I)
  exact wp_loop_rounds fl (key fl st a w β M h F (Tr.refl _ _ _ _) (Nat.le_refl _) r)
 |exit id=>
  intro ac hc B st V a w β M o h F r Q D
  simp[ga]at hc;subst hc
  simp[fG]at r;obtain⟨rfl,rfl⟩:=r
  exact wp_exit (D a w β M h F (Tr.refl _ _ _ _) (Nat.le_refl _))
 |ret=>
  intro ac hc B st V a w β M o h F r Q D
  simp[ga]at hc;subst hc
  simp[fG]at r;obtain⟨rfl,rfl⟩:=r
  exact wp_ret (D a w β M h F (Tr.refl _ _ _ _) (Nat.le_refl _))
 |rangeFunc _ _ _ _=>grind [ga]
 |scope _=>grind [ga]
 |label _=>grind [ga]
 |goto _=>grind [ga]
 |refuse _=>grind [ga]
end
end Go.Ev
namespace Go.Ev
open Go
section
variable{P:Program}{E:Env}{n:Nat}
def Eo(ts:Array Value)(r:ResultVar):Sem Value:=
 match r with
 | .tmp t=>pure (ts.getD t undef)
 | .cell D t=>do loadVar t (←asAddr (ts.getD D undef))
theorem KP(D:Func)(ts:Array Value):results D ts=(do
  let r ←(List.toArray <$> D.results.toList.mapM (Eo ts))
  pure (if h:r.size=1 then r[0]else .tuple r)):=by
 unfold results
 rw[Array.mapM_eq_mapM_toList]
 congr 2
theorem sG{B:eH}{st:St}{a:Act}{w:World}{β:aN}{M:MSet}(h:aZ B st w β M)(I:iF st a w β M n): ∀(rs:List ResultVar) (r:List sA) (H:List T),ot P rs=some r→gV st r=some H→
  ∃F:List Value,(rs.mapM (Eo a.tmps)).run P w=Result.ok F w∧au β st.gens w M H F
 | [],r,H,hc,hr=>by
   simp_all[ot,gV,au]
 | .tmp t::rs,r,H,hc,hr=>by
   simp only[ot,Option.map_eq_some_iff]at hc
   obtain⟨D,h1,rfl⟩:=hc
   simp only[gV,Hw]at hr
   split at hr
   ·rename_i v J e1 e2
    simp at hr e1;subst hr;subst e1
    obtain⟨F,N,O⟩:=sG h I rs D J h1 e2
    refine⟨a.tmps.getD t undef::F, ?_, ?_⟩
    ·grind [Eo,Sem.run_bind,Sem.run_pure,Result.andThen_ok]
    ·simp only[au];exact⟨_,_,rfl,I.slot t,O⟩
   ·cases hr
 | .cell R t::rs,r,H,hc,hr=>by
   simp only[ot]at hc
   split at hc
   ·rename_i sz X D h1 h2 h3
    simp at hc;subst hc
    simp only[gV,Hw]at hr
    split at hr
    ·rename_i v J e1 e2
     simp at hr;subst hr
     obtain⟨F,N,O⟩:=sG h I rs D J h3 e2
     obtain⟨U,cv,V,W,Y⟩:=HE (P:=P) h h1 h2 (I.slot R) e1
     refine⟨cv::F, ?_, ?_⟩
     ·rw[List.mapM_cons]
      simp only[Eo,Sem.run_bind,V,asAddr,Sem.run_pure,Result.andThen_ok,W,N]
     ·grind [au]
    ·cases hr
   ·cases hc
theorem PT{β:aN}{G:Sp→Nat→Nat}{w:World}{M:MSet}{args:List T}{r:Array Value}(H:au β G w M args r.toList)(k:Nat)(t:Nat):aq β G w M (aa (kF args) t) ((r++Array.replicate k undef).getD t undef):=by
 have D:=au.length _ _ H
 by_cases I:t<args.length
 ·have J:args[t]? =some args[t]:=List.getElem?_eq_getElem I
  obtain⟨cv,N,U⟩:=H.get J
  have e1:aa (kF args) t=args[t]:=by
   rw[CS]
   have: ∀(l:List T) (j:Nat) (F:j<l.length),aH aO l j=l[j]:=by
    intro l
    induction l with
    |nil=>grind
    |cons x xs ih=>intro j F;cases j with|zero=>rfl|succ j=>exact ih j (by simpa using F)
   grind
  have O:r[t]? =some cv:=by simpa using N
  have R:t<r.size:=by simp at D;omega
  simp_all[Array.getD_eq_getD_getElem?,Array.getElem?_append_left]
 ·have e1:aa (kF args) t=aO:=by
   rw[CS]
   have: ∀(l:List T) (j:Nat),l.length≤j→aH aO l j=aO:=by
    intro l
    induction l with
    |nil=>intro j _;rfl
    |cons x xs ih=>intro j F;cases j with|zero=>simp at F|succ j=>exact ih j (by simpa using F)
   grind
  have e2:(r++Array.replicate k undef).getD t undef=undef:=by
   rw[Array.getD_eq_getD_getElem?,Array.getElem?_append_right (by simp at D;omega),Array.getElem?_replicate]
   split <;> rfl
  rw[e1,e2]
  simp[aq,aO,undef,au]
def pack:List T→T
 | [v]=>v
 |vs=> .tup vs
theorem KQ{keep:Bool}{n:Nat}:fz keep (n+1) .nilsl= .ret (.nilsl,[]):=rfl
theorem uB{f:T→Q (T×List Up)}{h:Sp→Nat→ah}{nx:Nat}(F:f .nilsl= .ret (.nilsl,[])): ∀(ts:List T) {j:Nat} {q:List T×List Up},(bf f ts).run h nx=some q→ts[j]? =some .nilsl→q.1[j]? =some .nilsl
 | [],j,q,_,D=>by simp at D
 |t::ts,j,q,r,D=>by
  simp only[bf,Q.run_bind]at r
  cases h1:(f t).run h nx with
  |none=>simp[h1]at r
  |some p=>
   simp only[h1,Option.bind_some]at r
   cases h2:(bf f ts).run h nx with
   |none=>simp[h2]at r
   |some H=>
    simp only[h2,Option.bind_some,Q.run,Option.some.injEq]at r
    subst r
    cases j with
    |zero=>
     grind [Q.run]
    |succ j=>simpa using uB F ts h2 (by simpa using D)
theorem Ep{f:T→Q (T×List Up)}{h:Sp→Nat→ah}{nx:Nat}: ∀(ts:List T) {j:Nat} {q:List T×List Up} {x:T},(bf f ts).run h nx=some q→ts[j]? =some x→ ∃p,(f x).run h nx=some p∧q.1[j]? =some p.1
 | [],j,q,x,_,D=>by simp at D
 |t::ts,j,q,x,r,D=>by
  simp only[bf,Q.run_bind]at r
  cases h1:(f t).run h nx with
  |none=>simp[h1]at r
  |some p=>
   simp only[h1,Option.bind_some]at r
   cases h2:(bf f ts).run h nx with
   |none=>simp[h2]at r
   |some F=>
    simp only[h2,Option.bind_some,Q.run,Option.some.injEq]at r
    subst r
    cases j with
    |zero=>grind
    |succ j=>simpa using Ep ts h2 (by simpa using D)
theorem Er{n:Nat}{cs:List T}{h:Sp→Nat→ah}{nx:Nat}{p:T×List Up}(r:(fz false (n+1) (.agg cs)).run h nx=some p): ∃q,(bf (fz false n) cs).run h nx=some q∧p.1= .agg q.1:=by
 have r:((bf (fz false n) cs).bind fun q=>Q.ret (T.agg q.1,q.2)).run h nx=some p:=r
 rw[Q.run_bind]at r
 cases h1:(bf (fz false n) cs).run h nx with
 |none=>simp[h1]at r
 |some q=>
  grind [Q.run,Option.some.injEq]
theorem ajQ{r t y:T}{us:List Up}{h:Sp→Nat→ah}{nx j:Nat}(D:(fz false aJ (aL r j .nilsl)).run h nx=some (t,us))(hc:eE r j=some y):okC t j:=by
 cases r
 case tup vs=>
  by_cases F:j<100
  ·simp only[aL,F,if_true]at D
   have D:((bf (fz false 7) (vs.set j .nilsl)).bind fun q=>Q.ret (T.tup q.1,q.2)).run h nx=some (t,us):=D
   rw[Q.run_bind]at D
   cases h1:(bf (fz false 7) (vs.set j .nilsl)).run h nx with
   |none=>simp[h1]at D
   |some q=>
    simp only[h1,Option.bind_some,Q.run,Option.some.injEq,Prod.mk.injEq]at D
    obtain⟨rfl,rfl⟩:=D
    exact .inl F
  ·simp only[eE,F,if_false]at hc
   cases hi:vs[j/100-1]? with
   |none=>grind
   |some H=>
    rw[hi]at hc
    cases H <;> try (simp only at hc;cases hc;done)
    rename_i cs
    simp only[aL,F,if_false,hi]at D
    have D:((bf (fz false 7) (vs.set (j/100-1) (.agg (cs.set (j%100) .nilsl)))).bind fun q=>Q.ret (T.tup q.1,q.2)).run h nx=some (t,us):=D
    rw[Q.run_bind]at D
    cases h1:(bf (fz false 7) (vs.set (j/100-1) (.agg (cs.set (j%100) .nilsl)))).run h nx with
    |none=>simp[h1]at D
    |some q=>
     simp only[h1,Option.bind_some,Q.run,Option.some.injEq,Prod.mk.injEq]at D
     obtain⟨rfl,rfl⟩:=D
     obtain⟨p,I,J⟩:=Ep _ h1 (List.getElem?_set_self (List.getElem?_eq_some_iff.1 hi).1)
     obtain⟨N,_,e⟩:=Er I
     exact .inr ⟨N.1,by rw[J,e]⟩
 case agg vs=>
  simp only[aL]at D
  obtain⟨q,_,e⟩:=Er (n:=7) D
  rw[show t=_ from e]
  trivial
 case any=>simp[eE]at hc
 all_goals
  simp[aL,aJ,fz,Q.run]at D
  obtain⟨rfl,rfl⟩:=D
  trivial
theorem abg{r t:T}{us:List Up}{h:Sp→Nat→ah}{nx j:Nat}(D:(fz false aJ r).run h nx=some (t,us))(hc:eE r j=some .nilsl):eE t j=some .nilsl:=by
 cases r
 case tup vs=>
  have D:((bf (fz false 7) vs).bind fun q=>Q.ret (T.tup q.1,q.2)).run h nx=some (t,us):=D
  rw[Q.run_bind]at D
  cases h1:(bf (fz false 7) vs).run h nx with
  |none=>simp[h1]at D
  |some q=>
   simp only[h1,Option.bind_some,Q.run,Option.some.injEq,Prod.mk.injEq]at D
   obtain⟨rfl,rfl⟩:=D
   simp only[eE]at hc ⊢
   by_cases F:j<100
   ·rw[if_pos F]at hc ⊢
    exact uB KQ vs h1 hc
   ·rw[if_neg F]at hc ⊢
    cases hi:vs[j/100-1]? with
    |none=>grind
    |some H=>
     rw[hi]at hc
     cases H <;> try (simp only at hc;cases hc;done)
     rename_i cs
     obtain⟨p,I,J⟩:=Ep _ h1 hi
     obtain⟨N,e1,e2⟩:=Er I
     rw[J,e2]
     exact uB KQ cs e1 hc
 case agg vs=>
  have D:((bf (fz false 7) vs).bind fun q=>Q.ret (T.agg q.1,q.2)).run h nx=some (t,us):=D
  rw[Q.run_bind]at D
  cases h1:(bf (fz false 7) vs).run h nx with
  |none=>simp[h1]at D
  |some q=>
   simp only[h1,Option.bind_some,Q.run,Option.some.injEq,Prod.mk.injEq]at D
   obtain⟨rfl,rfl⟩:=D
   exact uB KQ vs h1 hc
 all_goals
  simp only[eE,Option.some.injEq]at hc
  try (cases hc;done)
 simp[aJ,fz,Q.run]at D
 obtain⟨rfl,rfl⟩:=D
 rfl
theorem Aq(hE:pd P E)(hm:P.follows .mixedOrders=true){m:Nat}(hO:ux P E (cO E m)){f:Nat}{af:aj}{args:List T}{sh:List ah}{r:T}{Y:List ah}(yq:E.fn f=some af)(D:cO E (m+1) f args sh=some (r,Y))
  {w:World} {β:aN} {M:MSet} {cargs:Array Value} (O:aZ ⟨w,M,dY sh β⟩ (bare .nil sh) w β M) (Z:au β (bare .nil sh).gens w M args cargs.toList) {Q:Ending→World→Prop}
  (hQ: ∀J F w' U M' v,aZ ⟨w,M,dY sh β⟩ J w' U M'→qK af.own af.eff F J=some (r,Y)→aq U J.gens w' M' (pack F) v→Tr (bare (kF args) sh) w β M J w' U M'→Q (.returned v) w'):Calls P f cargs w Q:=by
  obtain⟨hs,fn,hf,H⟩:=hE.1 f af yq
  simp only[cO,yq]at D
  split at D
  ·cases D
  ·rename_i hlen
   unfold CI at H
   split at H
   ·cases H
   ·split at H
    ·cases H
    ·rename_i code avm
     split at H
     ·rename_i ac W h1 h2
      simp at H
      have hV:au β (bare (kF args) sh).gens w M args cargs.toList:=Z
      have hcl:=au.length _ _ hV
      have hn:fn.ntmps=af.n:=by rw[←H]
      have avn:af.code=ac:=by rw[←H]
      have BU:af.res=W:=by rw[←H]
      rw[avn]at D
      cases I:fG E (cO E m) m af.n ac {fr:=kF args,lh:= .nil,sh}with
      |none=>simp[I]at D
      |some p=>
       obtain⟨o,J⟩:=p
       have PH:o≠ .nrm→o≠ .ret→False:=by
        intro n1 n2
        cases o with
        |nrm=>exact n1 rfl
        |ret=>exact n2 rfl
        |ext id=>simp[I]at D
       have KR: ∃F,gV J af.res=some F∧qK af.own af.eff F J=some (r,Y):=by
        cases o with
        |nrm=>
         simp only[I]at D
         split at D
         ·rename_i F hv
          exact⟨F,hv,D⟩
         ·cases D
        |ret=>
         simp only[I]at D
         split at D
         ·rename_i F hv
          exact⟨F,hv,D⟩
         ·cases D
        |ext id=>exact(PH zP zP).elim
       obtain⟨N,aBC,KR⟩:=KR
       have hF:iF (bare (kF args) sh) {tmps:=cargs++Array.replicate (fn.ntmps-cargs.size) undef,defers:= []} w β M af.n:=by
        refine⟨by simp at hcl ⊢; omega,rfl,fun t=>PT hV _ t⟩
       refine calls_of_wp hf avm ?_
       refine ajN (n:=af.n) hE hO hm m code ac h1 (B:=⟨w,M,dY sh β⟩) (st:=bare (kF args) sh) (aa9 O (kF args)) hF I ?_
       intro a' w' U M' r1 r2 r3 r4
       have post:a'.defers= []∧ ∃v,(results fn a'.tmps).run P w'= .ok v w'∧Q (.returned v) w':=by
        refine⟨r2.defers, ?_⟩
        have X:=aBC
        rw[BU]at X
        obtain⟨R,q1,V⟩:=sG (P:=P) r1 r2 fn.results.toList W N h2 X
        have avo:(results fn a'.tmps).run P w'= .ok (if hh:R.toArray.size=1 then R.toArray[0]else .tuple R.toArray) w':=by
         rw[KP]
         simp only[Sem.run_bind,Sem.run_map,q1,Result.andThen_ok,Sem.run_pure]
        have UY:aq U J.gens w' M' (pack N) (if hh:R.toArray.size=1 then R.toArray[0]else .tuple R.toArray):=by
         have ZN:=au.length _ _ V
         cases N with
         |nil=>
          simp only[au]at V;subst V
          simp[pack,aq,au]
         |cons v F=>
          cases F with
          |nil=>
           simp only[au]at V
           obtain⟨u,us,rfl,k1,rfl⟩:=V
           simpa[pack]using k1
          |cons v2 F=>
           have:R.toArray.size≠1:=by simp at ZN ⊢; omega
           rw[dif_neg this]
           simp only[pack,aq]
           exact⟨_,rfl,by simpa using V⟩
        exact⟨_,avo,hQ J N w' U M' _ r1 KR UY r3⟩
       cases o with
       |nrm=>exact post
       |ret=>exact post
       |ext id=>exact(PH zP zP).elim
     ·cases H
theorem xE(r:Bool)(D:List T)(st:St):answer r D st=match(fz r aJ (pack D)).run st.get st.sh.length with
 |some p=>some (p.1,(st.ups p.2).sh)
 |none=>none:=by
 cases D with
 |nil=>rfl
 |cons v D=>cases D <;> rfl
theorem Et(j:Nat)(r:List T)(st:St):oq j r st=match eE (pack r) j with
 |some .nilsl=>answer false r st
 |some (.isl .L k g 0 len sz)=>
  (match(fz false aJ (aL (pack r) j .nilsl)).run st.get st.sh.length with
  |some p=>(match(st.ups p.2).get .L k with
   |⟨D,.cells cs F false⟩=>if D=g∧cs.length=len*sz∧len≠0∧(F=0∨lY (aL p.1 j .nilsl)=true)then some (aL p.1 j (.sl cs len false),(st.ups p.2).sh)else none
   |_=>none)
  |none=>none)
 |_=>none:=by
 cases r with
 |nil=>rfl
 |cons v r=>cases r <;> rfl
theorem C4{B:eH}{D:St}{J:List T}{w':World}{H:aN}{M':MSet}{v:Value}{F:Bool}{r:T}{N:List ah}(O:aZ B D w' H M')(I:answer F J D=some (r,N))(UY:aq H D.gens w' M' (pack J) v):
  ∃M2 us,aZ B (D.ups us) w' H M2∧(D.ups us).gens=D.gens∧N=(D.ups us).sh∧ow F H D.gens w' M2 r v:=by
 rw[xE]at I
 split at I
 ·rename_i p R
  obtain⟨U,us⟩:=p
  simp at I
  obtain⟨rfl,rfl⟩:=I
  obtain⟨M2,V,W,Y,X,Z⟩:=xt F D aJ _ _ D w' H M' _ U us _ (Fz.refl D) O UY R
  exact⟨M2,us,V,W.gens,rfl,X⟩
 ·cases I
theorem HY(hE:pd P E)(hm:P.follows .mixedOrders=true): ∀m,ux P E (cO E m)
 |0=>by
  intro f af args sh r aX yq hc
  simp[cO]at hc
 |m+1=>by
  have hO:=HY hE hm m
  intro f af args sh r aX yq aD
  refine⟨fun J=> ?_,fun j J=> ?_⟩
  ·intro w β M R H I
   refine Aq hE hm hO yq aD H (iH.toV I) ?_
   intro F vs w' N M' v r1 D hv r3
   rw[J]at D
   obtain⟨M2,us,U,z2,rfl,O⟩:=C4 r1 D hv
   refine⟨v,N,M2,rfl,Ej U .nil,fun k g hg=>r3.beta .S k g hg,fun k=> ?_, ?_⟩
   ·have e1:(aI (F.ups us).sh k).g=(F.ups us).gens .S k:=rfl
    rw[e1,z2]
    exact r3.gens .S k
   ·have V: ∀k,(bare .nil (F.ups us).sh).gens .S k=F.gens .S k:=by
     intro k
     have e1:(bare .nil (F.ups us).sh).gens .S k=(F.ups us).gens .S k:=rfl
     rw[e1,z2]
    cases W:af.eff with
    |false=>rw[W]at O;exact O
    |true=>
     rw[W]at O
     intro b g p q
     exact O b g (fun k x hx=>p k x (by rw[V];exact hx)) (fun k=>by rw[←V];exact q k)
  ·have W:af.eff=false:=by
    grind [cO,qK]
   refine⟨W, ?_⟩
   intro w β M R H I
   refine Aq hE hm hO yq aD H (iH.toV I) ?_
   intro F vs w' N M' v r1 D hv r3
   rw[J,W]at D
   have D:oq j vs F=some (r,aX):=by simpa[qK]using D
   rw[Et]at D
   split at D
   ·rename_i hc
    obtain⟨M2,us,U,z2,rfl,O⟩:=C4 r1 D hv
    refine⟨v,N,M2,rfl,Ej U .nil,.inl ⟨?_,O⟩⟩
    grind [xE,abg]
   ·rename_i k g len sz hc
    split at D
    ·rename_i p hz
     obtain⟨t',us⟩:=p
     have hn:aq N F.gens w' M' .nilsl jk:=by simp only[aq]
     obtain⟨⟨x,hx,X⟩,wD⟩:=UG hv hc hn rfl
     obtain⟨M2,U,z2,z3,O,z5⟩:=xt false F aJ _ _ F w' N M' _ t' us _ (Fz.refl F) r1 wD hz
     dsimp only at D
     split at D
     ·rename_i g' cs wm BW
      split at D
      ·rename_i hcs
       obtain⟨rfl,hcl,yo,HH⟩:=hcs
       simp at D
       obtain⟨rfl,rfl⟩:=D
       simp only[aq]at X
       obtain⟨aH9,cap,rfl,hlc,hcx⟩:=X
       have ho:=U.obj .L k
       rw[BW]at ho
       unfold dF at ho
       obtain⟨c,el,fzz,o1,o2,o3,o4,o5,o6,o7,o8⟩:=ho
       dsimp only at o1 o2 o3 o4 o5 o6
       subst o4
       have Y:=fun(b:aN) (G:Sp→Nat→Nat)=>UH (cs:=cs) (len:=len) (ex:=false) (ajQ hz hc) (PRel.toV b G _ _ O) hx
       have CT:live ((F.ups us).get .L k):=by rw[BW];trivial
       have BZ:(F.ups us).gens .L k=g':=by show((F.ups us).get .L k).g=g';rw[BW]
       have Z:=U.lblk k CT
       rw[BZ]at Z
       refine⟨v,N,M2,rfl,Ej U .nil,.inr ⟨cs,len,(Y N F.gens).1,N .L k g',sz,cap,c,el,Z,o1,o2,o3,o5, ?_,o7,hcl,yo,hlc,by simpa using hcx,hx,fun b G=>(Y b G).2⟩⟩
       rcases HH with rfl|HH
       ·exact .inr fun i hi=>o6 i (Nat.zero_le _) hi
       ·exact .inl (by rw[KI _ _ _ _ rfl];exact HH)
      ·cases D
     ·cases D
    ·cases D
   ·cases D
end
theorem pure_call{P:Program}{E:Env}(W:pd P E)(O:P.follows .mixedOrders=true){m f:Nat}{af:aj}(X:E.fn f=some af)(Y:af.eff=false)(J:af.own=none){args:List T}{r:T}{R:List ah}(hc:cO E m f args []=some (r,R))(w:World)(D:Array Value)
  (H:PList w (fun _ _=>False) args D.toList):Calls P f D w fun e w'=> ∃cv,e= .returned cv∧RowKit.Below w.heap.size w w'∧PRel w' (fun _ _=>False) r cv:=by
 have U:=(HY W O m f af args [] r R X hc).1 J
 rw[Y]at U
 let β:aN:=fun _ _ _=>⟨0,0,0⟩
 have Z: ∀b,¬dY [] β b:=by rintro b ⟨k,F,_⟩;simp[aI,aH]at F;exact F.elim
 have I:aZ ⟨w,fun _ _=>False,dY [] β⟩ (bare .nil []) w β (fun _ _=>False):=by
  have e: ∀sp k,(bare .nil []).get sp k=eB:=by intro sp k;cases sp <;> simp[bare,St.get,aI,aH,aE.get_nil]
  refine⟨fun sp k=> ?_,fun sp k dk k' V _ _=> ?_,fun _ _ h=>h.elim,fun k F=> ?_,fun k F=> ?_,rfl,rfl,rfl,Nat.le_refl _,fun _ _ _=>rfl,dr.refl _ _,fun _ _ _ _ O=>O⟩
  ·grind [dF,eB]
  ·rw[e]at V;exact V.elim
  ·rw[e]at F;exact F.elim
  ·rw[e]at F;exact F.elim
 refine(U w β _ D I H).mono ?_
 rintro e w' ⟨cv,aW,M',rfl,N,_,_,hr⟩
 refine⟨cv,rfl,⟨N.os,N.tape,N.output,N.size,fun b hb=>N.same b hb (Z b)⟩, ?_⟩
 exact PRel.mono (de (fun _ _ h=>h.elim)) _ _ hr
end Go.Ev
namespace Go.Ev
open Go
inductive CJ where
 |nil
 |nd (l:CJ) (k:Nat) (v:aj) (r:CJ)
def CJ.find:CJ→Nat→Option aj
 | .nil,_=>none
 | .nd l k v r,f=>bif Nat.beq f k then some v else bif Nat.ble f k then l.find f else r.find f
def CJ.All(p:Nat→aj→Prop):CJ→Prop
 | .nil=>True
 | .nd l k v r=>CJ.All p l∧p k v∧CJ.All p r
theorem CJ.all_find{p:Nat→aj→Prop}{f:Nat}{v:aj}: ∀{t:CJ},CJ.All p t→t.find f=some v→p f v
 | .nil,_,h=>by simp[CJ.find]at h
 | .nd l k u r,F,h=>by
   obtain⟨h1,h2,h3⟩:=F
   simp only[CJ.find]at h
   cases D:Nat.beq f k with
   |true=>
    rw[D,cond_true]at h
    have:f=k:=Nat.eq_of_beq_eq_true D
    subst this
    cases h;exact h2
   |false=>
    rw[D,cond_false]at h
    cases hc:Nat.ble f k with
    |true=>rw[hc,cond_true]at h;exact CJ.all_find h1 h
    |false=>rw[hc,cond_false]at h;exact CJ.all_find h3 h
def D5(P:Program)(f:Nat)(af:aj):Prop:= ∃hs r,P.funcs[f]? =some r∧CI P hs af.eff r=some af
theorem codeOk{P:Program}{f:Nat}{af:aj}{hs:List Nat}{r:Func}(h:P.funcs[f]? =some r)(k:CI P hs af.eff r=some af):D5 P f af:=⟨hs,r,h,k⟩
def ExtOk(P:Program)(f:Nat)(g:List T→Option T):Prop:=
 (∃F,P.funcs[f]? =some F∧(F.name== "runtime.NumGoroutine")=false∧F.body.isSome=true)∧
   ∀args r,g args=some r→ ∀(w:World) (M:MSet) (D:Array Value),(∀b o,M b o→b<w.heap.size)→PList w M args D.toList→
    Calls P f D w fun e w'=> ∃cv,e= .returned cv∧RowKit.Below w.heap.size w w'∧PRel w' (fun b _=>b<w.heap.size) r cv
theorem asv{P:Program}{t:CJ}{x:Nat→Option (List T→Option T)}{y:Nat→Option (List T→Option (List T×Option Nat))}(h:CJ.All (D5 P) t)(hx: ∀f g,x f=some g→ExtOk P f g)
  (F: ∀f g,y f=some g→(∃r,P.funcs[f]? =some r∧(r.name== "runtime.NumGoroutine")=false∧r.body.isSome=true)∧au8 P f g):pd P ⟨t.find,x,y⟩:=
 ⟨fun f af H=>CJ.all_find h H,fun f g _ D=>hx f g D,fun f g _ _ D=>F f g D⟩
noncomputable abbrev r8(E:Env)(m f:Nat)(args:List T)(sh:List ah):Option (T×List ah):=cO E m f args sh
theorem cG{E:Env}{m f:Nat}{args:List T}{sh:List ah}{r:Option (T×List ah)}(h:r8 E m f args sh=r):cO E m f args sh=r:=h
end Go.Ev
