/- A tree evaluator over the model, proved against it (part D): where it answers, the call returns that answer. Conditions: none beyond its theorems' own. -/
import Derived.Test.YtcpceiclnbmgiaaGreatEvC
set_option linter.unusedSimpArgs false
set_option linter.unusedVariables false
namespace Go.Ev
open Go
def bare(fr:Fr)(sh:List b8):St:={fr,lh:= .nil,sh}
theorem DP(fr:Fr)(sh:List b8)(k:Nat):(bare fr sh).get .L k=l0:=by simp[bare,St.get,iz,iE,iq.get_nil]
theorem kY.shared{β iO:iL}{G G':Sp→Nat→Nat}{w:World}{M:iB}{k:Nat}{e:b8}(Fv: ∀n g,g≤G .S n→iO .S n g=β .S n g)(r: ∀n,G .S n≤G' .S n)(D:e.g≤G .S k)(h:kY β G w M .S k e):kY iO G' w M .S k e:=by
 unfold kY at h ⊢
 rw[Fv k _ D]
 obtain⟨g,ob⟩:=e
 cases ob with
 |none=>trivial
 |cells cs wm bx=>
  obtain⟨c,el,fz,F,H,I,J,i,N,O⟩:=h
  refine⟨c,el,fz,F,H,I,J, ?_,N,O⟩
  cases bx
  ·exact i
  ·exact yC.mono (kQ.refl w M) Fv r i
 |map ks U fz=>exact h
theorem Hw{B:l8}{st:St}{w:World}{β:iL}{M:iB}(h:iU B st w β M)(fr:Fr):iU B (bare fr st.sh) w β M:=by
 refine⟨fun sp k=> ?_,fun sp k F k' r D H=> ?_,h.mlt,fun k i=> ?_,fun k i=>h.sblk k i,h.os,h.tape,h.output,h.size,h.same,h.keep,h.msup⟩
 ·cases sp with
  |L=>grind [kY,l0,DP]
  |S=>exact kY.shared (G:=st.gens) (β:=β) (fun _ _ _=>rfl) (fun _=>Nat.le_refl _) (Nat.le_refl _) (h.obj .S k)
 ·cases sp with
  |L=>rw[DP]at r;exact r.elim
  |S=>
   cases F with
   |L=>rw[DP]at D;exact D.elim
   |S=>exact h.dist .S k .S k' r D H
 ·rw[DP]at i;exact i.elim
def lI(sh:List b8)(β:iL)(b:Nat):Prop:= ∃k,live (iz sh k)∧(β .S k (iz sh k).g).blk=b
theorem aaO{B:l8}{st:St}{w:World}{β:iL}{M:iB}(h:iU B st w β M)(fr:Fr):iU ⟨w,M,lI st.sh β⟩ (bare fr st.sh) w β M:=by
 have r:=Hw h fr
 refine⟨r.obj,r.dist,h.mlt,fun k i=> ?_,fun k i=> .inl ⟨k,i,rfl⟩,rfl,rfl,rfl,Nat.le_refl _,fun _ _ _=>rfl,kQ.refl w M,fun _ _ _ _ D=>D⟩
 rw[DP]at i;exact i.elim
theorem Vn{B:l8}{st:St}{w:World}{β:iL}{M:iB}(h:iU B st w β M)(fr:Fr):iU ⟨w,M,fun _=>False⟩ (bare fr []) w β M:=by
 have e: ∀sp k,(bare fr []).get sp k=l0:=by intro sp k;cases sp <;> simp[bare,St.get,iz,iE,iq.get_nil]
 refine⟨fun sp k=> ?_,fun sp k F k' r _ _=> ?_,h.mlt,fun k i=> ?_,fun k i=> ?_,rfl,rfl,rfl,Nat.le_refl _,fun _ _ _=>rfl,kQ.refl w M,fun _ _ _ _ D=>D⟩
 ·grind [kY,l0]
 ·rw[e]at r;exact r.elim
 ·rw[e]at i;exact i.elim
 ·rw[e]at i;exact i.elim
theorem Kk{B:l8}{st:St}{w w':World}{β:iL}{M:iB}(h:iU B st w β M)(D:w'.os=w.os)(F:w'.tape=w.tape)(FD:w'.output=w.output)(I:w.heap.size≤w'.heap.size)(r: ∀b,b<w.heap.size→w'.heap[b]? =w.heap[b]?):
  iU B st w' β M∧Tr st w β M st w' β M:=by
 have hk:kQ w M w' M:=⟨fun b o v i _=>by rw[oh (w:=w) (r b (yB i))];exact i,fun b es c i _=>by rw[r b (rG i)];exact i,fun _ _ _ h=>h⟩
 refine⟨⟨fun sp k=> ?_,h.dist,fun b o H=>Nat.lt_of_lt_of_le (h.mlt b o H) I,h.lblk,h.sblk,D.trans h.os,F.trans h.tape,FD.trans h.output,Nat.le_trans h.size I,fun b J N=>(r b (Nat.lt_of_lt_of_le J h.size)).trans (h.same b J N),h.keep.trans hk h.size,h.msup⟩,hk,fun _ _ _ _=>rfl,fun _ _=>Nat.le_refl _⟩
 exact kY.mono hk (fun _ _ _ _=>rfl) (fun _ _=>Nat.le_refl _) (Nat.le_refl _) (fun O=>r _ (h.lt O)) (fun _ _ H=>H) (h.obj sp k)
theorem ah1{B:l8}{st:St}{w w':World}{β iO:iL}{M M':iB}{iT:List b8}(h:iU B st w β M)(i:iU ⟨w,M,lI st.sh β⟩ (bare .nil iT) w' iO M')(Fv: ∀n g,g≤st.gens .S n→iO .S n g=β .S n g)(hG: ∀n,st.gens .S n≤(iz iT n).g):
  iU B {st with sh:=iT} w' (fun sp k g=>match sp with| .L=>β .L k g| .S=>iO .S k g) M'∧Tr st w β M {st with sh:=iT} w' (fun sp k g=>match sp with| .L=>β .L k g| .S=>iO .S k g) M':=by
 have W: ∀k,({st with sh:=iT}:St).get .L k=st.get .L k:=fun k=>rfl
 have X: ∀k,({st with sh:=iT}:St).get .S k=iz iT k:=fun k=>rfl
 have Vh: ∀sp k g,g≤st.gens sp k→(fun(sp:Sp) k g=>match sp with| .L=>β .L k g| .S=>iO .S k g:iL) sp k g=β sp k g:=by
  grind
 have Gt: ∀sp k,st.gens sp k≤({st with sh:=iT}:St).gens sp k:=by
  grind
 have notS: ∀k,live (st.get .L k)→ ¬lI st.sh β (β .L k (st.gens .L k)).blk:=by
  rintro k r ⟨k',J,D⟩
  have:=h.dist .S k' .L k J r D
  cases this.1
 have Y: ∀b,lI st.sh β b→B.SB b∨B.w.heap.size≤b:=by
  rintro b ⟨k,r,rfl⟩
  exact h.sblk k r
 have N: ∀k,live (iz iT k)→B.SB (iO .S k (iz iT k).g).blk∨B.w.heap.size≤(iO .S k (iz iT k).g).blk:=by
  intro k r
  rcases i.sblk k r with e|e
  ·exact Y _ e
  ·exact .inr (Nat.le_trans h.size e)
 refine⟨⟨fun sp k=> ?_,fun sp k V k' F H D=> ?_,i.mlt,fun k r=>h.lblk k r,fun k r=>N k r,i.os.trans h.os,i.tape.trans h.tape,i.output.trans h.output,Nat.le_trans h.size i.size,fun b I O=> ?_,h.keep.trans i.keep h.size,fun b o I O Z=> ?_⟩,i.keep,Vh,Gt⟩
 ·cases sp with
  |L=>
   refine kY.mono i.keep Vh Gt (Nat.le_refl _) (fun r=> ?_) (fun r o hm=> ?_) (h.obj .L k)
   ·exact i.same _ (h.lt r) (notS k r)
   ·exact i.msup _ o (h.lt r) (notS k r) hm
  |S=>exact kY.shared (G:=(bare .nil iT).gens) (β:=iO) (fun _ _ _=>rfl) (fun _=>Nat.le_refl _) (Nat.le_refl _) (i.obj .S k)
 ·cases sp with
  |L=>
   cases V with
   |L=>exact h.dist .L k .L k' F H D
   |S=>
    exfalso
    have OU:(β .L k (st.gens .L k)).blk=(iO .S k' (iz iT k').g).blk:=D
    rcases i.sblk k' H with e|e
    ·exact notS k F (by rw[OU];exact e)
    ·have:=h.lt (sp:= .L) (k:=k) F
     have e':w.heap.size≤(iO .S k' (iz iT k').g).blk:=e
     omega
  |S=>
   cases V with
   |L=>
    exfalso
    have OU:(iO .S k (iz iT k).g).blk=(β .L k' (st.gens .L k')).blk:=D
    rcases i.sblk k F with e|e
    ·exact notS k' H (by rw[←OU];exact e)
    ·have:=h.lt (sp:= .L) (k:=k') H
     have e':w.heap.size≤(iO .S k (iz iT k).g).blk:=e
     omega
   |S=>exact i.dist .S k .S k' F H D
 ·have U: ¬lI st.sh β b:=fun hs=>by
   grind
  exact(i.same b (Nat.lt_of_lt_of_le I h.size) U).trans (h.same b I O)
 ·have U: ¬lI st.sh β b:=fun hs=>by
   grind
  exact i.msup b o (Nat.lt_of_lt_of_le I h.size) U (h.msup b o I O Z)
def Kl(M:iB)(S:J1):iB:=fun b x=>M b x∨(b=S.blk∧S.off≤x∧x<S.off+S.ext)
theorem ah2{B:l8}{st:St}{w w':World}{β:iL}{M:iB}(h:iU B st w β M)(W:w'.os=w.os)(X:w'.tape=w.tape)(FD:w'.output=w.output)(po:w.heap.size≤w'.heap.size)(r: ∀b,b<w.heap.size→w'.heap[b]? =w.heap[b]?)
  (k g:Nat) (hg:st.gens .L k<g) (S:J1) (hS:w.heap.size≤S.blk) (hS2:S.blk<w'.heap.size) (ob:Ob)
  (ho:kY (nv β .L k g S) (st.up (.L,k,⟨g,ob⟩)).gens w' (Kl M S) .L k ⟨g,ob⟩):
  iU B (st.up (.L,k,⟨g,ob⟩)) w' (nv β .L k g S) (Kl M S)∧Tr st w β M (st.up (.L,k,⟨g,ob⟩)) w' (nv β .L k g S) (Kl M S):=by
 have hk:kQ w M w' (Kl M S):=⟨fun b o v F _=>by rw[oh (w:=w) (r b (yB F))];exact F,fun b es c F _=>by rw[r b (rG F)];exact F,fun b x H hm=>hm.resolve_right (fun e=>by have:=e.1;omega)⟩
 have H: ∀i k' Y,Y≤st.gens i k'→nv β .L k g S i k' Y=β i k' Y:=by
  grind [yD]
 have hG: ∀i k',st.gens i k'≤(st.up (.L,k,⟨g,ob⟩)).gens i k':=by
  intro i k'
  rw[lH]
  grind
 have V: ∀i k',(nv β .L k g S i k' ((st.up (.L,k,⟨g,ob⟩)).gens i k'))=if i= .L∧k'=k then S else β i k' (st.gens i k'):=by
  grind [lH,jA]
 refine⟨⟨fun i k'=> ?_,fun Z k1 sp2 k2 I J N=> ?_,fun b x hm=> ?_,fun k' D=> ?_,fun k' D=> ?_,W.trans h.os,X.trans h.tape,FD.trans h.output,Nat.le_trans h.size po,fun b H hn=> ?_,h.keep.trans hk h.size,fun b x h1 h2 h3=> .inl (h.msup b x h1 h2 h3)⟩,hk,H,hG⟩
 ·rw[mb]
  split
  ·grind
  ·exact kY.mono hk H hG (Nat.le_refl _) (fun D=>r _ (h.lt D)) (fun _ _ hm=> .inl hm) (h.obj i k')
 ·rw[V,V]at N
  rw[mb]at I J
  by_cases O:Z= .L∧k1=k <;> by_cases U:sp2= .L∧k2=k
  ·grind
  ·rw[if_pos O,if_neg U]at N;rw[if_neg U]at J
   have:=h.lt J;omega
  ·rw[if_neg O,if_pos U]at N;rw[if_neg O]at I
   have:=h.lt I;omega
  ·rw[if_neg O,if_neg U]at N;rw[if_neg O]at I;rw[if_neg U]at J
   exact h.dist _ _ _ _ I J N
 ·rcases hm with hm|hm
  ·exact Nat.lt_of_lt_of_le (h.mlt b x hm) po
  ·grind
 ·rw[V];rw[mb]at D
  split
  ·exact Nat.le_trans h.size hS
  ·rename_i e;rw[if_neg e]at D;exact h.lblk k' D
 ·rw[V];rw[mb]at D
  rw[if_neg (by rintro⟨e,_⟩;cases e)]at D ⊢
  exact h.sblk k' D
 ·have:=h.size
  rw[r b (by omega)];exact h.same b H hn
theorem vS{w w':World}{M M':iB}: ∀{cs:List T} {i:List Value},cs.all pH=true→PList w M cs i→PList w' M' cs i
 | [],i,_,h=>by grind [PList]
 |t::ts,i,hs,h=>by
  simp only[List.all_cons,Bool.and_eq_true]at hs
  simp only[PList]at h ⊢
  obtain⟨u,us,rfl,r,D⟩:=h
  refine⟨u,us,rfl, ?_,vS hs.2 D⟩
  have F:=hs.1
  cases t <;> simp[pH]at F <;> simpa only[PRel]using r
def OW:Value→Nat→Option Value
 | .tuple a,j=>if j<100 then a[j]? else match a[j/100-1]? with
   |some (.agg b)=>b[j%100]?
   |_=>none
 | .agg a,j=>a[j]?
 |v,_=>some v
def qc:Value→Nat→Value→Value
 | .tuple a,j,x=>if j<100 then .tuple (a.setIfInBounds j x)else match a[j/100-1]? with
   |some (.agg b)=> .tuple (a.setIfInBounds (j/100-1) (.agg (b.setIfInBounds (j%100) x)))
   |_=> .tuple a
 | .agg a,j,x=> .agg (a.setIfInBounds j x)
 |_,_,x=>x
abbrev oW:Value:= .slice none 0 0
section
variable{β:iL}{G:Sp→Nat→Nat}{w:World}{M:iB}
theorem gP.set: ∀{ts:List T} {i:List Value} (j:Nat) {t:T} {v:Value},gP β G w M ts i→fx β G w M t v→gP β G w M (ts.set j t) (i.set j v)
 | [],i,j,t,v,h,_=>by grind [gP]
 |t::ts,i,0,D,F,h,r=>by
  grind [gP]
 |t::ts,i,j+1,D,F,h,r=>by
  simp only[gP]at h;obtain⟨u,us,rfl,H,I⟩:=h
  simp only[List.set_cons_succ,gP]
  exact⟨_,_,rfl,H,gP.set j I r⟩
theorem yV{cs:List T}{j:Nat}{t:T}(h:cs.all single=true)(i:single t=true):(cs.set j t).all single=true:=by
 grind
theorem DQ{cs:List T}{j:Nat}{t u:T}(h:(cs.set j u).all single=true)(i:single t=true):(cs.set j t).all single=true:=by
 have:=yV (j:=j) h i
 simp_all
theorem Vo{r y t:T}{v u:Value}{j:Nat}(h:fx β G w M r v)(i:lA r j=some y)(D:fx β G w M t u)(hs:single t=true):
  (∃x,OW v j=some x∧fx β G w M y x)∧fx β G w M (iI r j t) (qc v j u):=by
 cases r
 case tup vs=>
  simp only[fx]at h;obtain⟨a,rfl,F⟩:=h
  simp only[lA]at i
  by_cases DR:j<100
  ·rw[if_pos DR]at i
   obtain⟨x,H,I⟩:=F.get i
   refine⟨⟨x,by simpa[OW,DR]using H,I⟩, ?_⟩
   simp only[iI,qc,fx,DR,if_true]
   exact⟨_,rfl,by simpa using gP.set j F D⟩
  ·rw[if_neg DR]at i
   cases hi:vs[j/100-1]? with
   |none=>grind
   |some V=>
    rw[hi]at i
    cases V <;> try (simp only at i;cases i;done)
    rename_i cs
    simp only at i
    obtain⟨x0,W,O⟩:=F.get hi
    simp only[fx]at O;obtain⟨b,rfl,U,X⟩:=O
    obtain⟨x,H,I⟩:=U.get i
    have J:a[j/100-1]? =some (.agg b):=by simpa using W
    refine⟨⟨x,by simpa[OW,DR,J]using H,I⟩, ?_⟩
    simp only[iI,qc,DR,if_false,hi,J,fx]
    refine⟨_,rfl, ?_⟩
    rw[Array.toList_setIfInBounds]
    refine gP.set _ F ?_
    simp only[fx]
    exact⟨_,rfl,by simpa using gP.set (j%100) U D,yV X hs⟩
 case agg cs=>
  simp only[fx]at h;obtain⟨a,rfl,F,N⟩:=h
  simp only[lA]at i
  obtain⟨x,H,I⟩:=F.get i
  refine⟨⟨x,by simpa[OW]using H,I⟩, ?_⟩
  simp only[iI,qc,fx]
  exact⟨_,rfl,by simpa using gP.set j F D,yV N hs⟩
 case any=>simp[lA]at i
 all_goals
  simp only[lA,Option.some.injEq]at i;subst i
  refine⟨⟨v, ?_,h⟩, ?_⟩
  ·simp only[fx,PRel]at h
   first
    |(subst h;rfl)
    |(obtain⟨_,rfl,_⟩:=h;rfl)
    |(obtain⟨_,_,rfl,_⟩:=h;rfl)
    |(obtain⟨_,_,_,rfl,_⟩:=h;rfl)
    |(obtain⟨_,_,_,_,rfl,_⟩:=h;rfl)
    |(obtain⟨_,rfl⟩:=h;rfl)
  ·simp only[fx,PRel]at h
   first
    |(subst h;exact D)
    |(obtain⟨_,rfl,_⟩:=h;exact D)
    |(obtain⟨_,_,rfl,_⟩:=h;exact D)
    |(obtain⟨_,_,_,rfl,_⟩:=h;exact D)
    |(obtain⟨_,_,_,_,rfl,_⟩:=h;exact D)
    |(obtain⟨_,rfl⟩:=h;exact D)
theorem uW{a:Array Value}{j:Nat}{x y:Value}(h:a[j]? =some x):(a.toList.set j y).set j x=a.toList:=by
 rw[List.set_set]
 have i:a.toList[j]? =some x:=by simpa using h
 grind [List.getElem?_eq_some_iff.1,List.set_getElem_self]
theorem DS(a:Array Value)(j:Nat)(x:Value): ∃b,qc (.tuple a) j x= .tuple b:=by
 simp only[qc]
 split
 ·grind
 ·split <;> exact⟨_,rfl⟩
theorem DT{v:Value}{j:Nat}(h: ∀a,qc v j oW≠ .tuple a)(i: ∀a,qc v j oW≠ .agg a):qc v j oW=oW∧OW v j=some v:=by
 cases v
 case tuple a=>obtain⟨b,r⟩:=DS a j oW;exact absurd r (h _)
 all_goals first|exact⟨rfl,rfl⟩|exact absurd rfl (i _)
theorem aaP{r t:T}{cv x:Value}{j:Nat}(h:fx β G w M (iI r j .nilsl) (qc cv j oW))(hx:OW cv j=some x)(H:fx β G w M t x)(hs:single t=true):fx β G w M (iI r j t) cv:=by
 cases r
 case tup vs=>
  by_cases DR:j<100
  ·simp only[iI,DR,if_true,fx]at h ⊢
   obtain⟨a,i,D⟩:=h
   cases cv <;> simp[qc,DR]at i
   rename_i a0
   subst i
   simp only[OW,DR,if_true]at hx
   refine⟨a0,rfl, ?_⟩
   have:=gP.set j D H
   grind [List.set_set,Array.toList_setIfInBounds,uW]
  ·have J: ∃a0 b,cv= .tuple a0∧a0[j/100-1]? =some (.agg b)∧b[j%100]? =some x:=by
    cases cv
    case tuple a0=>
     grind [OW,hi]
    all_goals
     exfalso
     simp only[iI,DR,if_false]at h
     split at h <;> (simp only[qc,fx]at h;obtain⟨_,h,_⟩:=h;cases h)
   obtain⟨a0,b,rfl,I,W⟩:=J
   simp only[qc,DR,if_false,I]at h
   simp only[iI,DR,if_false]at h ⊢
   split at h
   ·rename_i cs hi
    simp only[fx]at h ⊢
    obtain⟨a,i,D⟩:=h
    cases i
    refine⟨a0,rfl, ?_⟩
    have X:j/100-1<vs.length:=(List.getElem?_eq_some_iff.1 hi).1
    have F:fx β G w M (.agg (cs.set (j%100) .nilsl)) (.agg (b.setIfInBounds (j%100) oW)):=by
     obtain⟨x1,V,Y⟩:=D.get (List.getElem?_set_self X)
     rw[Array.toList_setIfInBounds,List.getElem?_set_self (by have:=(Array.getElem?_eq_some_iff.1 I).1;simpa using this)]at V
     cases V;exact Y
    have N:fx β G w M (.agg (cs.set (j%100) t)) (.agg b):=by
     simp only[fx]at F ⊢
     obtain⟨b1,Z,DE,O⟩:=F
     cases Z
     refine⟨b,rfl, ?_,DQ O hs⟩
     have:=gP.set (j%100) DE H
     rw[List.set_set,Array.toList_setIfInBounds,uW W]at this
     exact this
    have:=gP.set (j/100-1) D N
    rw[List.set_set,Array.toList_setIfInBounds,uW I]at this
    exact this
   ·simp only[fx]at h ⊢
    obtain⟨a,i,D⟩:=h
    cases i
    refine⟨a0,rfl, ?_⟩
    have:=gP.set (j/100-1) (t:= .any) (v:= .agg b) D (by simp only[fx])
    rw[List.set_set,Array.toList_setIfInBounds,uW I]at this
    exact this
 case agg cs=>
  simp only[iI,fx]at h ⊢
  obtain⟨a,i,D,U⟩:=h
  cases cv
  case tuple a'=>obtain⟨b,hb⟩:=DS a' j oW;rw[hb]at i;cases i
  all_goals simp[qc]at i
  rename_i a0
  subst i
  simp only[OW]at hx
  refine⟨a0,rfl, ?_,DQ U hs⟩
  have:=gP.set j D H
  grind [List.set_set,Array.toList_setIfInBounds,uW]
 case any=>simp only[iI,fx]
 all_goals
  simp only[iI,fx]at h ⊢
  obtain⟨h1,h2⟩:=DT (v:=cv) (j:=j) (fun a e=>by rw[e]at h;cases h) (fun a e=>by rw[e]at h;cases h)
  rw[h2]at hx
  cases hx
  exact H
def okC:T→Nat→Prop
 | .any,_=>False
 | .tup i,j=>j<100∨ ∃cs,i[j/100-1]? =some (.agg cs)
 |_,_=>True
theorem Vp{p:T}{v x:Value}{j:Nat}{cs:List T}{len:Nat}{ex:Bool}(F:okC p j)(h:fx β G w M p (qc v j oW))(hx:OW v j=some x):
  lA (iI p j (.sl cs len ex)) j=some (.sl cs len ex)∧fx β G w M (iI (iI p j (.sl cs len ex)) j .nilsl) (qc v j oW):=by
 have H:fx β G w M .nilsl oW:=by simp only[fx]
 cases p
 case tup vs=>
  simp only[fx]at h
  obtain⟨a,i,r⟩:=h
  by_cases DR:j<100
  ·cases v <;> simp[qc,DR]at i
   rename_i a0
   subst i
   simp only[OW,DR,if_true]at hx
   have MI:=gP.length _ _ r
   simp at MI
   obtain⟨V,_⟩:=Array.getElem?_eq_some_iff.1 hx
   refine⟨by simp only[iI,lA,DR,if_true];rw[List.getElem?_set_self (by omega)], ?_⟩
   simp only[iI,qc,fx,List.set_set,DR,if_true]
   refine⟨_,rfl, ?_⟩
   have:=gP.set j r H
   rw[Array.toList_setIfInBounds,List.set_set]at this
   rw[Array.toList_setIfInBounds];exact this
  ·have F:j<100∨ ∃cs,vs[j/100-1]? =some (.agg cs):=F
   obtain⟨Rh,hi⟩:=F.resolve_left DR
   cases v
   case tuple a0=>
    simp only[OW,DR,if_false]at hx
    cases hk:a0[j/100-1]? with
    |none=>grind
    |some W=>
     rw[hk]at hx
     cases W <;> try (simp only at hx;cases hx;done)
     rename_i b
     simp only at hx
     simp only[qc,DR,if_false,hk]at i ⊢
     cases i
     have O:j/100-1<vs.length:=(List.getElem?_eq_some_iff.1 hi).1
     have D:fx β G w M (.agg Rh) (.agg (b.setIfInBounds (j%100) oW)):=by
      obtain⟨x1,U,X⟩:=r.get hi
      rw[Array.toList_setIfInBounds,List.getElem?_set_self (by have:=(Array.getElem?_eq_some_iff.1 hk).1;simpa using this)]at U
      cases U;exact X
     simp only[fx]at D
     obtain⟨b1,Y,DE,I⟩:=D
     cases Y
     have J:=gP.length _ _ DE
     simp at J
     obtain⟨Z,_⟩:=Array.getElem?_eq_some_iff.1 hx
     refine⟨?_, ?_⟩
     ·simp only[iI,lA,DR,if_false,hi]
      rw[List.getElem?_set_self O]
      simp only
      rw[List.getElem?_set_self (by omega)]
     ·simp only[iI,DR,if_false,hi]
      rw[List.getElem?_set_self O]
      simp only[List.set_set,fx]
      refine⟨_,rfl, ?_⟩
      have h3:fx β G w M (.agg (Rh.set (j%100) .nilsl)) (.agg (b.setIfInBounds (j%100) oW)):=by
       simp only[fx]
       refine⟨_,rfl, ?_,yV I rfl⟩
       have:=gP.set (j%100) DE H
       rw[Array.toList_setIfInBounds,List.set_set]at this
       rw[Array.toList_setIfInBounds];exact this
      have:=gP.set (j/100-1) r h3
      rw[Array.toList_setIfInBounds,List.set_set]at this
      rw[Array.toList_setIfInBounds];exact this
   all_goals (simp only[qc]at i;cases i)
 case agg vs=>
  simp only[fx]at h
  obtain⟨a,i,r,N⟩:=h
  cases v
  case tuple a'=>obtain⟨b,hb⟩:=DS a' j oW;rw[hb]at i;cases i
  all_goals simp[qc]at i
  rename_i a0
  subst i
  simp only[OW]at hx
  have MI:=gP.length _ _ r
  simp at MI
  obtain⟨V,_⟩:=Array.getElem?_eq_some_iff.1 hx
  refine⟨by simp only[iI,lA];rw[List.getElem?_set_self (by omega)], ?_⟩
  simp only[iI,qc,fx,List.set_set]
  refine⟨_,rfl, ?_,yV N rfl⟩
  have:=gP.set j r H
  rw[Array.toList_setIfInBounds,List.set_set]at this
  rw[Array.toList_setIfInBounds];exact this
 case any=>exact F.elim
 all_goals
  refine⟨rfl, ?_⟩
  simp only[iI]
  have hp:qc v j oW=oW:=by
   grind [fx,PRel,DT]
  rw[hp];exact H
end
def Vq(P:Program)(f:Nat)(D:Bool)(args:List T)(sh:List b8)(r:T)(F:List b8):Prop:=
 ∀(w:World) (β:iL) (M:iB) (i:Array Value),iU ⟨w,M,lI sh β⟩ (bare .nil sh) w β M→oi D β (bare .nil sh).gens w M args i.toList→
  Calls P f i w fun e w'=> ∃cv H M',e= .returned cv∧iU ⟨w,M,lI sh β⟩ (bare .nil F) w' H M'∧(∀n g,g≤(iz sh n).g→H .S n g=β .S n g)∧(∀n,(iz sh n).g≤(iz F n).g)∧tC D H (bare .nil F).gens w' M' r cv
theorem MJ(p x y:T)(j:Nat)(h:single x=true):iI (iI p j x) j y=iI p j y:=by
 cases p
 case tup vs=>
  by_cases i:j<100
  ·grind [iI,List.set_set]
  grind [iI,List.set_eq_of_length_le,hi,List.getElem?_set_self,List.set_set,List.getElem?_eq_none_iff.1,List.getElem?_eq_some_iff.1]
 case agg vs=>simp only[iI,List.set_set]
 all_goals first|(simp only[iI];done)|(simp only[iI];cases x <;> first|rfl|cases h)
def arJ(w w':World)(M:iB)(r:T)(j:Nat)(cs:List T)(len:Nat)(cv:Value):Prop:=
 ∃(S:J1) (sz D:Nat) (c:Array Value) (el:TypeId),w.heap.size≤S.blk∧w'.heap[S.blk]? =some (.cells c el (0,0))∧S.off+S.ext≤c.size∧cs.length≤S.ext∧PList w' M cs ((c.toList.drop S.off).take cs.length)∧(rE (iI r j .nilsl)=true∨ ∀i,i<S.ext→M S.blk (S.off+i))∧
  cs.all single=true∧cs.length=len*sz∧len≠0∧len≤D∧D*sz≤S.ext∧OW cv j=some (.slice (some ⟨S.blk,S.off,none⟩) len D)∧ ∀β G,fx β G w' M (iI r j .nilsl) (qc cv j oW)
def Ri(P:Program)(f:Nat)(args:List T)(sh:List b8)(j:Nat)(r:T)(D:List b8):Prop:=
 ∀(w:World) (β:iL) (M:iB) (i:Array Value),iU ⟨w,M,lI sh β⟩ (bare .nil sh) w β M→oi false β (bare .nil sh).gens w M args i.toList→
  Calls P f i w fun e w'=> ∃cv F M',e= .returned cv∧iU ⟨w,M,lI sh β⟩ (bare .nil D) w' F M'∧
   ((lA r j=some .nilsl∧PRel w' M' r cv)∨ ∃cs len,lA r j=some (.sl cs len false)∧arJ w w' M' r j cs len cv)
def OX(i off r:Nat):Option Nat→Value
 |none=> .tuple #[]
 |some n=> .slice (some ⟨i,off,none⟩) n r
def arK(P:Program)(f:Nat)(h:List T→Option (List T×Option Nat)):Prop:=
 (∀r,h []=some ([],r)→r.getD 0=0→ ∀w:World,Calls P f #[oW] w fun e w'=>e= .returned (match r with|none=> .tuple #[]|some _=>oW)∧RowKit.Below w.heap.size w w')∧
 ∀cs F r,h cs=some (F,r)→F.length=cs.length→ ∀(w:World) (M:iB) (i off D:Nat) (c:Array Value) (el:TypeId) (H:List Value),w.heap[i]? =some (.cells c el (0,0))→off+cs.length≤c.size→cs.length≤D→(c.toList.drop off).take cs.length=H→PList w M cs H→
  Calls P f #[.slice (some ⟨i,off,none⟩) cs.length D] w fun e w'=> ∃us,e= .returned (OX i off D r)∧PList w M F us∧RowKit.Below w.heap.size (setBlock w i (.cells (splice c.toList off us).toArray el)) w'
def uo(P:Program)(E:Env):Prop:=
 (∀f af,E.fn f=some af→ ∃hs D,P.funcs[f]? =some D∧Gb P hs af.eff D=some af)∧
 (∀f g,E.fn f=none→E.ext f=some g→(∃D,P.funcs[f]? =some D∧(D.name== "runtime.NumGoroutine")=false∧D.body.isSome=true)∧
   ∀args r,g args=some r→ ∀(w:World) (M:iB) (i:Array Value),(∀b o,M b o→b<w.heap.size)→PList w M args i.toList→
    Calls P f i w fun e w'=> ∃cv,e= .returned cv∧RowKit.Below w.heap.size w w'∧PRel w' (fun b _=>b<w.heap.size) r cv)∧
 (∀f h,E.fn f=none→E.ext f=none→E.wr f=some h→(∃D,P.funcs[f]? =some D∧(D.name== "runtime.NumGoroutine")=false∧D.body.isSome=true)∧
   arK P f h)
def yW(P:Program)(E:Env)(call:qa):Prop:= ∀f af args sh r i,E.fn f=some af→call f args sh=some (r,i)→(af.own=none→Vq P f af.eff args sh r i)∧(∀j,af.own=some j→af.eff=false∧Ri P f args sh j r i)
theorem DU{st jf:St}{a:Act}{w w':World}{β iO:iL}{M M':iB}{n:Nat}{d:Option Nat}{v:T}{cv:Value}{fr:Fr}(i:og st a w β M n)(F:Tr st w β M jf w' iO M')(r:nn st.fr n d v=some fr)(H:fx iO jf.gens w' M' v cv):
  og {jf with fr} (a.put d cv) w' iO M' n:=by
 cases d with
 |none=>
  simp[nn]at r;subst r
  exact⟨i.size,i.defers,fun t=>F.val (i.slot t)⟩
 |some d=>
  simp only[nn]at r
  split at r
  ·rename_i I
   simp at r;subst r
   refine⟨by simp[Act.put,i.size],i.defers,fun t=> ?_⟩
   have J:an (kg st.fr d v) t=if t=d then v else an st.fr t:=qD st.fr d v t
   have N:(a.put (some d) cv).tmps.getD t undef=if t=d then cv else a.tmps.getD t undef:=by
    simp only[Act.put,Array.getD_eq_getD_getElem?,Array.getElem?_setIfInBounds]
    by_cases D:d=t
    ·subst D;rw[if_pos rfl,if_pos (by rw[i.size];exact I),if_pos rfl];rfl
    ·grind
   show fx iO jf.gens w' M' (an (kg st.fr d v) t) _
   rw[J,N]
   split
   ·exact H
   ·exact F.val (i.slot t)
  ·cases r
end Go.Ev
namespace Go.Ev
open Go
theorem aaQ{B:l8}{st:St}{w:World}{β:iL}{M:iB}(h:iU B st w β M)(fr:Fr):iU B {st with fr} w β M:=
 ⟨h.obj,h.dist,h.mlt,h.lblk,h.sblk,h.os,h.tape,h.output,h.size,h.same,h.keep,h.msup⟩
theorem Tr.fr{st jf:St}{w w':World}{β iO:iL}{M M':iB}(h:Tr st w β M jf w' iO M')(fr:Fr):Tr st w β M {jf with fr} w' iO M':=⟨h.keep,h.beta,h.gens⟩
theorem MK{w w':World}{M M':iB}{r:T}{cv:Value}(hs:scalar r=true)(h:PRel w M r cv):PRel w' M' r cv:=by
 cases r <;> simp[scalar]at hs
 case tup vs=>
  simp only[PRel]at h ⊢
  obtain⟨a,rfl,i⟩:=h
  refine⟨a,rfl, ?_⟩
  generalize a.toList=l at i
  induction vs generalizing l with
  |nil=>grind [PList]
  |cons t ts ih=>
   simp only[PList]at i ⊢
   obtain⟨u,us,rfl,D,F⟩:=i
   have H:=hs t (by simp)
   grind [PRel]
 all_goals simpa only[PRel]using h
theorem xp{β iO:iL}{G G':Sp→Nat→Nat}{w w':World}{M M':iB}: ∀{cs:List T} {i:List Value},cs.all pH=true→gP β G w M cs i→gP iO G' w' M' cs i
 | [],i,_,h=>by grind [gP]
 |t::ts,i,hs,h=>by
  simp only[List.all_cons,Bool.and_eq_true]at hs
  simp only[gP]at h ⊢
  obtain⟨u,us,rfl,r,D⟩:=h
  refine⟨u,us,rfl, ?_,xp hs.2 D⟩
  have F:=hs.1
  cases t <;> simp[pH]at F <;> simpa only[fx]using r
theorem Rj{w w':World}{M M':iB}{r:T}{cv:Value}(hs:rE r=true)(h:PRel w M r cv):PRel w' M' r cv:=by
 cases r <;> simp[rE,pH]at hs
 case tup vs=>
  simp only[PRel]at h ⊢
  obtain⟨a,rfl,i⟩:=h
  refine⟨a,rfl, ?_⟩
  generalize a.toList=l at i
  induction vs generalizing l with
  |nil=>grind [PList]
  |cons t ts ih=>
   simp only[PList]at i ⊢
   obtain⟨u,us,rfl,D,I⟩:=i
   have H:=hs t (by simp)
   refine⟨u,us,rfl, ?_,ih (fun x hx=>hs x (by simp[hx])) us I⟩
   cases t <;> simp[pH]at H <;> try (simpa only[PRel]using D;done)
   simp only[PRel]at D ⊢
   obtain⟨b,rfl,J,F⟩:=D
   exact⟨b,rfl,vS (List.all_eq_true.2 fun x hx=>H x hx) J,F⟩
 case agg vs=>
  simp only[PRel]at h ⊢
  obtain⟨a,rfl,i,F⟩:=h
  exact⟨a,rfl,vS (List.all_eq_true.2 fun x hx=>hs x hx) i,F⟩
 all_goals simpa only[PRel]using h
theorem ML{β iO:iL}{G G':Sp→Nat→Nat}{w w':World}{M M':iB}{r:T}{cv:Value}(hs:rE r=true)(h:fx β G w M r cv):fx iO G' w' M' r cv:=by
 cases r <;> simp[rE,pH]at hs
 case tup vs=>
  simp only[fx]at h ⊢
  obtain⟨a,rfl,i⟩:=h
  refine⟨a,rfl, ?_⟩
  generalize a.toList=l at i
  induction vs generalizing l with
  |nil=>grind [gP]
  |cons t ts ih=>
   simp only[gP]at i ⊢
   obtain⟨u,us,rfl,D,I⟩:=i
   have H:=hs t (by simp)
   refine⟨u,us,rfl, ?_,ih (fun x hx=>hs x (by simp[hx])) us I⟩
   cases t <;> simp[pH]at H <;> try (simpa only[fx]using D;done)
   simp only[fx]at D ⊢
   obtain⟨b,rfl,J,F⟩:=D
   exact⟨b,rfl,xp (List.all_eq_true.2 fun x hx=>H x hx) J,F⟩
 case agg vs=>
  simp only[fx]at h ⊢
  obtain⟨a,rfl,i,F⟩:=h
  exact⟨a,rfl,xp (List.all_eq_true.2 fun x hx=>hs x hx) i,F⟩
 all_goals simpa only[fx]using h
section
variable{P:Program}{E:Env}{call:qa}{B:l8}{st:St}{a:Act}{w:World}{β:iL}{M:iB}{o:Oper}
theorem tH{f:Nat}{r:Func}(F:P.funcs[f]? =some r)(H:(r.name== "runtime.NumGoroutine")=false)(D:r.body.isSome=true)(i:Array Value)(w:World):(callFunc f i).run P w= .ok (.enter f i) w:=by
 have I: ¬r.name= "runtime.NumGoroutine" :=by simpa using H
 have J: ¬r.body=none:=by intro e;rw[e]at D;simp at D
 simp[callFunc,F,I,J]
theorem Rk(I:pJ β st.gens w M st.rho a.eval){c:Call}(N:o.op= .call c){sh:Nat}{Mh:mH}(hc:sI P sh c=some Mh){f:Nat}{i:List T}(D:jr st.rho Mh=some (some (f,i))):
  ∃r:Array Value,(execOp a.eval o).run P w=(callFunc f r).run P w∧gP β st.gens w M i r.toList:=by
 unfold sI at hc
 split at hc
 ·rename_i O F
  simp only[Option.map_eq_some_iff]at hc
  obtain⟨as,H,rfl⟩:=hc
  simp[jr]at D
  obtain⟨rfl,rfl⟩:=D
  refine⟨c.args.map a.eval, ?_,by simpa using vQ I H⟩
  simp[execOp,N,resolve,F,Deferred.ofValue,Act.eval,invoke]
 ·rename_i x mB F
  split at hc
  ·rename_i y as H U
   simp at hc;subst hc
   simp only[jr,Option.some.injEq]at D
   split at D
   ·rename_i O fa fc e
    simp at D
    obtain⟨rfl,rfl⟩:=D
    have J:=I x y H
    rw[e]at J
    simp only[fx]at J
    obtain⟨V,W,X,Y,Z⟩:=J
    refine⟨V++c.args.map a.eval++W, ?_, ?_⟩
    ·simp[execOp,N,resolve,F,X,Deferred.ofValue,invoke]
    ·have:=gP.append (gP.append Y (vQ I U)) Z
     simpa using this
   ·simp at D
  ·cases hc
 all_goals
  exfalso
  revert D
  try (simp only[Option.map_eq_some_iff]at hc;obtain⟨as,H,rfl⟩:=hc;simp[jr];done)
  try (cases hc;done)
 ·grind [jr]
 ·split at hc
  ·grind [jr]
  ·cases hc
theorem Rm{sh:Nat}{op:Op}{Mh:mH}{ρ:iF→T}{x:Option (Nat×List T)}(h:jZ P sh op=some Mh)(hc:jr ρ Mh=some x): ∃c,op= .call c∧sI P sh c=some Mh:=by
 cases op with
 |call c=>exact⟨c,rfl,h⟩
 |makeFunc i first D=>
  exfalso
  cases i <;> simp only[jZ]at h <;> try (cases h;done)
  grind [jr]
 |makeMap t r=>
  exfalso
  cases r <;> simp only[jZ]at h
  ·grind [jr]
  ·cases h
 |_=>
  grind [jZ,Option.map_eq_some_iff,jr]
theorem arL(h:iU B st w β M){f:Nat}{g:List T→Option (List T×Option Nat)}
  (mR: ∀r,g []=some ([],r)→r.getD 0=0→ ∀w:World,Calls P f #[oW] w fun e w'=>e= .returned (match r with|none=> .tuple #[]|some _=>oW)∧RowKit.Below w.heap.size w w')
  (xq: ∀cs X r,g cs=some (X,r)→X.length=cs.length→ ∀(w:World) (M:iB) (O off H:Nat) (c:Array Value) (el:TypeId) (vs:List Value),w.heap[O]? =some (.cells c el (0,0))→off+cs.length≤c.size→cs.length≤H→(c.toList.drop off).take cs.length=vs→PList w M cs vs→
    Calls P f #[.slice (some ⟨O,off,none⟩) cs.length H] w fun e w'=> ∃us,e= .returned (OX O off H r)∧PList w M X us∧RowKit.Below w.heap.size (setBlock w O (.cells (splice c.toList off us).toArray el)) w')
  {J:List T} {D:Array Value} (hv:gP β st.gens w M J D.toList) {r:T} {AK:St} (i:U5 g st J=some (r,AK)):
  AK.fr=st.fr∧Calls P f D w fun e w'=> ∃cv U M',e= .returned cv∧iU B AK w' U M'∧Tr st w β M AK w' U M'∧w.heap.size≤w'.heap.size∧fx U AK.gens w' M' r cv:=by
 unfold U5 at i
 split at i
 ·have hc:D= #[oW]:=by
   grind [gP,fx,Array.toList_inj.1]
  subst hc
  have fin: ∀V:Option Nat,g []=some ([],V)→V.getD 0=0→AK=st→(∀U M' w',fx U st.gens w' M' r (match V with|none=> .tuple #[]|some _=>oW))→
    AK.fr=st.fr∧Calls P f #[oW] w fun e w'=> ∃cv U M',e= .returned cv∧iU B AK w' U M'∧Tr st w β M AK w' U M'∧w.heap.size≤w'.heap.size∧fx U AK.gens w' M' r cv:=by
   rintro V Z h0 rfl hr
   refine⟨rfl,(mR V Z h0 w).mono ?_⟩
   rintro e w' ⟨rfl,I⟩
   obtain⟨o1,o2⟩:=Kk h I.os I.tape I.output I.size I.block
   exact⟨_,β,M,rfl,o1,o2,I.size,hr _ _ _⟩
  split at i
  ·grind [Option.some.injEq,Prod.mk.injEq,fx,gP]
  ·rename_i Z
   simp only[Option.some.injEq,Prod.mk.injEq]at i
   obtain⟨rfl,rfl⟩:=i
   simp_all[fx,oW]
  ·cases i
 ·rename_i sp k g0 off len
  simp only[gP,fx]at hv
  obtain⟨u,us,h1,⟨aFp,H,rfl,hlc,hce⟩,rfl⟩:=hv
  have hc:D= #[.slice (some ⟨(β sp k g0).blk,(β sp k g0).off+off,none⟩) len H]:=Array.toList_inj.1 h1
  subst hc
  generalize he:st.get sp k=e0 at i
  obtain⟨N,ob⟩:=e0
  cases ob with
  |none=>cases i
  |map _ _ _=>cases i
  |cells cs wm bx=>
  cases bx with
  |true=>cases i
  |false=>
  dsimp only at i
  split at i
  ·rename_i arM
   obtain⟨rfl,Kc,wq⟩:=arM
   split at i
   ·rename_i X V Z
    split at i
    ·rename_i ZQ
     obtain⟨OO,hy2,hy3⟩:=ZQ
     simp only[Option.some.injEq,Prod.mk.injEq]at i
     obtain⟨rfl,rfl⟩:=i
     have B2:=h.obj sp k
     rw[he]at B2
     unfold kY at B2
     obtain⟨c,el,fz,DM,h2,h3,h4,h5,h6,h7,h8⟩:=B2
     dsimp only at DM h2 h3 h4 h5 h6
     subst h4
     have F:((cs.drop off).take len).length=len:=by rw[List.length_take,List.length_drop];omega
     have mJ:c.toList.length=c.size:=by simp
     have hpl:PList w M ((cs.drop off).take len) ((c.toList.drop ((β sp k N).off+off)).take len):=by
      have q:=PList.take len (PList.drop off (show PList w M cs ((c.toList.drop (β sp k N).off).take cs.length)from h5))
      rw[List.drop_take,List.take_take,List.drop_drop,Nat.min_eq_left (by omega)]at q
      exact q
     have im:=xq _ X V Z (by rw[F];exact OO) w M (β sp k N).blk ((β sp k N).off+off) H c el _ DM (by rw[F];omega) (by rw[F];exact hlc) (by rw[F]) hpl
     rw[F]at im
     refine⟨afF _ _,im.mono ?_⟩
     rintro e w' ⟨us,rfl,Y,I⟩
     have hul:us.length=len:=by rw[←PList.length _ _ Y];exact OO
     have W:=yN h he N (Nat.le_refl _) DM off us (splice cs off X) Kc (by omega) (by rw[kh];omega) (by rw[kh];exact h3) (tG h7 hy2) (by
      rw[kh]
      have Vj:(splice (c.toList.drop (β sp k N).off) off us).take cs.length=splice ((c.toList.drop (β sp k N).off).take cs.length) off us:=by
       apply List.ext_getElem?
       intro j
       rw[List.getElem?_take,lX,lX,List.getElem?_take,List.length_take]
       by_cases hj:j<cs.length
       ·rw[if_pos hj,if_pos hj]
        by_cases hc:off≤j∧j<off+us.length∧j<(c.toList.drop (β sp k N).off).length
        ·rw[if_pos hc,if_pos (by omega)]
        ·rw[if_neg hc,if_neg (by omega)]
       ·rw[if_neg hj,if_neg hj,if_neg (by omega)]
      rw[Vj]
      exact PList.splice h5 Y)
     rw[sL]at W
     have po:=lv w (β sp k N).blk (.cells (splice c.toList ((β sp k N).off+off) us).toArray el)
     obtain⟨o1,o2⟩:=Kk W.1 I.os I.tape I.output I.size fun b hb=>I.block b (by rw[po]at hb;exact hb)
     refine⟨_,β,M,rfl,o1,W.2.trans o2 (by rw[po];exact Nat.le_refl _),by rw[←po];exact I.size, ?_⟩
     cases V with
     |none=>simp[ahx,OX,fx,gP]
     |some n=>
      simp only[ahx,OX,fx]
      refine⟨?_,H,rfl, ?_,hce⟩
      ·rw[lH,if_pos ⟨rfl,rfl⟩];exact Nat.le_refl _
      ·simp at hy3;omega
    ·cases i
   ·cases i
  ·cases i
 ·cases i
theorem Rn(hE:uo P E)(hO:yW P E call)(h:iU B st w β M){f:Nat}{J:List T}{F:Array Value}(hv:gP β st.gens w M J F.toList){r:T}{AK:St}{d:Nat}(D:je E call d st f J=some (r,AK)):
  (callFunc f F).run P w= .ok (.enter f F) w∧AK.fr=st.fr∧
  Calls P f F w fun e w'=> ∃cv I M',e= .returned cv∧iU B AK w' I M'∧Tr st w β M AK w' I M'∧w.heap.size≤w'.heap.size∧fx I AK.gens w' M' r cv:=by
 unfold je at D
 split at D
 ·rename_i af Cp
  obtain⟨hs,fn,hf,yX⟩:=hE.1 f af Cp
  have hnb:(fn.name== "runtime.NumGoroutine")=false∧fn.body.isSome=true:=by
   grind [Gb]
  refine⟨tH hf hnb.1 hnb.2 _ _, ?_⟩
  split at D
  ·rename_i q hq
   obtain⟨ts,us⟩:=q
   obtain⟨M1,X,q2,q3,q4,q5,q6⟩:=pn (fun t=>Bw af.eff st iG t) J B st w β M _ ts us _ (Fz.refl st) h hv hq
   split at D
   ·rename_i tI
    simp only[Option.map_eq_some_iff]at D
    obtain⟨⟨N,iT⟩,im,D⟩:=D
    simp at D
    obtain⟨rfl,rfl⟩:=D
    refine⟨Ht st us, ?_⟩
    have xt:af.own=none:=by
     cases ho:af.own with
     |none=>rfl
     |some j=>rw[((hO f af ts (st.ups us).sh N iT Cp im).2 j ho).1]at tI;cases tI
    have W:=(hO f af ts (st.ups us).sh N iT Cp im).1 xt
    rw[tI]at q4 W
    have hx:oi true β (bare .nil (st.ups us).sh).gens w M1 ts F.toList:=by
     intro I G' p1 p2
     refine q4 I G' (fun k g hg=>p1 k g ?_) (fun k=>Nat.le_trans (Nat.le_of_eq ?_) (p2 k))
     ·have:(bare .nil (st.ups us).sh).gens .S k=(st.ups us).gens .S k:=rfl
      rw[this,q2.gens];exact hg
     ·have:(bare .nil (st.ups us).sh).gens .S k=(st.ups us).gens .S k:=rfl
      rw[this,q2.gens]
    refine(W w β M1 F (aaO X .nil) hx).mono ?_
    rintro e w' ⟨cv,I,M',rfl,H,Fv,hG,hr⟩
    obtain⟨b1,b2⟩:=ah1 X H Fv hG
    refine⟨cv,_,M',rfl,b1,(Tr.fz q2 q3).trans b2 (Nat.le_refl _),H.size, ?_⟩
    exact hr _ _ (fun _ _ _=>rfl) (fun _=>Nat.le_refl _)
   ·rename_i tI
    simp at tI
    split at D
    ·rename_i r0 im
     obtain⟨N,iT⟩:=r0
     rw[tI]at q4
     have xU: ∀b,¬lI [] β b:=by rintro b ⟨k,hl,_⟩;simp[iz,iE]at hl;exact hl.elim
     have FE:iU ⟨w,M1,lI [] β⟩ (bare .nil []) w β M1:=by
      have h0:=Vn X .nil
      exact⟨h0.obj,h0.dist,h0.mlt,fun k hl=>h0.lblk k hl,fun k hl=>(h0.sblk k hl).imp (fun e=>e.elim) id,rfl,rfl,rfl,Nat.le_refl _,fun _ _ _=>rfl,kQ.refl w M1,fun _ _ _ _ Y=>Y⟩
     have U: ∀(c:Bool),(c=true→ ∀{w1 M1 w2 M2 cv},PRel w1 M1 N cv→PRel w2 M2 N cv)→ ∀(w':World) (cv:Value) (I:iL) (M':iB) (Ro:St),Ro=(if c=true then st else st.ups us)→iU ⟨w,M1,lI [] β⟩ (bare .nil iT) w' I M'→PRel w' M' N cv→
       ∃V I M',Ending.returned cv= .returned V∧iU B Ro w' I M'∧Tr st w β M Ro w' I M'∧w.heap.size≤w'.heap.size∧fx I Ro.gens w' M' N V:=by
      intro c Rp w' cv I M' Ro DV H hr'
      have O:=fun b (Z:b<w.heap.size)=>H.same b Z (xU b)
      by_cases nk:c=true
      ·rw[if_pos nk]at DV;subst DV
       obtain⟨o1,o2⟩:=Kk h H.os H.tape H.output H.size O
       exact⟨cv,β,M,rfl,o1,o2,H.size,PRel.toV _ _ _ _ (Rp nk hr')⟩
      ·rw[if_neg nk]at DV;subst DV
       obtain⟨o1,o2⟩:=Kk X H.os H.tape H.output H.size O
       refine⟨cv,β,M1,rfl,o1,(Tr.fz q2 q3).trans o2 (Nat.le_refl _),H.size,PRel.toV _ _ _ _ (PRel.mono (kE ?_) _ _ hr')⟩
       intro b x Y
       have Z:=X.mlt b x Y
       exact H.msup b x Z (xU b) Y
     cases xt:af.own with
     |none=>
      simp only[xt]at D
      simp at D
      obtain⟨rfl,DV⟩:=D
      have W:=(hO f af ts [] N iT Cp im).1 xt
      rw[tI]at W
      have ah5:AK.fr=st.fr:=by rw[←DV];split;rfl;exact Ht st us
      refine⟨ah5,(W w β M1 F FE q4).mono ?_⟩
      rintro e w' ⟨cv,I,M',rfl,H,Fv,hG,hr⟩
      exact U (scalar N) (fun h=>MK h) w' cv I M' AK DV.symm H hr
     |some j=>
      simp only[xt]at D
      have W:=((hO f af ts [] N iT Cp im).2 j xt).2
      unfold xl at D
      have ah5:AK.fr=st.fr:=by
       split at D
       ·simp at D;obtain⟨_,rfl⟩:=D;split;rfl;exact Ht st us
       ·split at D
        ·simp at D;obtain⟨_,rfl⟩:=D;show(ite _ _ _:St).fr=_;split;rfl;exact Ht st us
        ·cases D
       ·cases D
      refine⟨ah5,(W w β M1 F FE q4).mono ?_⟩
      rintro e w' ⟨cv,I,M',rfl,H,hr⟩
      rcases hr with⟨hc,hr⟩|⟨cs,len,hc,S,sz,cap,c,el,s1,s2,s3,s4,s5,s6,s7,s8,s9,s10,s11,s12,s13⟩
      ·rw[hc]at D
       simp at D;obtain⟨rfl,DV⟩:=D
       exact U (rE N) (fun h=>Rj h) w' cv I M' AK DV.symm H hr
      ·rw[hc]at D
       simp only at D
       split at D
       ·rename_i hcs
        have po:cs.length/len=sz:=by rw[s8];exact Nat.mul_div_cancel_left _ (Nat.pos_of_ne_zero s9)
        rw[po]at D
        have O:=fun b (Z:b<w.heap.size)=>H.same b Z (xU b)
        have fin: ∀(Ro:St) (M3:iB),iU B Ro w β M3→Tr st w β M Ro w β M3→(∀β G,fx β G w' (Kl M3 S) (iI N j .nilsl) (qc cv j oW))→
          some (iI N j (.isl .L d ((Ro.get .L d).g+1) 0 len sz),Ro.up (.L,d,⟨(Ro.get .L d).g+1,.cells cs 0 false⟩))=some (r,AK)→
          ∃V I M',Ending.returned cv= .returned V∧iU B AK w' I M'∧Tr st w β M AK w' I M'∧w.heap.size≤w'.heap.size∧fx I AK.gens w' M' r V:=by
         intro Ro M3 h3 t3 Ti D
         simp only[Option.some.injEq,Prod.mk.injEq]at D
         obtain⟨rfl,rfl⟩:=D
         obtain⟨o1,o2⟩:=ah2 h3 H.os H.tape H.output H.size O d ((Ro.get .L d).g+1) (Nat.lt_succ_self _) S s1 (rG s2) (.cells cs 0 false) (by
          unfold kY
          simp only[jA]
          exact⟨c,el,(0,0),s2,s3,s4,rfl,vS hcs.1 s5,fun i _ hi=> .inr ⟨rfl,by omega,by omega⟩,s7,Nat.zero_le _⟩)
         refine⟨cv,_,_,rfl,o1,t3.trans o2 (Nat.le_refl _),H.size,aaP (Ti _ _) s12 ?_ rfl⟩
         simp only[fx]
         rw[jA]
         exact⟨by simp[lH],cap,rfl,s10,by simpa using s11⟩
        by_cases nk:rE (iI N j .nilsl)=true
        ·simp only[nk,if_true]at D
         exact fin st M h (Tr.refl _ _ _ _) (fun β G=>ML nk (s13 β G)) D
        ·simp only[nk,Bool.false_eq_true,if_false]at D
         refine fin (st.ups us) M1 X (Tr.fz q2 q3) (fun β G=>fx.mono (kE ?_) (fun _ _ _ _=>rfl) (fun _ _=>Nat.le_refl _) _ _ (s13 β G)) D
         rintro b x (Y|⟨rfl,h1,h2⟩)
         ·exact H.msup b x (X.mlt b x Y) (xU b) Y
         ·have:=(s6.resolve_left nk) (x-S.off) (by omega)
          rwa [show S.off+(x-S.off)=x by omega]at this
       ·cases D
    ·cases D
  ·cases D
 ·rename_i g Cp Kd
  split at D
  ·rename_i q hq
   obtain⟨ts,us⟩:=q
   simp only[Option.map_eq_some_iff]at D
   obtain⟨N,hg,D⟩:=D
   simp at D
   obtain⟨rfl,rfl⟩:=D
   obtain⟨⟨fn,hf,hn,Z⟩,W⟩:=hE.2.1 f g Cp Kd
   obtain⟨M1,X,q2,q3,q4,q5,q6⟩:=pn (fun t=>Bw false st iG t) J B st w β M _ ts us _ (Fz.refl st) h hv hq
   refine⟨tH hf hn Z _ _,rfl,(W ts N hg w M1 F X.mlt q4).mono ?_⟩
   rintro e w' ⟨cv,rfl,sM,hr⟩
   obtain⟨o1,o2⟩:=Kk h sM.os sM.tape sM.output sM.size sM.block
   exact⟨cv,β,M,rfl,o1,o2,sM.size,PRel.toV _ _ _ _ (PRel.mono (kE (fun b x Y=>h.mlt b x Y)) _ _ hr)⟩
  ·cases D
 ·rename_i Cp Kd
  split at D
  ·rename_i g hwr
   obtain⟨⟨fn,hf,hn,Z⟩,mR,W⟩:=hE.2.2 f g Cp Kd hwr
   refine⟨tH hf hn Z _ _, ?_⟩
   grind [arL]
  ·cases D
variable{ops:Array Oper}{Q:Exit→Act→World→Prop}{n:Nat}{K:Act→World→Prop}
theorem MM(i:og st a w β M n){j d:Nat}(r:(ops[j]?).bind (·.dst)=some d)(D:an st.fr d≠ .any):yielded ops a.tmps j=match an st.fr d with| .b x=>some x|_=>none:=by
 unfold yielded
 rw[r]
 simp only[Option.bind_some]
 have hs:=i.slot d
 rw[Array.getD_eq_getD_getElem?]at hs
 cases hx:a.tmps[d]? with
 |none=>
  rw[hx]at hs
  simp only[Option.getD_none]at hs
  generalize an st.fr d=t at*
  cases t
  case any=>grind
  all_goals (simp only[fx,PRel,undef]at hs;simp_all)
 |some cv=>
  rw[hx]at hs
  simp only[Option.getD_some]at hs
  generalize an st.fr d=t at*
  cases t <;> simp only[fx,PRel]at hs
  case b x=>subst hs;rfl
  case any=>grind
  all_goals first
   |(subst hs;rfl)
   |(obtain⟨_,rfl,_⟩:=hs;rfl)
   |(obtain⟨_,_,rfl,_⟩:=hs;rfl)
   |(obtain⟨_,_,_,rfl,_⟩:=hs;rfl)
   |(obtain⟨_,_,_,_,rfl,_⟩:=hs;rfl)
   |(obtain⟨_,rfl⟩:=hs;rfl)
theorem rJ(hE:uo P E)(hO:yW P E call){hs:List Nat}{ao:dy}{i:Nat}(hi:ops[i]? =some o)(hc:uQ P hs ops o=some ao)(h:iU B st w β M)(I:og st a w β M n){H:St}(N:jd E call n ao st=some H)
  (O: ∀Y w' D M',iU B H w' D M'→og H Y w' D M' n→Tr st w β M H w' D M'→w.heap.size≤w'.heap.size→K Y w'):wpOp P ops Q i K a w:=by
 have Z:=U8 I
 unfold wpOp
 rw[hi]
 simp only
 unfold uQ at hc
 split at hc
 ·rename_i Mh Gu
  have core: ∀gd,ao=⟨o.dst,Mh,gd⟩→(match jr st.rho Mh with
    |some (some c)=>match je E call (o.dst.getD 0) st c.1 c.2 with
     |some r=>(nn st.fr n o.dst r.1).map fun fr=>({r.2 with fr}:St)
     |none=>none
    |some none=>none
    |none=>match(jk (o.dst.getD 0) st.rho Mh).run st.get st.sh.length with
     |some (.val v ups)=>(nn st.fr n o.dst v).map fun fr=>({st.ups ups with fr}:St)
     |none=>none)=some H→o.wp P a w K Q:=by
   intro gd _ B5
   unfold Oper.wp
   split at B5
   ·rename_i c im
    obtain⟨f,U⟩:=c
    split at B5
    ·rename_i r V
     obtain⟨r,AK⟩:=r
     simp only[Option.map_eq_some_iff]at B5
     obtain⟨fr,J,rfl⟩:=B5
     have F:=Rm Gu im
     obtain⟨c,ho,F⟩:=F
     obtain⟨W,hx,uT⟩:=Rk Z ho F im
     obtain⟨d1,d2,d3⟩:=Rn hE hO h uT V
     rw[hx,d1,Oper.upon_enter]
     refine d3.mono ?_
     rintro e w' ⟨cv,D,M',rfl,k1,k2,k3,k4⟩
     refine O _ _ D M' (aaQ k1 fr) ?_ (k2.fr fr) k3
     exact DU I k2 J k4
    ·cases B5
   ·cases B5
   ·split at B5
    ·rename_i v ups hq
     simp only[Option.map_eq_some_iff]at B5
     obtain⟨fr,J,rfl⟩:=B5
     obtain⟨nx,cv,w',D,M',r1,r2,r3,r4,r5,r6⟩:=arF (P:=P) Z h Gu hq
     rw[r1]
     have:=O (a.put o.dst cv) w' D M' (aaQ r3 fr) (DU I r4 J r6) (r4.fr fr) r5
     rcases r2 with rfl|⟨rfl,rfl⟩
     ·exact this
     ·exact this
    ·cases B5
  split at hc
  ·grind [Region.wanted,jd]
  ·rename_i j want hg
   split at hc
   ·rename_i d V
    simp at hc;subst hc
    unfold jd at N
    simp only at N
    have X:an st.fr d≠ .any:=by intro e;rw[e]at N;cases N
    have hy:=MM (ops:=ops) I V X
    have ayL:(nn st.fr n o.dst iW).map (fun fr=>({st with fr}:St))=some H→K (a.put o.dst undef) w:=by
     intro hp
     simp only[Option.map_eq_some_iff]at hp
     obtain⟨fr,J,rfl⟩:=hp
     exact O _ _ β M (aaQ h fr) (DU I (Tr.refl _ _ _ _) J (by simp[fx,iW,undef,gP])) ((Tr.refl _ _ _ _).fr fr) (Nat.le_refl _)
    grind [Region.wanted]
   ·cases hc
 ·cases hc
end
end Go.Ev
namespace Go.Ev
open Go
theorem Q.run_congr{α:Type}{h F:Sp→Nat→b8}{r i:Nat}: ∀(q:Q α),(∀κ∈q.log h r,F κ.1 κ.2=h κ.1 κ.2)→(q.asks h r=true→i=r)→q.run F i=q.run h r
 | .ret a,_,_=>rfl
 | .fail,_,_=>rfl
 | .rd sp k f,D,H=>by
   have e:F sp k=h sp k:=D (sp,k) (by simp[Q.log])
   simp only[Q.run,e]
   exact Q.run_congr (f (h sp k)) (fun κ hk=>D κ (by simp[Q.log,hk])) (fun I=>H (by simp[Q.asks,I]))
 | .new f,D,H=>by
   have e:i=r:=H rfl
   subst e
   simp only[Q.run]
   exact Q.run_congr (f i) (fun κ hk=>D κ (by simp[Q.log,hk])) (fun _=>rfl)
theorem nW(f:T→Q (T×List Up))(h:Sp→Nat→b8)(i:Nat)(D: ∀t,(f t).asks h i=false): ∀ts,(ja f ts).asks h i=false:=by
 have r: ∀{α γ:Type} (q:Q α) (g:α→Q γ),q.asks h i=false→(∀a,(g a).asks h i=false)→(q.bind g).asks h i=false:=by
  intro α γ q g F H
  induction q with
  |ret a=>exact H a
  |fail=>rfl
  |rd sp k f ih=>grind [Q.bind,Q.asks]
  |new f ih=>simp[Q.asks]at F
 intro ts
 induction ts with
 |nil=>rfl
 |cons t ts ih=>
  simp only[ja]
  refine r _ _ (D t) (fun p=>r _ _ ih (fun q=>rfl))
theorem OY(h:Sp→Nat→b8)(r:Nat): ∀(keep:Bool) (n:Nat) (t:T),(fz keep n t).asks h r=false:=by
 have i: ∀{α γ:Type} (q:Q α) (g:α→Q γ),q.asks h r=false→(∀a,(g a).asks h r=false)→(q.bind g).asks h r=false:=by
  intro α γ q g D F
  induction q with
  |ret a=>exact F a
  |fail=>rfl
  |rd sp k f ih=>grind [Q.bind,Q.asks]
  |new f ih=>simp[Q.asks]at D
 intro keep n
 induction n generalizing keep with
 |zero=>intro t;rfl
 |succ n ih=>
  intro t
  cases t <;> simp only[fz] <;> try rfl
  ·split
   ·rfl
   ·simp only[Q.asks];split
    ·split
     ·split <;> rfl
     ·split
      ·exact i _ _ (nW _ _ _ (fun t=>ih false t) _) (fun _=>rfl)
      ·rfl
     ·rfl
    ·rfl
  ·split
   ·rfl
   ·simp only[Q.asks];split
    ·split
     ·exact i _ _ (nW _ _ _ (fun t=>ih false t) _) (fun _=>rfl)
     ·rfl
    ·rfl
  ·grind [Q.asks]
  ·exact i _ _ (nW _ _ _ (fun t=>ih keep t) _) (fun _=>i _ _ (nW _ _ _ (fun t=>ih keep t) _) (fun _=>rfl))
  ·exact i _ _ (nW _ _ _ (fun t=>ih keep t) _) (fun _=>rfl)
  ·exact i _ _ (nW _ _ _ (fun t=>ih keep t) _) (fun _=>rfl)
theorem pq{ρ OZ:iF→T}{l:List iF}(h: ∀x∈l,OZ x=ρ x):l.map OZ=l.map ρ:=List.map_congr_left h
theorem qu{ρ OZ:iF→T}{d:Nat}{x:Option iF}(h: ∀y∈x.toList,OZ y=ρ y):kN OZ d x=kN ρ d x:=by
 cases x with
 |none=>rfl
 |some y=>grind [kN]
theorem Rq{ρ OZ:iF→T}(d:Nat)(op:mH)(h: ∀x∈AE op,OZ x=ρ x):jk d OZ op=jk d ρ op:=by
 cases op <;> simp only[AE]at h <;> simp only[jk]
 case mv x=>grind
 case pick c a b=>grind
 case box x sh=>grind
 case build z ps=>
  have e: ∀p∈ps,OZ p.2.2=ρ p.2.2:=fun p r=>h _ (List.mem_map.2 ⟨p,r,rfl⟩)
  have D:(ps.all fun p=>decide ((cellsOf (OZ p.2.2)).length=p.2.1)&&noTup (OZ p.2.2))=(ps.all fun p=>decide ((cellsOf (ρ p.2.2)).length=p.2.1)&&noTup (ρ p.2.2)):=by
   grind
  grind [List.map_congr_left]
 case bsl z len ps=>
  grind [List.map_congr_left]
 case ld x n ag=>grind
 case st x v n=>grind
 case nck x=>grind
 case bin o x y=>grind
 case eq n k x y=>grind
 case un o x=>grind
 case cvi k x=>grind
 case b2s x=>rw[h x (by simp)]
 case mkfn f a c=>rw[pq (fun x hx=>h x (by simp[hx])),pq (fun x hx=>h x (by simp[hx]))]
 case mksl z b x sh=>rw[h x (by simp)]
 case slS x l hh=>
  rw[h x (by simp),qu (x:=l) (fun y i=>h y (by simp at i;simp[i]))]
  split
  ·rw[qu (x:=hh) (fun y i=>h y (by simp at i;simp[i]))]
  ·rfl
 case slV sz x l hh m=>
  rw[h x (by simp),qu (x:=l) (fun y i=>h y (by simp at i;simp[i]))]
  split
  ·rfl
  ·rw[qu (x:=hh) (fun y i=>h y (by simp at i;simp[i]))]
   split
   ·rfl
   ·rename_i mm _ _;rw[h mm (by simp)]
   ·rfl
 case fa x o=>rw[h x (by simp)]
 case fld x o n ag=>rw[h x (by simp)]
 case ia x y n=>rw[h x (by simp),h y (by simp)]
 case iaA x y l n=>rw[h x (by simp),h y (by simp)]
 case ixS x y=>rw[h x (by simp),h y (by simp)]
 case ixA x y l n ag=>rw[h x (by simp),h y (by simp)]
 case lk k x y z ok=>rw[h x (by simp),h y (by simp)]
 case mu k x y z=>rw[h x (by simp),h y (by simp),h z (by simp)]
 case ext x j=>rw[h x (by simp)]
 case lenS x=>rw[h x (by simp)]
 case lenV x=>rw[h x (by simp)]
 case lenM x=>rw[h x (by simp)]
 case app s b x y sh nm=>rw[h x (by simp),h y (by simp)]
 case mm b as=>rw[pq h]
theorem Hx{ρ OZ:iF→T}(op:mH)(h: ∀x∈AE op,OZ x=ρ x):jr OZ op=jr ρ op:=by
 cases op <;> simp only[AE]at h <;> simp only[jr]
 case callf f as=>simp_all
 case callv f as=>rw[h f (by simp),pq (fun x hx=>h x (by simp[hx]))]
theorem Vr{ρ:iF→T}{op:mH}(F:quiet op=true)(d:Nat)(h:Sp→Nat→b8)(D:Nat):jr ρ op=none∧(jk d ρ op).log h D= []∧(jk d ρ op).asks h D=false∧ ∀v i,(jk d ρ op).run h D=some (.val v i)→i= []:=by
 have r: ∀x:Option T,(Ev.val x).log h D= []∧(Ev.val x).asks h D=false∧ ∀v i,(Ev.val x).run h D=some (.val v i)→i= []:=by
  intro x;cases x <;> simp[Ev.val,Q.log,Q.asks,Q.run]
 cases op <;> simp[quiet]at F <;> refine⟨rfl, ?_⟩ <;> simp only[jk]
 case slV sz x l hh m=>
  split
  ·simp[Q.log,Q.asks,Q.run]
  ·split
   ·unfold Bt
    grind [Q.bind,Q.log,Q.asks,Q.run]
   ·grind [Q.log,Q.asks,Q.run]
   ·simp[Q.log,Q.asks,Q.run]
 all_goals first
  |exact r _
  |(simp[Q.log,Q.asks,Q.run];done)
  |(repeat' split
    all_goals first
     |exact r _
     |(simp[Q.log,Q.asks,Q.run];done))
end Go.Ev
namespace Go.Ev
open Go
theorem Km{us:List Up}{sp:Sp}{k:Nat}:oS us sp k=true↔(sp,k)∈ki us:=by
 grind [oS,ki]
theorem Kn(s p:St): ∀(us:List Up) (sp:Sp) (k:Nat),oS us sp k=true→(s.ups us).get sp k=(p.ups us).get sp k:=by
 intro us
 induction us generalizing s p with
 |nil=>grind [oS]
 |cons u us ih=>
  grind [St.ups,qt,oS,mb]
theorem Cq(s p:St)(us:List Up)(sp:Sp)(k:Nat):(s.ups us).get sp k=if(sp,k)∈ki us then(p.ups us).get sp k else s.get sp k:=by
 split
 ·rename_i h;exact Kn s p us sp k (Km.2 h)
 ·rename_i h
  refine qt s us sp k ?_
  cases i:oS us sp k with
  |false=>rfl
  |true=>exact absurd (Km.1 i) h
theorem MN(s p:St)(hs:s.sh=p.sh): ∀us,(s.ups us).sh=(p.ups us).sh:=by
 intro us
 induction us generalizing s p with
 |nil=>exact hs
 |cons u us ih=>
  simp only[St.ups]
  refine ih _ _ ?_
  obtain⟨a,b,c⟩:=u
  cases a
  ·exact hs
  ·simp[St.up,hs]
theorem Hy(s:St): ∀us,(∀u∈us,u.1= .S→u.2.1<s.sh.length)→(s.ups us).sh.length=s.sh.length:=by
 intro us
 induction us generalizing s with
 |nil=>intro _;rfl
 |cons u us ih=>
  intro h
  obtain⟨a,b,c⟩:=u
  simp only[St.ups]
  have i:(s.up (a,b,c)).sh.length=s.sh.length:=by
   cases a with
   |L=>rfl
   |S=>simp_all[St.up,jM]
  grind
theorem MO{s p:St}{us:List Up}(h:inB p us=true)(r: ∀sp k,(sp,k)∈ki us→s.get sp k=p.get sp k): ∀u∈us,u.1= .S→u.2.1<s.sh.length:=by
 intro u i e
 unfold inB at h
 rw[List.all_eq_true]at h
 have D:=h u i
 obtain⟨a,b,c⟩:=u
 dsimp only at e;subst e
 simp at D
 have F:=r .S b (by unfold ki;exact List.mem_map.2 ⟨_,i,rfl⟩)
 refine OL (st:=s) ?_
 grind [Bu,live]
theorem Hz{fr fr2:Fr}{n:Nat}{d:Option Nat}{v:T}{g:Fr}(h:nn fr n d v=some g): ∃i,nn fr2 n d v=some i∧ ∀t,an i t=if d=some t then an g t else an fr2 t:=by
 cases d with
 |none=>exact⟨fr2,rfl,fun t=>by simp⟩
 |some d=>
  grind [nn,qD]
def wrote(fp:FP)(sp:Sp)(k:Nat):Prop:=(sp,k)∈fp.w∨(fp.all=true∧sp= .S)
structure aaR (ao:dy) (fp:FP) (s s' p':St):Prop where
 slot: ∀t,an s'.fr t=if ao.d=some t then an p'.fr t else an s.fr t
 key: ∀sp k,(wrote fp sp k→s'.get sp k=p'.get sp k)∧(¬wrote fp sp k→s'.get sp k=s.get sp k)
 len:(fp.all=true→s'.sh.length=p'.sh.length)∧(fp.all=false→s'.sh.length=s.sh.length)
variable{E:Env}{call:qa}{n:Nat}
theorem Rr{s p:St}{ao:dy}(h: ∀t∈looks ao,an s.fr t=an p.fr t): ∀x∈AE ao.op,s.rho x=p.rho x:=by
 intro x hx
 cases x with
 |t m=>
  refine h m ?_
  grind [looks,tmpsOf]
 |c v=>rfl
theorem aaS{s p:St}{d j:Nat}{r I:T}{us:List Up}{J:St}(i:xl d j r p us=some (I,J))(h: ∀sp k,(sp,k)∈(Sp.L,d)::ki us→s.get sp k=p.get sp k)(O:(s.ups us).sh.length=s.sh.length):
  ∃D,xl d j r s us=some (I,D)∧(∀sp k,((sp,k)∈(Sp.L,d)::ki us→D.get sp k=J.get sp k)∧((sp,k)∉(Sp.L,d)::ki us→D.get sp k=s.get sp k))∧D.sh.length=s.sh.length:=by
 have base: ∀(c:Bool) (sp:Sp) (k:Nat),((sp,k)∈(Sp.L,d)::ki us→(if c=true then s else s.ups us).get sp k=(if c=true then p else p.ups us).get sp k)∧((sp,k)∉(Sp.L,d)::ki us→(if c=true then s else s.ups us).get sp k=s.get sp k):=by
  grind [Bool.false_eq_true,Cq]
 have len: ∀c:Bool,(if c=true then s else s.ups us).sh.length=s.sh.length:=by
  grind
 unfold xl at i ⊢
 split at i
 ·rename_i hc
  simp only[Option.some.injEq,Prod.mk.injEq]at i ⊢
  obtain⟨rfl,rfl⟩:=i
  exact⟨_,⟨rfl,rfl⟩,base _,len _⟩
 ·rename_i cs Va ex hc
  split at i
  ·rename_i H
   rw[if_pos H]
   simp only[Option.some.injEq,Prod.mk.injEq]at i ⊢
   obtain⟨rfl,rfl⟩:=i
   have N:=(base (rE (iI r j .nilsl)) .L d).1 (List.mem_cons_self ..)
   rw[N]
   refine⟨_,⟨rfl,rfl⟩,fun sp k=>⟨fun F=> ?_,fun F=> ?_⟩, ?_⟩
   ·rw[mb,mb]
    split
    ·rfl
    ·exact(base _ sp k).1 F
   ·rw[mb,if_neg (by rintro⟨rfl,rfl⟩;exact F (List.mem_cons_self ..))]
    exact(base _ sp k).2 F
   ·exact len _
  ·cases i
 ·cases i
theorem Ko{ao:dy}{fp:FP}{s p J:St}(he:jd E call n ao p=some J)(kM:jT E call ao p=some fp)(h1: ∀t∈looks ao,an s.fr t=an p.fr t)(N: ∀sp k,(sp,k)∈fp.r∨(sp,k)∈fp.w→s.get sp k=p.get sp k)(h3:fp.all=true→s.sh=p.sh):
  ∃I,jd E call n ao s=some I∧aaR ao fp s I J:=by
 have O:=Rr h1
 have ayL:(nn p.fr n ao.d iW).map (fun fr=>({p with fr}:St))=some J→fp=qp→ ∃I,(nn s.fr n ao.d iW).map (fun fr=>({s with fr}:St))=some I∧aaR ao fp s I J:=by
  intro hp hn
  subst hn
  simp only[Option.map_eq_some_iff]at hp
  obtain⟨g,U,rfl⟩:=hp
  obtain⟨g2,V,W⟩:=Hz (fr2:=s.fr) U
  refine⟨{s with fr:=g2},by rw[V];rfl,W,fun sp k=>⟨fun hw=> ?_,fun _=>rfl⟩,⟨(fun F=>by cases F),fun _=>rfl⟩⟩
  rcases hw with hw|hw
  ·simp[qp]at hw
  ·cases hw.1
 have core:(match jr p.rho ao.op with
       |some (some c)=>match je E call (ao.d.getD 0) p c.1 c.2 with
        |some r=>(nn p.fr n ao.d r.1).map fun fr=>({r.2 with fr}:St)
        |none=>none
       |some none=>none
       |none=>match(jk (ao.d.getD 0) p.rho ao.op).run p.get p.sh.length with
        |some (.val v ups)=>(nn p.fr n ao.d v).map fun fr=>({p.ups ups with fr}:St)
        |none=>none)=some J→(match jr p.rho ao.op with
       |some (some c)=>lV E call (ao.d.getD 0) p c.1 c.2
       |some none=>none
       |none=>
        let q:=jk (ao.d.getD 0) p.rho ao.op
        match q.run p.get p.sh.length with
        |some (.val _ ups)=>if q.asks p.get p.sh.length||inB p ups then some (⟨q.asks p.get p.sh.length,q.log p.get p.sh.length,ki ups⟩:FP)else none
        |none=>none)=some fp→
   ∃I,(match jr s.rho ao.op with
    |some (some c)=>match je E call (ao.d.getD 0) s c.1 c.2 with
     |some r=>(nn s.fr n ao.d r.1).map fun fr=>({r.2 with fr}:St)
     |none=>none
    |some none=>none
    |none=>match(jk (ao.d.getD 0) s.rho ao.op).run s.get s.sh.length with
     |some (.val v ups)=>(nn s.fr n ao.d v).map fun fr=>({s.ups ups with fr}:St)
     |none=>none)=some I∧aaR ao fp s I J:=by
  intro B5 i
  rw[Hx ao.op O]
  split at B5
  ·rename_i c hc
   obtain⟨f,args⟩:=c
   rw[hc]at i
   simp only[hc]at i ⊢
   split at B5
   ·rename_i r D
    obtain⟨r,p2⟩:=r
    simp only[Option.map_eq_some_iff]at B5
    obtain⟨g,U,rfl⟩:=B5
    obtain⟨g2,V,W⟩:=Hz (fr2:=s.fr) U
    suffices hs: ∃s2,je E call (ao.d.getD 0) s f args=some (r,s2)∧(∀sp k,(wrote fp sp k→s2.get sp k=p2.get sp k)∧(¬wrote fp sp k→s2.get sp k=s.get sp k))∧(fp.all=true→s2.sh.length=p2.sh.length)∧(fp.all=false→s2.sh.length=s.sh.length)by
     obtain⟨s2,d1,d2,d3⟩:=hs
     refine⟨{s2 with fr:=g2},by rw[d1];simp[V],W,d2,d3⟩
    unfold lV at i
    unfold je at D ⊢
    split at D
    ·rename_i af Cp
     simp only[Cp]at i ⊢
     cases H:(ja (fz af.eff iG) args).run p.get p.sh.length with
     |none=>simp[H]at D
     |some q=>
      obtain⟨ts,us⟩:=q
      simp only[H]at D i
      split at i
      ·cases i
      ·rename_i Rs
       simp at Rs
       have Dy: ∀κ∈(ja (fz af.eff iG) args).log p.get p.sh.length,κ∈fp.r:=by
        grind
       have X:(ja (fz af.eff iG) args).run s.get s.sh.length=some (ts,us):=by
        rw[←H]
        refine Q.run_congr _ (fun κ hk=>N _ _ (.inl (Dy κ hk))) (fun F=> ?_)
        rw[nW _ _ _ (fun t=>OY _ _ _ _ t)]at F;cases F
       rw[X]
       simp only
       split at D
       ·rename_i tI
        simp only[tI,if_true]at i ⊢
        simp at i;subst i
        simp only[Option.map_eq_some_iff]at D
        obtain⟨⟨r',iT⟩,im,D⟩:=D
        simp at D;obtain⟨rfl,rfl⟩:=D
        have Y:=h3 rfl
        have ayM:=MN s p Y us
        refine⟨{s.ups us with sh:=iT},by rw[ayM,im];rfl,fun sp k=> ?_,fun _=>rfl,(fun F=>by cases F)⟩
        cases sp with
        |S=>exact⟨fun _=>rfl,fun hw=>absurd (.inr ⟨rfl,rfl⟩) hw⟩
        |L=>
         have:=Cq s p us .L k
         refine⟨fun hw=> ?_,fun hw=> ?_⟩
         ·rcases hw with hw|hw
          ·rw[if_pos hw]at this;exact this
          ·cases hw.2
         ·rw[if_neg (fun e=>hw (.inl e))]at this;exact this
       ·rename_i tI
        simp only[tI,Bool.false_eq_true,if_false]at i ⊢
        split at D
        ·rename_i r0 im
         simp only[im]at i ⊢
         cases xt:af.own with
         |some j=>
          simp only[xt]at i D ⊢
          simp at i;subst i
          obtain⟨s2,g1,g2,g3⟩:=aaS (s:=s) D (fun sp k hk=>N sp k (.inr hk)) (Hy s us (MO Rs (fun sp k hk=>N sp k (.inr (List.mem_cons_of_mem _ hk)))))
          refine⟨s2,g1,fun sp k=>⟨fun hw=> ?_,fun hw=>(g2 sp k).2 (fun e=>hw (.inl e))⟩,(fun F=>by cases F),fun _=>g3⟩
          rcases hw with hw|hw
          ·exact(g2 sp k).1 hw
          ·cases hw.1
         |none=>
         simp only[xt]at i D ⊢
         simp at i;subst i
         simp at D;obtain⟨rfl,rfl⟩:=D
         by_cases nk:scalar r0.1=true
         ·simp only[nk,if_true]
          refine⟨s,rfl,fun sp k=>⟨fun hw=> ?_,fun _=>rfl⟩,(fun F=>by cases F),fun _=>rfl⟩
          rcases hw with hw|hw
          ·simp at hw
          ·cases hw.1
         ·simp only[nk,Bool.false_eq_true,if_false]
          refine⟨s.ups us,rfl,fun sp k=> ?_,(fun F=>by cases F),fun _=> ?_⟩
          ·have:=Cq s p us sp k
           refine⟨fun hw=> ?_,fun hw=> ?_⟩
           ·rcases hw with hw|hw
            ·rw[if_pos hw]at this;exact this
            ·cases hw.1
           ·rw[if_neg (fun e=>hw (.inl e))]at this;exact this
          ·exact Hy s us (MO Rs (fun sp k hk=>N sp k (.inr (by simpa[nk]using hk))))
        ·cases D
    ·rename_i g' Cp Kd
     simp only[Cp,Kd]at i ⊢
     simp at i;subst i
     cases H:(ja (fz false iG) args).run p.get p.sh.length with
     |none=>simp[H]at D
     |some q=>
      simp only[H]at D
      have X:(ja (fz false iG) args).run s.get s.sh.length=some q:=by
       rw[←H]
       refine Q.run_congr _ (fun κ hk=>N _ _ (.inl hk)) (fun F=> ?_)
       rw[nW _ _ _ (fun t=>OY _ _ _ _ t)]at F;cases F
      rw[X]
      simp only[Option.map_eq_some_iff]at D ⊢
      obtain⟨r',hg',D⟩:=D
      simp at D;obtain⟨rfl,rfl⟩:=D
      refine⟨s,⟨r',hg',rfl⟩,fun sp k=>⟨fun hw=> ?_,fun _=>rfl⟩,(fun F=>by cases F),fun _=>rfl⟩
      rcases hw with hw|hw
      ·simp at hw
      ·cases hw.1
    ·rename_i Cp Kd
     simp only[Cp,Kd]at i
     cases i
   ·cases B5
  ·cases B5
  ·rename_i hc
   simp only[hc]at i ⊢
   rw[Rq _ ao.op O]
   split at B5
   ·rename_i v ups H
    simp only[H]at i
    split at i
    ·rename_i Rs
     simp at i;subst i
     simp only[Option.map_eq_some_iff]at B5
     obtain⟨g,U,rfl⟩:=B5
     obtain⟨g2,V,W⟩:=Hz (fr2:=s.fr) U
     have X:(jk (ao.d.getD 0) p.rho ao.op).run s.get s.sh.length=some (.val v ups):=by
      grind [Q.run_congr]
     rw[X]
     refine⟨{s.ups ups with fr:=g2},by simp[V],W,fun sp k=> ?_, ?_⟩
     ·have:=Cq s p ups sp k
      refine⟨fun hw=> ?_,fun hw=> ?_⟩
      ·by_cases hm:(sp,k)∈ki ups
       ·rw[if_pos hm]at this;exact this
       ·rcases hw with hw|hw
        ·exact absurd hw hm
        ·obtain⟨Z,rfl⟩:=hw
         have Y:=MN s p (h3 Z) ups
         show iz (s.ups ups).sh k=iz (p.ups ups).sh k
         rw[Y]
      ·rw[if_neg (fun e=>hw (.inl e))]at this;exact this
     ·refine⟨fun Z=> ?_,fun Z=> ?_⟩
      ·have Y:=MN s p (h3 Z) ups
       show(s.ups ups).sh.length=(p.ups ups).sh.length
       rw[Y]
      ·rw[show(jk (ao.d.getD 0) p.rho ao.op).asks p.get p.sh.length=false from Z,Bool.false_or]at Rs
       exact Hy s ups (MO Rs (fun sp k hk=>N sp k (.inr hk)))
    ·cases i
   ·cases B5
 unfold jd at he ⊢
 unfold jT at kM
 cases hgd:ao.gd with
 |none=>
  grind
 |some g=>
  obtain⟨j,want⟩:=g
  simp only[hgd]at he kM ⊢
  grind [looks]
end Go.Ev
namespace Go.Ev
open Go
theorem Kp(r:List Nat): ∀(D:List Nat) (F i:Nat),(D.foldl (fun m p=>m ||| 2 ^ p ||| iE 0 r p) F).testBit i=true↔F.testBit i=true∨ ∃p∈D,p=i∨(iE 0 r p).testBit i=true
 | [],F,i=>by simp
 |p::D,F,i=>by
  simp only[List.foldl_cons]
  rw[Kp r D]
  grind
theorem MP(r D:List Nat)(i:Nat):(Hm r D).testBit i=true↔ ∃p∈D,p=i∨(iE 0 r p).testBit i=true:=by
 unfold Hm;rw[Kp];simp
theorem pK{α:Type}(d:α): ∀(l i:List α) (k:Nat),k<l.length→iE d (l++i) k=iE d l k
 | [],i,k,h=>by simp at h
 |x::xs,i,0,h=>rfl
 |x::xs,i,k+1,h=>by simp_all[List.cons_append,iE,pK]
theorem vU{α:Type}(d:α): ∀(l:List α) (x:α),iE d (l++ [x]) l.length=x
 | [],x=>rfl
 |y::i,x=>by simp_all[List.cons_append,List.length_cons,iE,vU]
theorem DW: ∀(sg:List (List Nat)) (r:List Nat),(qO sg r).length=r.length+sg.length∧(∀k,k<r.length→iE 0 (qO sg r) k=iE 0 r k)∧
  ∀j ps,sg[j]? =some ps→ ∀i,(iE 0 (qO sg r) (r.length+j)).testBit i=true↔ ∃p∈ps,p=i∨((if p<r.length+j then iE 0 (qO sg r) p else 0).testBit i=true)
 | [],r=>by simp[qO]
 |ps::sg,r=>by
  obtain⟨F,H,I⟩:=DW sg (r++ [Hm r ps])
  simp only[qO]
  refine⟨by rw[F];simp;omega,fun k hk=> ?_,fun j J D i=> ?_⟩
  ·grind [pK]
  ·cases j with
   |zero=>
    simp at D;subst D
    rw[Nat.add_zero,H r.length (by simp),vU,MP]
    constructor
    ·rintro⟨p,N,e⟩
     refine⟨p,N,e.imp id fun e=> ?_⟩
     by_cases O:p<r.length
     ·grind [pK]
     ·exfalso
      have: ∀(l:List Nat) (k:Nat),l.length≤k→iE 0 l k=0:=by
       intro l
       induction l with
       |nil=>intro k _;rfl
       |cons x xs ih=>intro k hk;cases k with|zero=>simp at hk|succ k=>exact ih k (by simpa using hk)
      grind
    grind [pK]
   |succ j=>
    have:=I j J (by simpa using D) i
    grind
theorem yY: ∀(sg:List (List Nat)) (i:Nat),yz i sg=true→ ∀j r,sg[j]? =some r→ ∀p∈r,p<i+j
 | [],i,h,j,r,D,p,F=>by simp at D
 |q::sg,i,h,j,r,D,p,F=>by
  simp only[yz,Bool.and_eq_true,List.all_eq_true]at h
  cases j with
  |zero=>grind
  |succ j=>
   have:=yY sg (i+1) h.2 j r (by simpa using D) p F
   omega
theorem DX{m:Nat}{as:List dy}{k:Nat}{a:dy}:(k,a)∈Dx m as↔as[k]? =some a∧m.testBit k=false:=by
 unfold Dx
 rw[List.mem_filter,List.mem_map]
 constructor
 ·grind
 ·rintro⟨i,r⟩
  exact⟨⟨(a,k),List.mem_zipIdx_iff_getElem?.2 i,rfl⟩,by simpa using r⟩
theorem yZ: ∀(D i:List dy) (J:List Nat),yA J i D=true→ ∀j a,D[j]? =some a→ ∀m,J[j]? =some m→ ∀k F,k<i.length+j→(i++D)[k]? =some F→m.testBit k=false→mP F a=true
 | [],i,J,h,j,a,H,m,I,k,F,hk,N,O=>by simp at H
 |r::D,i,[],h,j,a,H,m,I,k,F,hk,N,O=>by simp at I
 |r::D,i,U::J,h,j,a,H,m,I,k,F,hk,N,O=>by
  simp only[yA,Bool.and_eq_true,List.all_eq_true]at h
  cases j with
  |zero=>
   simp at H I;subst H;subst I
   have:i[k]? =some F:=by rw[List.getElem?_append_left (by omega)]at N;exact N
   exact h.1 (k,F) (DX.2 ⟨this,O⟩)
  |succ j=>
   exact yZ D (i++ [r]) J h.2 j a (by simpa using H) m (by simpa using I) k F (by simp;omega) (by simpa using N) O
variable{E:Env}{call:qa}{n:Nat}
theorem DY: ∀(D i:List dy) (H:List Nat) (jN:List FP) (st F:St),jN.length=i.length→H.length=D.length→iP E call n (sJ H i D) jN st=some F→
  ∃(pre:Nat→St) (fp:Nat→FP),pre 0=st∧pre D.length=F∧ ∀j a m,D[j]? =some a→H[j]? =some m→jd E call n a (pre j)=some (pre (j+1))∧jT E call a (pre j)=some (fp j)∧
   ∀k I,k<i.length+j→(i++D)[k]? =some I→m.testBit k=false→quiet a.op=false→quiet I.op=false→apart (if k<i.length then iE ⟨true,[],[]⟩ jN k else fp (k-i.length)) (fp j)=true
 | [],i,H,jN,st,F,X,U,h=>by
   cases H with
   |cons _ _=>simp at U
   |nil=>simp[sJ,iP]at h;subst h;exact⟨fun _=>st,fun _=>qp,rfl,rfl,by simp⟩
 |r::D,i,[],jN,st,F,X,U,h=>by simp at U
 |r::D,i,m0::H,jN,st,F,X,U,h=>by
  simp only[sJ,iP]at h
  cases Z:jT E call r st with
  |none=>simp[Z]at h
  |some V=>
   simp only[Z]at h
   generalize hu:(if quiet r.op=true then []else((Dx m0 i).filter fun p=> !quiet p.2.op).map (·.1))=uno at h
   split at h
   ·rename_i jP
    cases he:jd E call n r st with
    |none=>simp[he]at h
    |some ma=>
     simp only[he]at h
     obtain⟨pre,fp,p1,p2,p3⟩:=DY D (i++ [r]) H (jN++ [V]) ma F (by simp[X]) (by simpa using U) h
     refine⟨fun j=>match j with|0=>st|j+1=>pre j,fun j=>match j with|0=>V|j+1=>fp j,rfl,p2,fun j a m hj J=> ?_⟩
     cases j with
     |zero=>
      simp at hj J;subst hj;subst J
      refine⟨by simp only;rw[he,p1],Z,fun k I hk Y hb N O=> ?_⟩
      have W:k<i.length:=by omega
      rw[if_pos W]
      have ha':i[k]? =some I:=by rw[List.getElem?_append_left W]at Y;exact Y
      rw[List.all_eq_true]at jP
      refine jP k ?_
      rw[←hu,if_neg (by rw[N];simp)]
      exact List.mem_map.2 ⟨(k,I),List.mem_filter.2 ⟨DX.2 ⟨ha',hb⟩,by simp[O]⟩,rfl⟩
     |succ j=>
      obtain⟨e1,e2,e3⟩:=p3 j a m (by simpa using hj) (by simpa using J)
      refine⟨e1,e2,fun k I hk Y hb N O=> ?_⟩
      have:=e3 k I (by simp;omega) (by simpa using Y) hb N O
      by_cases h1:k<i.length
      ·grind [pK]
      ·rw[if_neg h1]
       by_cases h2:k=i.length
       ·subst h2
        rw[if_pos (by simp),←X,vU]at this
        simpa using this
       ·rw[if_neg (by simp;omega)]at this
        obtain⟨x,hx⟩: ∃x,k-i.length=x+1:=⟨k-i.length-1,by omega⟩
        rw[hx]
        simp only
        have hx2:k-(i++ [r]).length=x:=by simp;omega
        rw[hx2]at this
        exact this
   ·cases h
theorem Kq{a:dy}{p:St}{fp:FP}(H:quiet a.op=true)(h:jT E call a p=some fp):fp.all=false∧fp.r= []∧fp.w= []:=by
 obtain⟨I,J,N,O⟩:=Vr (ρ:=p.rho) H (a.d.getD 0) p.get p.sh.length
 have F:(match jr p.rho a.op with
       |some (some c)=>lV E call (a.d.getD 0) p c.1 c.2
       |some none=>none
       |none=>
        let q:=jk (a.d.getD 0) p.rho a.op
        match q.run p.get p.sh.length with
        |some (.val _ i)=>if q.asks p.get p.sh.length||inB p i then some (⟨q.asks p.get p.sh.length,q.log p.get p.sh.length,ki i⟩:FP)else none
        |none=>none)=some fp→fp.all=false∧fp.r= []∧fp.w= []:=by
  intro D
  rw[I]at D
  simp only at D
  split at D
  ·rename_i v i hr
   have:=O v i hr;subst this
   split at D
   ·simp at D;subst D;exact⟨N,J,rfl⟩
   ·cases D
  ·cases D
 unfold jT at h
 cases U:a.gd with
 |none=>grind
 |some g=>
  simp only[U]at h
  split at h
  ·split at h
   ·exact F h
   ·simp at h;subst h;exact⟨rfl,rfl,rfl⟩
  ·simp at h;subst h;exact⟨rfl,rfl,rfl⟩
theorem Vt: ∀(a b:List b8),(∀k,iz a k=iz b k)→a.length=b.length→a=b
 | [],[],_,_=>rfl
 | [],y::i,_,h=>by simp at h
 |x::xs,[],_,h=>by simp at h
 |x::xs,y::i,h,r=>by
  have D:x=y:=h 0
  rw[D,Vt xs i (fun k=>h (k+1)) (by simpa using r)]
end Go.Ev
namespace Go.Ev
open Go
variable{E:Env}{call:qa}{n:Nat}
structure pt (E:Env) (call:qa) (n:Nat) (as:List dy) (sg:List (List Nat)) (bit:Nat→Nat→Bool) (pre:Nat→St) (fp:Nat→FP):Prop where
 len:sg.length=as.length
 edges: ∀(j:Nat) (ps:List Nat),sg[j]? =some ps→ ∀p∈ps,p<j
 bits: ∀(j:Nat) (ps:List Nat),sg[j]? =some ps→ ∀i,bit j i=true↔ ∃p∈ps,p=i∨bit p i=true
 run: ∀(j:Nat) (a:dy),as[j]? =some a→jd E call n a (pre j)=some (pre (j+1))∧jT E call a (pre j)=some (fp j)
 slots: ∀(j:Nat) (a:dy) (k:Nat) (a':dy),as[j]? =some a→as[k]? =some a'→k<j→bit j k=false→mP a' a=true
 apart: ∀(j:Nat) (a:dy) (k:Nat) (a':dy),as[j]? =some a→as[k]? =some a'→k<j→bit j k=false→quiet a.op=false→quiet a'.op=false→Ev.apart (fp k) (fp j)=true
variable{as:List dy}{sg:List (List Nat)}{bit:Nat→Nat→Bool}{pre:Nat→St}{fp:Nat→FP}
def DZ(sg:List (List Nat))(L:Nat→Prop):Prop:= ∀(j:Nat) (i:List Nat),sg[j]? =some i→L j→ ∀p∈i,L p
theorem BE(R:pt E call n as sg bit pre fp){L:Nat→Prop}(hc:DZ sg L): ∀(j:Nat) (r:List Nat),sg[j]? =some r→(∀p∈r,L p)→ ∀i,bit j i=true→L i:=by
 intro j
 induction j using Nat.strongRecOn with
 |_ j ih=>
  intro r D I i O
  obtain⟨p,F,h2⟩:=(R.bits j r D i).1 O
  rcases h2 with rfl|h2
  ·exact I p F
  ·have J:=R.edges j r D p F
   have H:p<sg.length:=Nat.lt_trans J (List.getElem?_eq_some_iff.1 D).1
   have N:sg[p]? =some sg[p]:=List.getElem?_eq_getElem H
   exact ih p J _ N (hc p _ N (I p F)) i h2
theorem uX(R:pt E call n as sg bit pre fp){L:Nat→Prop}(hc:DZ sg L){i j:Nat}(hi:i<as.length)(N:j<as.length)(D: ¬L i)(F: ∀I,sg[i]? =some I→ ∀p∈I,L p)(O:i=j∨(j<i∧bit i j=true)∨(i<j∧bit j i=true)):L j↔j<i:=by
 rcases O with rfl|⟨J,H⟩|⟨J,H⟩
 ·grind
 ·refine⟨fun _=>J,fun _=> ?_⟩
  have U:i<sg.length:=by rw[R.len];exact hi
  have r:sg[i]? =some sg[i]:=List.getElem?_eq_getElem U
  exact BE R hc i _ r (F _ r) j H
 ·refine⟨fun V=>absurd ?_ D,fun h=>by omega⟩
  have FF:j<sg.length:=by rw[R.len];exact N
  have r:sg[j]? =some sg[j]:=List.getElem?_eq_getElem FF
  exact BE R hc j _ r (hc j _ r V) i H
structure Inv (as:List dy) (pre:Nat→St) (fp:Nat→FP) (L:Nat→Prop) (s:St):Prop where
 slot: ∀t i,i≤as.length→(∀(j:Nat) (a:dy),as[j]? =some a→a.d=some t→(L j↔j<i))→an s.fr t=an (pre i).fr t
 key: ∀sp k i,i≤as.length→(∀j,j<as.length→wrote (fp j) sp k→(L j↔j<i))→s.get sp k=(pre i).get sp k
 len: ∀i,i≤as.length→(∀j,j<as.length→(fp j).all=true→(L j↔j<i))→s.sh.length=(pre i).sh.length
theorem D0(R:pt E call n as sg bit pre fp){j:Nat}{a:dy}(i:as[j]? =some a):aaR a (fp j) (pre j) (pre (j+1)) (pre (j+1)):=by
 obtain⟨r,D⟩:=R.run j a i
 obtain⟨F,H,I⟩:=Ko (s:=pre j) r D (fun _ _=>rfl) (fun _ _ _=>rfl) (fun _=>rfl)
 grind
theorem Kr(R:pt E call n as sg bit pre fp)(t i:Nat): ∀r,i≤r→r≤as.length→(∀(j:Nat) (a:dy),as[j]? =some a→i≤j→j<r→a.d≠some t)→an (pre r).fr t=an (pre i).fr t:=by
 intro r H
 induction r with
 |zero=>grind
 |succ m ih=>
  intro I J
  by_cases D:i=m+1
  ·subst D;rfl
  ·have ZR:m<as.length:=by omega
   have F:as[m]? =some as[m]:=List.getElem?_eq_getElem ZR
   have N:=(D0 R F).slot t
   grind
theorem O0(R:pt E call n as sg bit pre fp)(sp:Sp)(k i:Nat): ∀r,i≤r→r≤as.length→(∀j,i≤j→j<r→ ¬wrote (fp j) sp k)→(pre r).get sp k=(pre i).get sp k:=by
 intro r I
 induction r with
 |zero=>grind
 |succ m ih=>
  intro J D
  by_cases F:i=m+1
  ·subst F;rfl
  ·have ZR:m<as.length:=by omega
   have H:as[m]? =some as[m]:=List.getElem?_eq_getElem ZR
   have N:=((D0 R H).key sp k).2 (D m (by omega) (by omega))
   grind
theorem O1(R:pt E call n as sg bit pre fp)(i:Nat): ∀r,i≤r→r≤as.length→(∀j,i≤j→j<r→(fp j).all=false)→(pre r).sh.length=(pre i).sh.length:=by
 intro r I
 induction r with
 |zero=>grind
 |succ m ih=>
  intro J D
  by_cases F:i=m+1
  ·subst F;rfl
  ·have ZR:m<as.length:=by omega
   have H:as[m]? =some as[m]:=List.getElem?_eq_getElem ZR
   have N:=(D0 R H).len.2 (D m (by omega) (by omega))
   grind
theorem either(R:pt E call n as sg bit pre fp){i j:Nat}{a r:dy}(hi:as[i]? =some a)(F:as[j]? =some r)(J:i≠j):
  ((j<i∧bit i j=true)∨(i<j∧bit j i=true))∨((mP a r=true∨mP r a=true)∧(quiet a.op=true∨quiet r.op=true∨Ev.apart (fp i) (fp j)=true∨Ev.apart (fp j) (fp i)=true)):=by
 rcases Nat.lt_or_gt_of_ne J with h|h
 ·cases D:bit j i with
  |true=>grind
  |false=>
   refine .inr ⟨.inl (R.slots j r i a F hi h D), ?_⟩
   cases H:quiet a.op
   ·cases I:quiet r.op
    ·exact .inr (.inr (.inl (R.apart j r i a F hi h D I H)))
    ·grind
   ·exact .inl rfl
 ·cases D:bit i j with
  |true=>grind
  |false=>
   refine .inr ⟨.inr (R.slots i a j r hi F h D), ?_⟩
   cases H:quiet a.op
   ·cases I:quiet r.op
    ·exact .inr (.inr (.inr (R.apart i a j r hi F h D H I)))
    ·grind
   ·exact .inl rfl
theorem FG{x y:dy}(h:mP x y=true∨mP y x=true){t:Nat}:(x.d=some t→t∉looks y∧y.d≠some t):=by
 grind [mP]
theorem vW{xs i:List (Sp×Nat)}(h:ml xs i=true){κ:Sp×Nat}(r:κ∈xs)(D:κ∈i):False:=by
 grind [ml]
theorem AL{xs:List (Sp×Nat)}(h:Mg xs=true){k:Nat}(i:(Sp.S,k)∈xs):False:=by
 grind [Mg]
theorem Vu{x y:FP}(h:Ev.apart x y=true∨Ev.apart y x=true){sp:Sp}{k:Nat}(i:wrote y sp k):(sp,k)∉x.r∧(sp,k)∉x.w∧ ¬(x.all=true∧sp= .S):=by
 rcases h with h|h <;> unfold Ev.apart at h <;> simp only[Bool.and_eq_true,Bool.or_eq_true,Bool.not_eq_true']at h <;> obtain⟨⟨⟨⟨a1,a2⟩,D⟩,a4⟩,a5⟩:=h
 ·rcases i with i|⟨i,rfl⟩
  ·refine⟨fun e=>vW D e i,fun e=>vW a2 e i,fun e=> ?_⟩
   grind [AL]
  ·rcases a5 with a5|a5
   ·grind
   ·refine⟨fun e=>AL a5.1 e,fun e=>AL a5.2 e,fun e=> ?_⟩
    grind
 ·rcases i with i|⟨i,rfl⟩
  ·refine⟨fun e=>vW a1 i e,fun e=>vW a2 i e,fun e=> ?_⟩
   grind [AL]
  ·rcases a4 with a4|a4
   ·grind
   ·refine⟨fun e=>AL a4.1.2 e,fun e=>AL a4.2 e,fun e=> ?_⟩
    grind
theorem Vv(R:pt E call n as sg bit pre fp){L:Nat→Prop}(hc:DZ sg L){s:St}(I:Inv as pre fp L s){i:Nat}{a:dy}(hi:as[i]? =some a)(hni: ¬L i)(hpi: ∀ps,sg[i]? =some ps→ ∀p∈ps,L p):
  ∃s',jd E call n a s=some s'∧Inv as pre fp (fun j=>L j∨j=i) s':=by
 have Y:i<as.length:=(List.getElem?_eq_some_iff.1 hi).1
 obtain⟨r1,r2⟩:=R.run i a hi
 have O2: ∀t,(t∈looks a∨a.d=some t)→ ∀(j:Nat) (V:dy),as[j]? =some V→V.d=some t→(L j↔j<i):=by
  intro t ht j V F Z
  have FF:=(List.getElem?_eq_some_iff.1 F).1
  by_cases X:i=j
  ·subst X;exact uX R hc Y FF hni hpi (.inl rfl)
  ·rcases either R hi F X with h|⟨h,_⟩
   ·grind [uX]
   grind [FG]
 have HA: ∀sp k,((sp,k)∈(fp i).r∨(sp,k)∈(fp i).w∨((fp i).all=true∧sp= .S))→ ∀j,j<as.length→wrote (fp j) sp k→(L j↔j<i):=by
  intro sp k ht j FF hw
  have F:as[j]? =some as[j]:=List.getElem?_eq_getElem FF
  by_cases X:i=j
  ·grind
  ·rcases either R hi F X with h|⟨_,h⟩
   ·grind [uX]
   ·exfalso
    rcases h with h|h|h
    ·obtain⟨q1,q2,q3⟩:=Kq h r2
     rcases ht with ht|ht|ht
     ·rw[q2]at ht;simp at ht
     ·rw[q3]at ht;simp at ht
     ·rw[q1]at ht;cases ht.1
    ·obtain⟨q1,q2,q3⟩:=Kq h (R.run j _ F).2
     rcases hw with hw|hw
     ·rw[q3]at hw;simp at hw
     ·rw[q1]at hw;cases hw.1
    ·obtain⟨z1,z2,z3⟩:=Vu h hw
     rcases ht with ht|ht|ht
     ·exact z1 ht
     ·exact z2 ht
     ·exact z3 ht
 have Vw:(fp i).all=true→ ∀j,j<as.length→(fp j).all=true→(L j↔j<i):=by
  intro W j FF D
  exact HA .S 0 (.inr (.inr ⟨W,rfl⟩)) j FF (.inr ⟨D,rfl⟩)
 obtain⟨s',e1,e2⟩:=Ko (s:=s) r1 r2 (fun t ht=>I.slot t i (Nat.le_of_lt Y) (fun j V F Z=>O2 t (.inl ht) j V F Z))
  (fun sp k ht=>I.key sp k i (Nat.le_of_lt Y) (fun j FF hw=>HA sp k (ht.elim .inl fun h=> .inr (.inl h)) j FF hw))
  (fun W=>Vt _ _ (fun k=>I.key .S k i (Nat.le_of_lt Y) (fun j FF hw=>HA .S k (.inr (.inr ⟨W,rfl⟩)) j FF hw)) (I.len i (Nat.le_of_lt Y) (Vw W)))
 refine⟨s',e1,fun t H Hp J=> ?_,fun sp k H Hp J=> ?_,fun H Hp J=> ?_⟩
 ·rw[e2.slot t]
  split
  ·rename_i Z
   have N:i<H:=(J i a hi Z).1 (.inr rfl)
   rw[Kr R t (i+1) H N Hp]
   intro j V F h1 h2 O
   have hL:=(J j V F O).2 h2
   have:=O2 t (.inr Z) j V F O
   rcases hL with hL|hL
   ·have:=this.1 hL;omega
   ·omega
  ·rename_i Z
   exact I.slot t H Hp (fun j V F O=>by
    have:=J j V F O
    constructor
    ·exact fun hL=>this.1 (.inl hL)
    ·intro oF
     rcases this.2 oF with hL|hL
     ·exact hL
     ·subst hL;rw[hi]at F;simp at F;subst F;exact absurd O Z)
 ·by_cases hw:wrote (fp i) sp k
  ·have N:i<H:=(J i Y hw).1 (.inr rfl)
   rw[(e2.key sp k).1 hw,O0 R sp k (i+1) H N Hp]
   intro j h1 h2 U
   have FF:j<as.length:=by omega
   have hL:=(J j FF U).2 h2
   have:=HA sp k (hw.elim (fun e=> .inr (.inl e)) fun e=> .inr (.inr e)) j FF U
   rcases hL with hL|hL
   ·have:=this.1 hL;omega
   ·omega
  ·rw[(e2.key sp k).2 hw]
   exact I.key sp k H Hp (fun j FF U=>by
    have:=J j FF U
    constructor
    ·exact fun hL=>this.1 (.inl hL)
    ·intro oF
     rcases this.2 oF with hL|hL
     ·exact hL
     ·subst hL;exact absurd U hw)
 ·cases W:(fp i).all with
  |true=>
   have N:i<H:=(J i Y W).1 (.inr rfl)
   rw[e2.len.1 W,O1 R (i+1) H N Hp]
   intro j h1 h2
   cases D:(fp j).all with
   |false=>rfl
   |true=>
    have FF:j<as.length:=by omega
    have hL:=(J j FF D).2 h2
    have:=Vw W j FF D
    rcases hL with hL|hL
    ·have:=this.1 hL;omega
    ·omega
  |false=>
   rw[e2.len.2 W]
   exact I.len H Hp (fun j FF D=>by
    have:=J j FF D
    constructor
    ·exact fun hL=>this.1 (.inl hL)
    ·intro oF
     rcases this.2 oF with hL|hL
     ·exact hL
     ·subst hL;rw[W]at D;cases D)
end Go.Ev
namespace Go.Ev
open Go
section
variable{P:Program}{E:Env}{call:qa}{n:Nat}{hs:List Nat}{ops:Array Oper}
theorem pv: ∀{i:List Oper} {as:List dy},kP P hs ops i=some as→as.length=i.length∧ ∀(j:Nat) (o:Oper),i[j]? =some o→ ∃a,as[j]? =some a∧uQ P hs ops o=some a
 | [],as,h=>by grind [kP]
 |o::i,as,h=>by
  simp only[kP]at h
  split at h
  ·rename_i a r F D
   simp at h;subst h
   obtain⟨H,I⟩:=pv D
   grind
  ·cases h
theorem Vx(O:uo P E)(U:yW P E call){Q:Exit→Act→World→Prop}: ∀(k i:Nat) (as:List dy),i+k=ops.size→kP P hs ops (ops.toList.drop i)=some as→
  ∀{B:l8} {st D:St} {a:Act} {w:World} {β:iL} {M:iB},iU B st w β M→og st a w β M n→eb E call n as st=some D→
  (∀H w' F M',iU B D w' F M'→og D H w' F M' n→Tr st w β M D w' F M'→w.heap.size≤w'.heap.size→Q .normal H w')→wpOps P ops Q (List.range' i k) a w
 |0,i,as,OR,hc,B,st,D,a,w,β,M,h,I,r,J=>by
  have W:ops.toList.drop i= []:=List.drop_eq_nil_of_le (by simp;omega)
  rw[W]at hc
  simp[kP]at hc;subst hc
  simp[eb]at r;subst r
  simp only[List.range',wpOps]
  exact J a w β M h I (Tr.refl _ _ _ _) (Nat.le_refl _)
 |k+1,i,as,OR,hc,B,st,D,a,w,β,M,h,I,r,J=>by
  have hi:i<ops.toList.length:=by simp;omega
  rw[List.drop_eq_getElem_cons hi]at hc
  simp only[kP]at hc
  split at hc
  ·rename_i ao N X Y
   simp at hc;subst hc
   simp only[eb]at r
   split at r
   ·rename_i ma Fw
    rw[List.range'_succ,wpOps_cons]
    refine rJ O U (o:=ops.toList[i]) (by simp at hi ⊢) X h I Fw ?_
    intro H w' F M' Z r2 r3 V
    exact Vx O U k (i+1) N (by omega) Y Z r2 r (fun a2 w2 Vy M2 s1 s2 s3 s4=>J a2 w2 Vy M2 s1 s2 (r3.trans s3 V) (Nat.le_trans V s4))
   ·cases r
  ·cases hc
theorem afL{B:l8}{s D:St}{w:World}{β:iL}{M:iB}(i: ∀sp k,D.get sp k=s.get sp k)(h:iU B s w β M):iU B D w β M:=by
 have FH:D.gens=s.gens:=by funext sp k;show(D.get sp k).g=_;rw[i]
 refine⟨fun sp k=>by rw[i,FH];exact h.obj sp k,fun sp k I k' F H e=> ?_,h.mlt,fun k r=> ?_,fun k r=> ?_,h.os,h.tape,h.output,h.size,h.same,h.keep,h.msup⟩
 ·rw[i]at F H;rw[FH]at e;exact h.dist sp k I k' F H e
 ·rw[i]at r;rw[FH];exact h.lblk k r
 ·rw[i]at r;rw[FH];exact h.sblk k r
theorem afM{s i:St}{a:Act}{w:World}{β:iL}{M:iB}(r: ∀sp k,i.get sp k=s.get sp k)(D: ∀t,an i.fr t=an s.fr t)(h:og s a w β M n):og i a w β M n:=by
 have FH:i.gens=s.gens:=by funext sp k;show(i.get sp k).g=_;rw[r]
 exact⟨h.size,h.defers,fun t=>by rw[FH,D];exact h.slot t⟩
theorem Vz{st s i:St}{w w':World}{β iO:iL}{M M':iB}(r: ∀sp k,i.get sp k=s.get sp k)(h:Tr st w β M s w' iO M'):Tr st w β M i w' iO M':=by
 have FH:i.gens=s.gens:=by funext sp k;show(i.get sp k).g=_;rw[r]
 exact⟨h.keep,h.beta,by rw[FH];exact h.gens⟩
theorem ah9(hE:uo P E)(hO:yW P E call){Q:Exit→Act→World→Prop}{as:List dy}{bit:Nat→Nat→Bool}{pre:Nat→St}{fp:Nat→FP}(hc:kP P hs ops ops.toList=some as)
  (R:pt E call n as (ops.toList.map jX) bit pre fp) {B:l8} {st:St} {w:World} {β:iL} {M:iB}:
  ∀(D:Nat) (r:Array Bool) (s:St) (a:Act) (F:World) (IX:iL) (M1:iB),r.size=ops.size→((List.range ops.size).filter fun i=> !r.getD i true).length≤D→DZ (ops.toList.map jX) (fun j=>r.getD j false=true)→
   Inv as pre fp (fun j=>r.getD j false=true) s→iU B s F IX M1→og s a F IX M1 n→Tr st w β M s F IX M1→w.heap.size≤F.heap.size→
   (∀N w' J M',iU B (pre as.length) w' J M'→og (pre as.length) N w' J M' n→Tr st w β M (pre as.length) w' J M'→w.heap.size≤w'.heap.size→Q .normal N w')→
   wpAny P .any ops Q D r a F:=by
 obtain⟨hlen,MQ⟩:=pv hc
 have O3:as.length=ops.size:=by simpa using hlen
 have done: ∀(r:Array Bool) (s:St) (a:Act) (F:World) (IX:iL) (M1:iB),r.size=ops.size→DZ (ops.toList.map jX) (fun j=>r.getD j false=true)→Inv as pre fp (fun j=>r.getD j false=true) s→iU B s F IX M1→og s a F IX M1 n→Tr st w β M s F IX M1→w.heap.size≤F.heap.size→
   (∀N w' J M',iU B (pre as.length) w' J M'→og (pre as.length) N w' J M' n→Tr st w β M (pre as.length) w' J M'→w.heap.size≤w'.heap.size→Q .normal N w')→Region.ready .any ops r= []→Q .normal a F:=by
  intro r s a F IX M1 H W I h X Y O Z hr
  have all: ∀j,j<ops.size→r.getD j false=true:=by
   intro j
   induction j using Nat.strongRecOn with
   |_ j ih=>
    intro hj
    cases hb:r.getD j false with
    |true=>rfl
    |false=>
     exfalso
     have:j∈Region.ready .any ops r:=by
      unfold Region.ready
      rw[List.mem_filter]
      refine⟨List.mem_range.2 hj, ?_⟩
      have h1:r.getD j true=false:=by
       grind
      rw[h1]
      simp only[Bool.not_false,Bool.true_and]
      have ho:ops[j]? =some ops[j]:=Array.getElem?_eq_getElem hj
      rw[ho]
      simp only[Option.map_some,Option.getD_some]
      rw[←Array.all_toList,List.all_eq_true]
      intro e he
      cases wQ:Region.binds .any e with
      |false=>rfl
      |true=>
       simp only[Bool.not_true,Bool.false_or]
       have ayP:e.on∈jX ops[j]:=by
        unfold jX
        exact List.mem_map.2 ⟨e,List.mem_filter.2 ⟨he,wQ⟩,rfl⟩
       have hpj:(ops.toList.map jX)[j]? =some (jX ops[j]):=by simp[ho]
       have oF:=R.edges j _ hpj e.on ayP
       exact ih e.on oF (by omega)
     grind
  have cond: ∀j,j<as.length→(r.getD j false=true↔j<as.length):=fun j hj=>⟨fun _=>hj,fun _=>all j (by omega)⟩
  have g1: ∀sp k,(pre as.length).get sp k=s.get sp k:=fun sp k=>(I.key sp k as.length (Nat.le_refl _) (fun j hj _=>cond j hj)).symm
  have g2: ∀t,an (pre as.length).fr t=an s.fr t:=fun t=>(I.slot t as.length (Nat.le_refl _) (fun j a hj _=>cond j (List.getElem?_eq_some_iff.1 hj).1)).symm
  exact Z a F IX M1 (afL g1 h) (afM g1 g2 X) (Vz g1 Y) O
 intro D
 induction D with
 |zero=>
  intro r s a F IX M1 H aaT W I h X Y O Z
  have hr:Region.ready .any ops r= []:=by
   simp_all[Region.ready,List.filter_eq_nil_iff,Bool.and_eq_true,List.eq_nil_of_length_eq_zero]
  exact⟨hr,done r s a F IX M1 H W I h X Y O Z hr⟩
 |succ D ih=>
  intro r s a F IX M1 H aaT W I h X Y O Z
  refine⟨done r s a F IX M1 H W I h X Y O Z,fun i hi=> ?_⟩
  unfold Region.ready at hi
  rw[List.mem_filter]at hi
  obtain⟨hir,Cu⟩:=hi
  have rj:i<ops.size:=List.mem_range.1 hir
  have ho:ops[i]? =some ops[i]:=Array.getElem?_eq_getElem rj
  rw[ho]at Cu
  simp only[Bool.and_eq_true,Bool.not_eq_true',Option.map_some,Option.getD_some]at Cu
  obtain⟨Cv,Fc⟩:=Cu
  have U:i<r.size:=by omega
  have Ki: ¬(r.getD i false=true):=by
   simp[Array.getD_eq_getD_getElem?,Array.getElem?_eq_getElem U]at Cv ⊢; exact Cv
  have arT: ∀ps,(ops.toList.map jX)[i]? =some ps→ ∀p∈ps,r.getD p false=true:=by
   intro ps vV p hp
   simp[ho]at vV;subst vV
   unfold jX at hp
   obtain⟨e,he,rfl⟩:=List.mem_map.1 hp
   obtain⟨Fw,ZL⟩:=List.mem_filter.1 he
   rw[←Array.all_toList,List.all_eq_true]at Fc
   have:=Fc e Fw
   simpa[ZL]using this
  obtain⟨ao,hao,uB⟩:=MQ i ops[i] (by simp)
  obtain⟨s',he,I'⟩:=Vv R W I hao Ki arT
  refine rJ hE hO ho uB h X he ?_
  intro N w' J M' r1 r2 r3 r4
  have Kg: ∀j,(r.setIfInBounds i true).getD j false=true↔(r.getD j false=true∨j=i):=by
   intro j
   simp only[Array.getD_eq_getD_getElem?,Array.getElem?_setIfInBounds]
   by_cases hj:i=j
   ·subst hj;simp[U]
   ·rw[if_neg hj]
    exact⟨.inl,fun e=>e.resolve_right (fun e=>hj e.symm)⟩
  refine ih (r.setIfInBounds i true) s' N w' J M' (by simp[H]) ?_ ?_ ?_ r1 r2 (Y.trans r3 O) (Nat.le_trans O r4) Z
  ·have hfe:(List.range ops.size).filter (fun j=> !(r.setIfInBounds i true).getD j true)=((List.range ops.size).filter (fun j=> !r.getD j true)).filter (fun j=>decide (j≠i)):=by
    rw[List.filter_filter]
    apply List.filter_congr
    intro j hj
    simp only[Array.getD_eq_getD_getElem?,Array.getElem?_setIfInBounds]
    by_cases V:i=j
    ·subst V;simp[U]
    ·have: ¬j=i:=fun e=>V e.symm
     rw[if_neg V];simp[this]
   rw[hfe]
   have oF:(((List.range ops.size).filter (fun j=> !r.getD j true)).filter (fun j=>decide (j≠i))).length<((List.range ops.size).filter (fun j=> !r.getD j true)).length:=by
    rw[List.length_filter_lt_length_iff_exists]
    exact⟨i,List.mem_filter.2 ⟨hir,by rw[Cv];rfl⟩,by simp⟩
   omega
  ·intro j ps vV hj p hp
   rw[Kg]at hj ⊢
   rcases hj with hj|hj
   ·exact .inl (W j ps vV hj p hp)
   ·subst hj;exact .inl (arT ps vV p hp)
  ·have:(fun j=>(r.setIfInBounds i true).getD j false=true)=(fun j=>r.getD j false=true∨j=i):=by funext j;exact propext (Kg j)
   rw[this];exact I'
end
end Go.Ev
namespace Go.Ev
open Go
def aib:Out→Exit
 | .nrm=> .normal
 | .ext id=> .exit id
 | .ret=> .ret
section
variable{P:Program}{E:Env}{call:qa}{n:Nat}{hs:List Nat}
theorem VA{l:List Nat}{j:Nat}(h:j<l.length):l[j]? =some (iE 0 l j):=by
 induction l generalizing j with
 |nil=>simp at h
 |cons x xs ih=>
  cases j with
  |zero=>rfl
  |succ j=>grind [iE]
theorem VB(hE:uo P E)(hO:yW P E call)(hm:P.follows .mixedOrders=true){id:Nat}{ops:Array Oper}{as:List dy}(hc:kP P hs ops ops.toList=some as)(Fw:yz 0 (ops.toList.map jX)=true)(ZL:yA (qO (ops.toList.map jX) []) [] as=true)
  {B:l8} {st J:St} {a:Act} {w:World} {β:iL} {M:iB} (h:iU B st w β M) (V:og st a w β M n) (W:iP E call n (sJ (qO (ops.toList.map jX) []) [] as) [] st=some J) {Q:Exit→Act→World→Prop}
  (hq: ∀I w' X M',iU B J w' X M'→og J I w' X M' n→Tr st w β M J w' X M'→w.heap.size≤w'.heap.size→Q .normal I w'):(Code.region id ops true).wp P Q a w:=by
 obtain⟨D,MQ⟩:=pv hc
 obtain⟨m1,m2,m3⟩:=DW (ops.toList.map jX) []
 have ZR:(qO (ops.toList.map jX) []).length=as.length:=by rw[m1,D];simp
 obtain⟨pre,fp,Y,p2,p3⟩:=DY as [] _ [] st J rfl ZR W
 have H: ∀j,j<as.length→(qO (ops.toList.map jX) [])[j]? =some (iE 0 (qO (ops.toList.map jX) []) j):=fun j r=>VA (by rw[ZR];exact r)
 have Z:=yY _ 0 Fw
 have R:pt E call n as (ops.toList.map jX) (fun j i=>(iE 0 (qO (ops.toList.map jX) []) j).testBit i) pre fp:=by
  refine⟨by rw[D];simp,fun j U r p hp=>by have:=Z j U r p hp;omega,fun j U r i=> ?_,fun j I r=> ?_,fun j a1 k a2 r hk F hb=> ?_,fun j a1 k a2 r hk F hb hq1 hq2=> ?_⟩
  ·have:=m3 j U r i
   simp only[List.length_nil,Nat.zero_add]at this
   grind
  ·obtain⟨e1,e2,_⟩:=p3 j I _ r (H j (List.getElem?_eq_some_iff.1 r).1)
   grind
  ·exact yZ as [] _ ZL j a1 r _ (H j (List.getElem?_eq_some_iff.1 r).1) k a2 (by simpa using F) (by simpa using hk) hb
  ·obtain⟨_,_,e3⟩:=p3 j a1 _ r (H j (List.getElem?_eq_some_iff.1 r).1)
   simp_all
 obtain⟨d1,d2⟩:=Ho h (w.drawn+1)
 refine wp_region_any hm ?_
 have N: ∀j,((Array.replicate ops.size false).getD j false=true)↔False:=by
  intro j
  simp only[Array.getD_eq_getD_getElem?,Array.getElem?_replicate]
  split <;> simp
 have hI:Inv as pre fp (fun j=>(Array.replicate ops.size false).getD j false=true) st:=by
  have ayS:(fun j=>(Array.replicate ops.size false).getD j false=true)=fun _=>False:=by funext j;exact propext (N j)
  rw[ayS]
  refine⟨fun t i hi O=> ?_,fun sp k i hi O=> ?_,fun i hi O=> ?_⟩
  ·rw[Kr R t 0 i (Nat.zero_le _) hi (fun j I r _ F hd=>(O j I r hd).2 F),Y]
  ·rw[O0 R sp k 0 i (Nat.zero_le _) hi (fun j _ F hw=>(O j (by omega) hw).2 F),Y]
  ·rw[O1 R 0 i (Nat.zero_le _) hi (fun j _ F=>by
    cases hal:(fp j).all with
    |false=>rfl
    |true=>exact((O j (by omega) hal).2 F).elim),Y]
 refine ah9 (st:=st) (w:=w) (β:=β) (M:=M) hE hO hc R ops.size _ st a _ β M (by simp) ?_ ?_ hI d1 ⟨V.size,V.defers,fun t=>d2.val (V.slot t)⟩ d2 (Nat.le_refl _) ?_
 ·exact Nat.le_trans (List.length_filter_le _ _) (by simp)
 ·intro j U _ r
  exact((N j).1 r).elim
 grind
theorem mc{ops:Array Oper}{L:Array Bool}{i:Nat}(hi:i<ops.size):i∈Region.ready .any ops L↔L.getD i true=false∧ ∀p∈jX ops[i],L.getD p false=true:=by
 have r:ops[i]? =some ops[i]:=Array.getElem?_eq_getElem hi
 unfold Region.ready
 rw[List.mem_filter,List.mem_range,r]
 simp only[Bool.and_eq_true,Bool.not_eq_true',Option.map_some,Option.getD_some,hi,true_and]
 refine and_congr_right fun _=> ?_
 rw[←Array.all_toList,List.all_eq_true]
 grind [jX]
theorem sN{ops:Array Oper}{L:Array Bool}{i:Nat}(h:i∈Region.ready .any ops L):i<ops.size:=by
 grind [Region.ready]
theorem mi{o:dy}{i:List dy}{st s:St}(h:eb E call n (o::i) st=some s): ∃t,jd E call n o st=some t∧eb E call n i t=some s:=by
 grind [eb]
theorem aaV(hE:uo P E)(hO:yW P E call)(hm:P.follows .mixedOrders=true){id:Nat}{ops:Array Oper}{o0 o1 o2 o3:dy}(hc:kP P hs ops ops.toList=some [o0,o1,o2,o3])(D:Hn (ops.toList.map jX)=true)
  {B:l8} {st s1 s2:St} {a:Act} {w:World} {β:iL} {M:iB} (h:iU B st w β M) (hf:og st a w β M n) (O:eb E call n [o0,o1,o2,o3] st=some s1) (U:eb E call n [o0,o2,o1,o3] st=some s2) {Q:Exit→Act→World→Prop}
  (q1: ∀H w' r M',iU B s1 w' r M'→og s1 H w' r M' n→Tr st w β M s1 w' r M'→w.heap.size≤w'.heap.size→Q .normal H w')
  (q2: ∀H w' r M',iU B s2 w' r M'→og s2 H w' r M' n→Tr st w β M s2 w' r M'→w.heap.size≤w'.heap.size→Q .normal H w'):(Code.region id ops true).wp P Q a w:=by
 obtain⟨hlen,MQ⟩:=pv hc
 have po:ops.size=4:=by simpa using hlen.symm
 obtain⟨t0,f0,O⟩:=mi O
 obtain⟨t1,f1,O⟩:=mi O
 obtain⟨t2,f2,O⟩:=mi O
 obtain⟨t3,f3,O⟩:=mi O
 simp only[eb,Option.some.injEq]at O
 subst O
 obtain⟨t0',g0,U⟩:=mi U
 obtain⟨u1,g1,U⟩:=mi U
 obtain⟨u2,g2,U⟩:=mi U
 obtain⟨u3,g3,U⟩:=mi U
 simp only[eb,Option.some.injEq]at U
 subst U
 rw[f0]at g0
 injection g0 with g0
 subst g0
 have kR: ∀j (hj:j<ops.size) (ao:dy),[o0,o1,o2,o3][j]? =some ao→uQ P hs ops ops[j]=some ao:=by
  intro j hj ao hao
  obtain⟨x,hx,hy⟩:=MQ j ops[j] (by simp)
  grind
 have vV: ∃p1 p2 p3,ops.toList.map jX= [[],p1,p2,p3]∧0∈p1∧0∈p2∧(∀x∈p1,x<1)∧(∀x∈p2,x<1)∧1∈p3∧2∈p3∧ ∀x∈p3,x<3:=by
  unfold Hn at D
  grind
 obtain⟨p1,p2,p3,aFw,a1,a2,b1,b2,c1,c2,c3⟩:=vV
 have V: ∀j (hj:j<ops.size) (ps:List Nat),[[],p1,p2,p3][j]? =some ps→jX ops[j]=ps:=by
  grind
 have W:0<ops.size:=by omega
 have F:1<ops.size:=by omega
 have J:2<ops.size:=by omega
 have X:3<ops.size:=by omega
 have r0:=V 0 W [] rfl
 have r1:=V 1 F p1 rfl
 have r2:=V 2 J p2 rfl
 have r3:=V 3 X p3 rfl
 obtain⟨d1,d2⟩:=Ho h (w.drawn+1)
 refine wp_region_any hm ?_
 rw[po]
 have base:og st a {w with drawn:=w.drawn+1} β M n:=⟨hf.size,hf.defers,fun t=>d2.val (hf.slot t)⟩
 have sz0:w.heap.size≤{w with drawn:=w.drawn+1}.heap.size:=Nat.le_refl _
 have Z: ∀(t s:St),jd E call n o3 t=some s→(∀H w' r M',iU B s w' r M'→og s H w' r M' n→Tr st w β M s w' r M'→w.heap.size≤w'.heap.size→Q .normal H w')→
   ∀H w' r M',iU B t w' r M'→og t H w' r M' n→Tr st w β M t w' r M'→w.heap.size≤w'.heap.size→wpAny P .any ops Q 1 #[true,true,true,false] H w':=by
  intro t s he hq H w' r M' x1 x2 x3 x4
  refine⟨fun hr=> ?_,fun i hi=> ?_⟩
  ·have:3∈Region.ready .any ops #[true,true,true,false]:=(mc X).2 ⟨rfl,fun p D=>by
    rw[r3]at D
    have:=c3 p D
    have:p=0∨p=1∨p=2:=by omega
    rcases this with rfl|rfl|rfl <;> rfl⟩
   rw[hr]at this;cases this
  ·have N:=sN hi
   obtain⟨I,_⟩:=(mc N).1 hi
   have:i=0∨i=1∨i=2∨i=3:=by omega
   rcases this with rfl|rfl|rfl|rfl
   ·cases I
   ·cases I
   ·cases I
   ·refine rJ hE hO (o:=ops[3]) (Array.getElem?_eq_getElem X) (kR 3 X o3 rfl) x1 x2 he ?_
    intro a2 w2 Vy M2 z1 z2 z3 z4
    have hr0:Region.ready .any ops (#[true,true,true,false].setIfInBounds 3 true)= []:=by
     rw[List.eq_nil_iff_forall_not_mem]
     intro i hi
     have N:=sN hi
     obtain⟨I,_⟩:=(mc N).1 hi
     have:i=0∨i=1∨i=2∨i=3:=by omega
     rcases this with rfl|rfl|rfl|rfl <;> cases I
    exact⟨hr0,hq a2 w2 Vy M2 z1 z2 (x3.trans z3 x4) (Nat.le_trans x4 z4)⟩
 refine⟨fun hr=> ?_,fun i hi=> ?_⟩
 ·have:0∈Region.ready .any ops (Array.replicate 4 false):=(mc W).2 ⟨rfl,fun p D=>by rw[r0]at D;cases D⟩
  rw[hr]at this;cases this
 ·have N:=sN hi
  obtain⟨I,Y⟩:=(mc N).1 hi
  have:i=0∨i=1∨i=2∨i=3:=by omega
  rcases this with rfl|rfl|rfl|rfl
  ·refine rJ hE hO (o:=ops[0]) (Array.getElem?_eq_getElem W) (kR 0 W o0 rfl) d1 base f0 ?_
   intro H w' r M' x1 x2 x3 x4
   have x3':Tr st w β M t0 w' r M':=d2.trans x3 sz0
   show wpAny P .any ops Q 3 #[true,false,false,false] H w'
   refine⟨fun hr=> ?_,fun i hi=> ?_⟩
   ·have:1∈Region.ready .any ops #[true,false,false,false]:=(mc F).2 ⟨rfl,fun p D=>by
     rw[r1]at D
     have:=b1 p D
     have:p=0:=by omega
     subst this;rfl⟩
    rw[hr]at this;cases this
   ·have N:=sN hi
    obtain⟨I,Y⟩:=(mc N).1 hi
    have:i=0∨i=1∨i=2∨i=3:=by omega
    rcases this with rfl|rfl|rfl|rfl
    ·cases I
    ·refine rJ hE hO (o:=ops[1]) (Array.getElem?_eq_getElem F) (kR 1 F o1 rfl) x1 x2 f1 ?_
     intro a2 w2 Vy M2 z1 z2 z3 z4
     have z3':=x3'.trans z3 x4
     show wpAny P .any ops Q 2 #[true,true,false,false] a2 w2
     refine⟨fun hr=> ?_,fun i hi=> ?_⟩
     ·have:2∈Region.ready .any ops #[true,true,false,false]:=(mc J).2 ⟨rfl,fun p D=>by
       rw[r2]at D
       have:=b2 p D
       have:p=0:=by omega
       subst this;rfl⟩
      rw[hr]at this;cases this
     ·have N:=sN hi
      obtain⟨I,Y⟩:=(mc N).1 hi
      have:i=0∨i=1∨i=2∨i=3:=by omega
      rcases this with rfl|rfl|rfl|rfl
      ·cases I
      ·cases I
      ·refine rJ hE hO (o:=ops[2]) (Array.getElem?_eq_getElem J) (kR 2 J o2 rfl) z1 z2 f2 ?_
       intro a3 w3 β3 M3 v1 v2 v3 v4
       exact Z t2 t3 f3 q1 a3 w3 β3 M3 v1 v2 (z3'.trans v3 (Nat.le_trans x4 z4)) (Nat.le_trans x4 (Nat.le_trans z4 v4))
      ·have:=Y 2 (by rw[r3];exact c2);cases this
    ·refine rJ hE hO (o:=ops[2]) (Array.getElem?_eq_getElem J) (kR 2 J o2 rfl) x1 x2 g1 ?_
     intro a2 w2 Vy M2 z1 z2 z3 z4
     have z3':=x3'.trans z3 x4
     show wpAny P .any ops Q 2 #[true,false,true,false] a2 w2
     refine⟨fun hr=> ?_,fun i hi=> ?_⟩
     ·have:1∈Region.ready .any ops #[true,false,true,false]:=(mc F).2 ⟨rfl,fun p D=>by
       rw[r1]at D
       have:=b1 p D
       have:p=0:=by omega
       subst this;rfl⟩
      rw[hr]at this;cases this
     ·have N:=sN hi
      obtain⟨I,Y⟩:=(mc N).1 hi
      have:i=0∨i=1∨i=2∨i=3:=by omega
      rcases this with rfl|rfl|rfl|rfl
      ·cases I
      ·refine rJ hE hO (o:=ops[1]) (Array.getElem?_eq_getElem F) (kR 1 F o1 rfl) z1 z2 g2 ?_
       intro a3 w3 β3 M3 v1 v2 v3 v4
       exact Z u2 u3 g3 q2 a3 w3 β3 M3 v1 v2 (z3'.trans v3 (Nat.le_trans x4 z4)) (Nat.le_trans x4 (Nat.le_trans z4 v4))
      ·cases I
      ·have:=Y 1 (by rw[r3];exact c1);cases this
    ·have:=Y 1 (by rw[r3];exact c1);cases this
  ·have:=Y 0 (by rw[r1];exact a1);cases this
  ·have:=Y 0 (by rw[r2];exact a2);cases this
  ·have:=Y 1 (by rw[r3];exact c1);cases this
theorem sO(ks:List Nat)(f:Fr)(j:Nat):an (yy ks f) j=if j∈ks then .any else an f j:=by
 induction ks with
 |nil=>simp[yy]
 |cons k ks ih=>
  grind [yy,qD]
theorem Gv(ks:List Nat)(l i:iq b8)(j:Nat):iq.get l0 (Dt ks l i) j=if j∈ks then⟨max (iq.get l0 l j).g (iq.get l0 i j).g,.none⟩else iq.get l0 l j:=by
 induction ks with
 |nil=>simp[Dt]
 |cons k ks ih=>
  grind [Dt,iq.get_set]
theorem uY(ks:List Nat)(s t:St)(sp:Sp)(k:Nat):(sG ks s t).get sp k=if sp= .L∧k∈ks then⟨max (s.get sp k).g (t.get sp k).g,.none⟩else s.get sp k:=by
 cases sp with
 |S=>rw[if_neg (by simp)];rfl
 |L=>
  show iq.get l0 (Dt ks s.lh t.lh) k=_
  rw[Gv]
  by_cases h:k∈ks
  ·rw[if_pos h,if_pos ⟨rfl,h⟩];rfl
  ·rw[if_neg h,if_neg (by simp[h])];rfl
theorem AM(ks:List Nat)(s t:St)(sp:Sp)(k:Nat):s.gens sp k≤(sG ks s t).gens sp k:=by
 show(s.get sp k).g≤((sG ks s t).get sp k).g
 rw[uY]
 grind
theorem sP{ks:List Nat}{s t:St}{sp:Sp}{k:Nat}(h:live ((sG ks s t).get sp k)):(sG ks s t).get sp k=s.get sp k∧live (s.get sp k):=by
 rw[uY]at h ⊢
 split at h
 ·exact h.elim
 ·grind
theorem tJ{ks:List Nat}{s t:St}{sp:Sp}{k:Nat}(h:live ((sG ks s t).get sp k)):(sG ks s t).gens sp k=s.gens sp k:=by
 show((sG ks s t).get sp k).g=(s.get sp k).g
 rw[(sP h).1]
theorem VC(ks:List Nat)(t:St){B:l8}{s:St}{w:World}{β:iL}{M:iB}(h:iU B s w β M):iU B (sG ks s t) w β M:=by
 refine⟨fun sp k=> ?_,fun sp k F k' r D e=> ?_,h.mlt,fun k i=> ?_,fun k i=> ?_,h.os,h.tape,h.output,h.size,h.same,h.keep,h.msup⟩
 ·rw[uY]
  split
  ·unfold kY;trivial
  ·exact kY.mono (kQ.refl w M) (fun _ _ _ _=>rfl) (AM ks s t) (Nat.le_refl _) (fun _=>rfl) (fun _ _ h=>h) (h.obj sp k)
 ·rw[tJ r,tJ D]at e;exact h.dist sp k F k' (sP r).2 (sP D).2 e
 ·rw[tJ i];exact h.lblk k (sP i).2
 ·rw[tJ i];exact h.sblk k (sP i).2
theorem VD(ks:List Nat)(t:St){s:St}{a:Act}{w:World}{β:iL}{M:iB}(h:og s a w β M n):og (sG ks s t) a w β M n:=by
 refine⟨h.size,h.defers,fun i=> ?_⟩
 show fx β (sG ks s t).gens w M (an (yy ks s.fr) i) _
 rw[sO]
 split
 ·simp only[fx]
 ·exact fx.mono (kQ.refl w M) (fun _ _ _ _=>rfl) (AM ks s t) _ _ (h.slot i)
theorem VE(ks:List Nat)(t:St){st s:St}{w w':World}{β iO:iL}{M M':iB}(h:Tr st w β M s w' iO M'):Tr st w β M (sG ks s t) w' iO M':=⟨h.keep,h.beta,fun sp k=>Nat.le_trans (h.gens sp k) (AM ks s t sp k)⟩
theorem D1{ks:List Nat}{s t:St}(h:Du ks s t)(sp:Sp)(k:Nat):(sG ks s t).get sp k=(sG ks t s).get sp k:=by
 obtain⟨i,_,r⟩:=h
 cases sp with
 |S=>show iz s.sh k=iz t.sh k;rw[i]
 |L=>
  rw[uY,uY]
  by_cases hk:k∈ks
  ·grind
  ·rw[if_neg (by simp[hk]),if_neg (by simp[hk])]
   exact r k hk
theorem aaW{ks:List Nat}{s t:St}(h:Du ks s t)(k:Nat):an (sG ks s t).fr k=an (sG ks t s).fr k:=by
 show an (yy ks s.fr) k=an (yy ks t.fr) k
 rw[sO,sO]
 split
 ·rfl
 ·rename_i hk;exact h.2.1 k hk
theorem xu{ks:List Nat}{D F:Option (Out×St)}{o:Out}{s:St}(h:OG ks D F=some (o,s)): ∃i r,D=some (o,i)∧F=some (o,r)∧Du ks i r∧s=sG ks i r:=by
 unfold OG at h
 grind
theorem Ks(a:Code)(r i:dE):OH P hs a r i= .seq r i∨ ∃id ops D F H I,a= .region id ops true∧kP P hs ops ops.toList=some [D,F,H,I]∧Hn (ops.toList.map jX)=true∧OH P hs a r i= .fork [D,F,H,I] [D,H,F,I] i:=by
 unfold OH
 grind
theorem aie(hE:uo P E)(hO:yW P E call)(hm:P.follows .mixedOrders=true)(fl:Nat): ∀(c:Code) (ac:dE),nj P hs c=some ac→
  ∀{B:l8} {st W:St} {a:Act} {w:World} {β:iL} {M:iB} {o:Out},iU B st w β M→og st a w β M n→mO E call fl n ac st=some (o,W)→ ∀{Q:Exit→Act→World→Prop},
  (∀J w' N M',iU B W w' N M'→og W J w' N M' n→Tr st w β M W w' N M'→w.heap.size≤w'.heap.size→Q (aib o) J w')→c.wp P Q a w:=by
 intro c
 induction c with
 |skip=>
  intro ac hc B st W a w β M o h D i Q r
  simp[nj]at hc;subst hc
  simp[mO]at i;obtain⟨rfl,rfl⟩:=i
  exact wp_skip (r a w β M h D (Tr.refl _ _ _ _) (Nat.le_refl _))
 |region id ops draw=>
  intro ac hc B st W a w β M o h D i Q r
  cases draw with
  |false=>
   simp only[nj,Option.map_eq_some_iff]at hc
   obtain⟨as,H,rfl⟩:=hc
   simp only[mO,Option.map_eq_some_iff]at i
   obtain⟨Y,Z,h3⟩:=i
   simp at h3;obtain⟨rfl,rfl⟩:=h3
   refine wp_region ?_
   rw[List.range_eq_range']
   exact Vx hE hO ops.size 0 as (by omega) (by simpa using H) h D Z r
  |true=>
   simp only[nj]at hc
   split at hc
   ·rename_i as H
    split at hc
    ·rename_i hcc
     simp only[Bool.and_eq_true]at hcc
     simp at hc;subst hc
     simp only[mO,Option.map_eq_some_iff]at i
     obtain⟨Y,Z,h3⟩:=i
     simp at h3;obtain⟨rfl,rfl⟩:=h3
     exact VB hE hO hm H hcc.1 hcc.2 h D Z r
    ·cases hc
   ·cases hc
 |seq x y X VF=>
  intro ac hc B st W a w β M o h D i Q r
  simp only[nj]at hc
  split at hc
  ·rename_i F ay H Z
   simp only[Option.some.injEq]at hc
   rcases Ks (P:=P) (hs:=hs) x F ay with hj|⟨id,ops,o0,o1,o2,o3,rfl,uB,O4,hj⟩
   rotate_left
   ·rw[hj]at hc
    subst hc
    simp only[mO]at i
    split at i
    ·rename_i s1 s2 e1 e2
     obtain⟨t1,t2,g1,g2,wu,rfl⟩:=xu i
     refine wp_seq ?_
     refine aaV hE hO hm uB O4 h D e1 e2 ?_ ?_
     ·intro J w' N M' O U V I
      exact VF ay Z O U g1 (fun a2 w2 Vy M2 z1 z2 z3 z4=>r a2 w2 Vy M2 (VC _ _ z1) (VD _ _ z2) (VE _ _ (V.trans z3 I)) (Nat.le_trans I z4))
     ·intro J w' N M' O U V I
      exact VF ay Z O U g2 (fun a2 w2 Vy M2 z1 z2 z3 z4=>r a2 w2 Vy M2 (afL (D1 wu) (VC _ _ z1)) (afM (D1 wu) (aaW wu) (VD _ _ z2)) (Vz (D1 wu) (VE _ _ (V.trans z3 I))) (Nat.le_trans I z4))
    ·cases i
   rw[hj]at hc
   subst hc
   simp only[mO]at i
   refine wp_seq ?_
   cases hx:mO E call fl n F st with
   |none=>simp[hx]at i
   |some p=>
    obtain⟨ox,Y⟩:=p
    cases ox with
    |nrm=>
     simp only[hx]at i
     refine X F H h D hx ?_
     intro J w' N M' O U V I
     exact VF ay Z O U i (fun a2 w2 Vy M2 s1 s2 s3 s4=>r a2 w2 Vy M2 s1 s2 (V.trans s3 I) (Nat.le_trans I s4))
    |ext id=>
     simp[hx]at i;obtain⟨rfl,rfl⟩:=i
     exact X F H h D hx r
    |ret=>
     simp[hx]at i;obtain⟨rfl,rfl⟩:=i
     exact X F H h D hx r
  ·cases hc
 |cond c x y X VF=>
  intro ac hc B st W a w β M o h D i Q r
  simp only[nj]at hc
  split at hc
  ·rename_i c' F ay h0 H Z
   simp at hc;subst hc
   simp only[mO]at i
   have vc:=U8 D c c' h0
   split at i
   ·rename_i e
    rw[e]at vc
    exact wp_cond_true vc.bool (X F H h D i r)
   ·rename_i e
    rw[e]at vc
    exact wp_cond_false vc.bool (VF ay Z h D i r)
   ·cases i
  ·cases hc
 |block id x ih=>
  intro ac hc B st W a w β M o h D i Q r
  simp only[nj,Option.map_eq_some_iff]at hc
  obtain⟨F,H,rfl⟩:=hc
  simp only[mO]at i
  refine wp_block ?_
  cases hx:mO E call fl n F st with
  |none=>simp[hx]at i
  |some p=>
   obtain⟨ox,Y⟩:=p
   cases ox with
   |nrm=>simp[hx]at i;obtain⟨rfl,rfl⟩:=i;exact ih F H h D hx r
   |ret=>simp[hx]at i;obtain⟨rfl,rfl⟩:=i;exact ih F H h D hx r
   |ext Re=>
    simp only[hx]at i
    by_cases hid:Re=id
    ·simp only[hid,if_true,Option.some.injEq,Prod.mk.injEq]at i
     obtain⟨rfl,rfl⟩:=i
     refine ih F H h D hx ?_
     intro J w' N M' O U V I
     show Exit.inBlock id Q (.exit Re) J w'
     simp only[Exit.inBlock,hid,if_true]
     exact r J w' N M' O U V I
    ·simp only[hid,if_false,Option.some.injEq,Prod.mk.injEq]at i
     obtain⟨rfl,rfl⟩:=i
     refine ih F H h D hx ?_
     intro J w' N M' O U V I
     show Exit.inBlock id Q (.exit Re) J w'
     simp only[Exit.inBlock,hid,if_false]
     exact r J w' N M' O U V I
 |loop x ih=>
  intro ac hc B st W a w β M o h D i Q r
  simp only[nj,Option.map_eq_some_iff]at hc
  obtain⟨F,H,rfl⟩:=hc
  simp only[mO]at i
  have key: ∀(m:Nat) (Y:St) (a1:Act) (w1:World) (IX:iL) (M1:iB),iU B Y w1 IX M1→og Y a1 w1 IX M1 n→Tr st w β M Y w1 IX M1→w.heap.size≤w1.heap.size→iter (mO E call fl n F) m Y=some (o,W)→Code.rounds P x Q m a1 w1:=by
   intro m
   induction m with
   |zero=>grind [iter]
   |succ m ihm=>
    intro Y a1 w1 IX M1 g1 g2 g3 g4 hi
    rw[rounds_succ]
    simp only[iter]at hi
    cases hx:mO E call fl n F Y with
    |none=>simp[hx]at hi
    |some p=>
     obtain⟨ox,AK⟩:=p
     cases ox with
     |nrm=>
      simp only[hx]at hi
      refine ih F H g1 g2 hx ?_
      intro J w' N M' O U V I
      exact ihm AK J w' N M' O U (g3.trans V g4) (Nat.le_trans g4 I) hi
     |ext id=>
      simp[hx]at hi;obtain⟨rfl,rfl⟩:=hi
      refine ih F H g1 g2 hx ?_
      intro J w' N M' O U V I
      exact r J w' N M' O U (g3.trans V g4) (Nat.le_trans g4 I)
     |ret=>
      simp[hx]at hi;obtain⟨rfl,rfl⟩:=hi
      refine ih F H g1 g2 hx ?_
      intro J w' N M' O U V I
      exact r J w' N M' O U (g3.trans V g4) (Nat.le_trans g4 I)
  exact wp_loop_rounds fl (key fl st a w β M h D (Tr.refl _ _ _ _) (Nat.le_refl _) i)
 |exit id=>
  intro ac hc B st W a w β M o h D i Q r
  simp[nj]at hc;subst hc
  simp[mO]at i;obtain⟨rfl,rfl⟩:=i
  exact wp_exit (r a w β M h D (Tr.refl _ _ _ _) (Nat.le_refl _))
 |ret=>
  intro ac hc B st W a w β M o h D i Q r
  simp[nj]at hc;subst hc
  simp[mO]at i;obtain⟨rfl,rfl⟩:=i
  exact wp_ret (r a w β M h D (Tr.refl _ _ _ _) (Nat.le_refl _))
 |rangeFunc _ _ _ _=>grind [nj]
 |scope _=>grind [nj]
 |label _=>grind [nj]
 |goto _=>grind [nj]
 |refuse _=>grind [nj]
end
end Go.Ev
namespace Go.Ev
open Go
section
variable{P:Program}{E:Env}{n:Nat}
def HC(ts:Array Value)(r:ResultVar):Sem Value:=
 match r with
 | .tmp t=>pure (ts.getD t undef)
 | .cell ad t=>do loadVar t (←asAddr (ts.getD ad undef))
theorem MR(r:Func)(ts:Array Value):results r ts=(do
  let i ←(List.toArray <$> r.results.toList.mapM (HC ts))
  pure (if h:i.size=1 then i[0]else .tuple i)):=by
 unfold results
 rw[Array.mapM_eq_mapM_toList]
 congr 2
theorem xw{B:l8}{st:St}{a:Act}{w:World}{β:iL}{M:iB}(h:iU B st w β M)(H:og st a w β M n): ∀(rs:List ResultVar) (i:List p5) (F:List T),tz P rs=some i→nL st i=some F→
  ∃D:List Value,(rs.mapM (HC a.tmps)).run P w=Result.ok D w∧gP β st.gens w M F D
 | [],i,F,hc,hr=>by
   simp_all[tz,nL,gP]
 | .tmp t::rs,i,F,hc,hr=>by
   simp only[tz,Option.map_eq_some_iff]at hc
   obtain⟨r,J,rfl⟩:=hc
   simp only[nL,J0]at hr
   split at hr
   ·rename_i v N I O
    simp at hr I;subst hr;subst I
    obtain⟨D,U,V⟩:=xw h H rs r N J O
    refine⟨a.tmps.getD t undef::D, ?_, ?_⟩
    ·grind [HC,Sem.run_bind,Sem.run_pure,Result.andThen_ok]
    ·simp only[gP];exact⟨_,_,rfl,H.slot t,V⟩
   ·cases hr
 | .cell ad t::rs,i,F,hc,hr=>by
   simp only[tz]at hc
   split at hc
   ·rename_i sz ag r J W X
    simp at hc;subst hc
    simp only[nL,J0]at hr
    split at hr
    ·rename_i v N I O
     simp at hr;subst hr
     obtain⟨D,U,V⟩:=xw h H rs r N X O
     obtain⟨Y,cv,Z,q2,q3⟩:=J7 (P:=P) h J W (H.slot ad) I
     refine⟨cv::D, ?_, ?_⟩
     ·rw[List.mapM_cons]
      simp only[HC,Sem.run_bind,Z,asAddr,Sem.run_pure,Result.andThen_ok,q2,U]
     ·grind [gP]
    ·cases hr
   ·cases hc
theorem Rt{β:iL}{G:Sp→Nat→Nat}{w:World}{M:iB}{args:List T}{i:Array Value}(F:gP β G w M args i.toList)(k:Nat)(t:Nat):fx β G w M (an (p6 args) t) ((i++Array.replicate k undef).getD t undef):=by
 have r:=gP.length _ _ F
 by_cases I:t<args.length
 ·have J:args[t]? =some args[t]:=List.getElem?_eq_getElem I
  obtain⟨cv,N,V⟩:=F.get J
  have H:an (p6 args) t=args[t]:=by
   rw[Gi]
   have: ∀(l:List T) (j:Nat) (D:j<l.length),iE iW l j=l[j]:=by
    intro l
    induction l with
    |nil=>grind
    |cons x xs ih=>intro j D;cases j with|zero=>rfl|succ j=>exact ih j (by simpa using D)
   grind
  have O:i[t]? =some cv:=by simpa using N
  have W:t<i.size:=by simp at r;omega
  simp_all[Array.getD_eq_getD_getElem?,Array.getElem?_append_left]
 ·have H:an (p6 args) t=iW:=by
   rw[Gi]
   have: ∀(l:List T) (j:Nat),l.length≤j→iE iW l j=iW:=by
    intro l
    induction l with
    |nil=>intro j _;rfl
    |cons x xs ih=>intro j D;cases j with|zero=>simp at D|succ j=>exact ih j (by simpa using D)
   grind
  have U:(i++Array.replicate k undef).getD t undef=undef:=by
   rw[Array.getD_eq_getD_getElem?,Array.getElem?_append_right (by simp at r;omega),Array.getElem?_replicate]
   split <;> rfl
  rw[H,U]
  simp[fx,iW,undef,gP]
def pack:List T→T
 | [v]=>v
 |vs=> .tup vs
theorem MS{keep:Bool}{n:Nat}:fz keep (n+1) .nilsl= .ret (.nilsl,[]):=rfl
theorem zd{f:T→Q (T×List Up)}{h:Sp→Nat→b8}{r:Nat}(I:f .nilsl= .ret (.nilsl,[])): ∀(ts:List T) {j:Nat} {q:List T×List Up},(ja f ts).run h r=some q→ts[j]? =some .nilsl→q.1[j]? =some .nilsl
 | [],j,q,_,D=>by simp at D
 |t::ts,j,q,i,D=>by
  simp only[ja,Q.run_bind]at i
  cases H:(f t).run h r with
  |none=>simp[H]at i
  |some p=>
   simp only[H,Option.bind_some]at i
   cases F:(ja f ts).run h r with
   |none=>simp[F]at i
   |some J=>
    simp only[F,Option.bind_some,Q.run,Option.some.injEq]at i
    subst i
    cases j with
    |zero=>
     grind [Q.run]
    |succ j=>simpa using zd I ts F (by simpa using D)
theorem HD{f:T→Q (T×List Up)}{h:Sp→Nat→b8}{r:Nat}: ∀(ts:List T) {j:Nat} {q:List T×List Up} {x:T},(ja f ts).run h r=some q→ts[j]? =some x→ ∃p,(f x).run h r=some p∧q.1[j]? =some p.1
 | [],j,q,x,_,D=>by simp at D
 |t::ts,j,q,x,i,D=>by
  simp only[ja,Q.run_bind]at i
  cases H:(f t).run h r with
  |none=>simp[H]at i
  |some p=>
   simp only[H,Option.bind_some]at i
   cases F:(ja f ts).run h r with
   |none=>simp[F]at i
   |some I=>
    simp only[F,Option.bind_some,Q.run,Option.some.injEq]at i
    subst i
    cases j with
    |zero=>grind
    |succ j=>simpa using HD ts F (by simpa using D)
theorem HE{n:Nat}{cs:List T}{h:Sp→Nat→b8}{i:Nat}{p:T×List Up}(r:(fz false (n+1) (.agg cs)).run h i=some p): ∃q,(ja (fz false n) cs).run h i=some q∧p.1= .agg q.1:=by
 have r:((ja (fz false n) cs).bind fun q=>Q.ret (T.agg q.1,q.2)).run h i=some p:=r
 rw[Q.run_bind]at r
 cases D:(ja (fz false n) cs).run h i with
 |none=>simp[D]at r
 |some q=>
  grind [Q.run,Option.some.injEq]
theorem aih{r t y:T}{us:List Up}{h:Sp→Nat→b8}{F j:Nat}(i:(fz false iG (iI r j .nilsl)).run h F=some (t,us))(hc:lA r j=some y):okC t j:=by
 cases r
 case tup vs=>
  by_cases H:j<100
  ·simp only[iI,H,if_true]at i
   have i:((ja (fz false 7) (vs.set j .nilsl)).bind fun q=>Q.ret (T.tup q.1,q.2)).run h F=some (t,us):=i
   rw[Q.run_bind]at i
   cases D:(ja (fz false 7) (vs.set j .nilsl)).run h F with
   |none=>simp[D]at i
   |some q=>
    simp only[D,Option.bind_some,Q.run,Option.some.injEq,Prod.mk.injEq]at i
    obtain⟨rfl,rfl⟩:=i
    exact .inl H
  ·simp only[lA,H,if_false]at hc
   cases hi:vs[j/100-1]? with
   |none=>grind
   |some I=>
    rw[hi]at hc
    cases I <;> try (simp only at hc;cases hc;done)
    rename_i cs
    simp only[iI,H,if_false,hi]at i
    have i:((ja (fz false 7) (vs.set (j/100-1) (.agg (cs.set (j%100) .nilsl)))).bind fun q=>Q.ret (T.tup q.1,q.2)).run h F=some (t,us):=i
    rw[Q.run_bind]at i
    cases D:(ja (fz false 7) (vs.set (j/100-1) (.agg (cs.set (j%100) .nilsl)))).run h F with
    |none=>simp[D]at i
    |some q=>
     simp only[D,Option.bind_some,Q.run,Option.some.injEq,Prod.mk.injEq]at i
     obtain⟨rfl,rfl⟩:=i
     obtain⟨p,J,N⟩:=HD _ D (List.getElem?_set_self (List.getElem?_eq_some_iff.1 hi).1)
     obtain⟨O,_,e⟩:=HE J
     exact .inr ⟨O.1,by rw[N,e]⟩
 case agg vs=>
  simp only[iI]at i
  obtain⟨q,_,e⟩:=HE (n:=7) i
  rw[show t=_ from e]
  trivial
 case any=>simp[lA]at hc
 all_goals
  simp[iI,iG,fz,Q.run]at i
  obtain⟨rfl,rfl⟩:=i
  trivial
theorem aaX{r t:T}{us:List Up}{h:Sp→Nat→b8}{F j:Nat}(i:(fz false iG r).run h F=some (t,us))(hc:lA r j=some .nilsl):lA t j=some .nilsl:=by
 cases r
 case tup vs=>
  have i:((ja (fz false 7) vs).bind fun q=>Q.ret (T.tup q.1,q.2)).run h F=some (t,us):=i
  rw[Q.run_bind]at i
  cases D:(ja (fz false 7) vs).run h F with
  |none=>simp[D]at i
  |some q=>
   simp only[D,Option.bind_some,Q.run,Option.some.injEq,Prod.mk.injEq]at i
   obtain⟨rfl,rfl⟩:=i
   simp only[lA]at hc ⊢
   by_cases H:j<100
   ·rw[if_pos H]at hc ⊢
    exact zd MS vs D hc
   ·rw[if_neg H]at hc ⊢
    cases hi:vs[j/100-1]? with
    |none=>grind
    |some I=>
     rw[hi]at hc
     cases I <;> try (simp only at hc;cases hc;done)
     rename_i cs
     obtain⟨p,J,N⟩:=HD _ D hi
     obtain⟨V,O,U⟩:=HE J
     rw[N,U]
     exact zd MS cs O hc
 case agg vs=>
  have i:((ja (fz false 7) vs).bind fun q=>Q.ret (T.agg q.1,q.2)).run h F=some (t,us):=i
  rw[Q.run_bind]at i
  cases D:(ja (fz false 7) vs).run h F with
  |none=>simp[D]at i
  |some q=>
   simp only[D,Option.bind_some,Q.run,Option.some.injEq,Prod.mk.injEq]at i
   obtain⟨rfl,rfl⟩:=i
   exact zd MS vs D hc
 all_goals
  simp only[lA,Option.some.injEq]at hc
  try (cases hc;done)
 simp[iG,fz,Q.run]at i
 obtain⟨rfl,rfl⟩:=i
 rfl
theorem D2(hE:uo P E)(hm:P.follows .mixedOrders=true){m:Nat}(hO:yW P E (j4 E m)){f:Nat}{af:ib}{args:List T}{sh:List b8}{r:T}{X:List b8}(Cp:E.fn f=some af)(i:j4 E (m+1) f args sh=some (r,X))
  {w:World} {β:iL} {M:iB} {cargs:Array Value} (Bv:iU ⟨w,M,lI sh β⟩ (bare .nil sh) w β M) (Y:gP β (bare .nil sh).gens w M args cargs.toList) {Q:Ending→World→Prop}
  (hQ: ∀I D w' O M' v,iU ⟨w,M,lI sh β⟩ I w' O M'→tw af.own af.eff D I=some (r,X)→fx O I.gens w' M' (pack D) v→Tr (bare (p6 args) sh) w β M I w' O M'→Q (.returned v) w'):Calls P f cargs w Q:=by
  obtain⟨hs,fn,hf,F⟩:=hE.1 f af Cp
  simp only[j4,Cp]at i
  split at i
  ·cases i
  ·rename_i hlen
   unfold Gb at F
   split at F
   ·cases F
   ·split at F
    ·cases F
    ·rename_i code Z
     split at F
     ·rename_i ac V h1 h2
      simp at F
      have hV:gP β (bare (p6 args) sh).gens w M args cargs.toList:=Y
      have mJ:=gP.length _ _ hV
      have hn:fn.ntmps=af.n:=by rw[←F]
      have arW:af.code=ac:=by rw[←F]
      have FB:af.res=V:=by rw[←F]
      rw[arW]at i
      cases H:mO E (j4 E m) m af.n ac {fr:=p6 args,lh:= .nil,sh}with
      |none=>simp[H]at i
      |some p=>
       obtain⟨o,I⟩:=p
       have FD:o≠ .nrm→o≠ .ret→False:=by
        intro n1 n2
        cases o with
        |nrm=>exact n1 rfl
        |ret=>exact n2 rfl
        |ext id=>simp[H]at i
       have AN: ∃D,nL I af.res=some D∧tw af.own af.eff D I=some (r,X):=by
        cases o with
        |nrm=>
         simp only[H]at i
         split at i
         ·rename_i D hv
          exact⟨D,hv,i⟩
         ·cases i
        |ret=>
         simp only[H]at i
         split at i
         ·rename_i D hv
          exact⟨D,hv,i⟩
         ·cases i
        |ext id=>exact(FD (by simp) (by simp)).elim
       obtain⟨J,ayV,AN⟩:=AN
       have hF:og (bare (p6 args) sh) {tmps:=cargs++Array.replicate (fn.ntmps-cargs.size) undef,defers:= []} w β M af.n:=by
        refine⟨by simp at mJ ⊢; omega,rfl,fun t=>Rt hV _ t⟩
       refine calls_of_wp hf Z ?_
       refine aie (n:=af.n) hE hO hm m code ac h1 (B:=⟨w,M,lI sh β⟩) (st:=bare (p6 args) sh) (aaQ Bv (p6 args)) hF H ?_
       intro a' w' O M' r1 r2 r3 r4
       have post:a'.defers= []∧ ∃v,(results fn a'.tmps).run P w'= .ok v w'∧Q (.returned v) w':=by
        refine⟨r2.defers, ?_⟩
        have W:=ayV
        rw[FB]at W
        obtain⟨N,q1,U⟩:=xw (P:=P) r1 r2 fn.results.toList V J h2 W
        have arX:(results fn a'.tmps).run P w'= .ok (if hh:N.toArray.size=1 then N.toArray[0]else .tuple N.toArray) w':=by
         rw[MR]
         simp only[Sem.run_bind,Sem.run_map,q1,Result.andThen_ok,Sem.run_pure]
        have VG:fx O I.gens w' M' (pack J) (if hh:N.toArray.size=1 then N.toArray[0]else .tuple N.toArray):=by
         have Cm:=gP.length _ _ U
         cases J with
         |nil=>
          simp only[gP]at U;subst U
          simp[pack,fx,gP]
         |cons v D=>
          cases D with
          |nil=>
           simp only[gP]at U
           obtain⟨u,us,rfl,k1,rfl⟩:=U
           simpa[pack]using k1
          |cons v2 D=>
           have:N.toArray.size≠1:=by simp at Cm ⊢; omega
           rw[dif_neg this]
           simp only[pack,fx]
           exact⟨_,rfl,by simpa using U⟩
        exact⟨_,arX,hQ I J w' O M' _ r1 AN VG r3⟩
       cases o with
       |nrm=>exact post
       |ret=>exact post
       |ext id=>exact(FD (by simp) (by simp)).elim
     ·cases F
theorem BF(i:Bool)(r:List T)(st:St):answer i r st=match(fz i iG (pack r)).run st.get st.sh.length with
 |some p=>some (p.1,(st.ups p.2).sh)
 |none=>none:=by
 cases r with
 |nil=>rfl
 |cons v r=>cases r <;> rfl
theorem HF(j:Nat)(i:List T)(st:St):rF j i st=match lA (pack i) j with
 |some .nilsl=>answer false i st
 |some (.isl .L k g 0 len sz)=>
  (match(fz false iG (iI (pack i) j .nilsl)).run st.get st.sh.length with
  |some p=>(match(st.ups p.2).get .L k with
   |⟨r,.cells cs wm false⟩=>if r=g∧cs.length=len*sz∧len≠0∧(wm=0∨rE (iI p.1 j .nilsl)=true)then some (iI p.1 j (.sl cs len false),(st.ups p.2).sh)else none
   |_=>none)
  |none=>none)
 |_=>none:=by
 cases i with
 |nil=>rfl
 |cons v i=>cases i <;> rfl
theorem Gw{B:l8}{i:St}{I:List T}{w':World}{F:iL}{M':iB}{v:Value}{D:Bool}{r:T}{J:List b8}(N:iU B i w' F M')(H:answer D I i=some (r,J))(VG:fx F i.gens w' M' (pack I) v):
  ∃M2 us,iU B (i.ups us) w' F M2∧(i.ups us).gens=i.gens∧J=(i.ups us).sh∧tC D F i.gens w' M2 r v:=by
 rw[BF]at H
 split at H
 ·rename_i p O
  obtain⟨U,us⟩:=p
  simp at H
  obtain⟨rfl,rfl⟩:=H
  obtain⟨M2,V,W,Y,X,Z⟩:=Bw D i iG _ _ i w' F M' _ U us _ (Fz.refl i) N VG O
  exact⟨M2,us,V,W.gens,rfl,X⟩
 ·cases H
theorem Kt(hE:uo P E)(hm:P.follows .mixedOrders=true): ∀m,yW P E (j4 E m)
 |0=>by
  intro f af args sh r iT Cp hc
  simp[j4]at hc
 |m+1=>by
  have hO:=Kt hE hm m
  intro f af args sh r iT Cp im
  refine⟨fun xt=> ?_,fun j xt=> ?_⟩
  ·intro w β M N Bv H
   refine D2 hE hm hO Cp im Bv (oi.toV H) ?_
   intro F vs w' I M' v Z D hv r3
   rw[xt]at D
   obtain⟨M2,us,O,z2,rfl,J⟩:=Gw Z D hv
   refine⟨v,I,M2,rfl,Hw O .nil,fun k g hg=>r3.beta .S k g hg,fun k=> ?_, ?_⟩
   ·have e1:(iz (F.ups us).sh k).g=(F.ups us).gens .S k:=rfl
    rw[e1,z2]
    exact r3.gens .S k
   ·have U: ∀k,(bare .nil (F.ups us).sh).gens .S k=F.gens .S k:=by
     intro k
     have e1:(bare .nil (F.ups us).sh).gens .S k=(F.ups us).gens .S k:=rfl
     rw[e1,z2]
    cases V:af.eff with
    |false=>rw[V]at J;exact J
    |true=>
     rw[V]at J
     intro b g p q
     exact J b g (fun k x hx=>p k x (by rw[U];exact hx)) (fun k=>by rw[←U];exact q k)
  ·have V:af.eff=false:=by
    grind [j4,tw]
   refine⟨V, ?_⟩
   intro w β M N Bv H
   refine D2 hE hm hO Cp im Bv (oi.toV H) ?_
   intro F vs w' I M' v Z D hv r3
   rw[xt,V]at D
   have D:rF j vs F=some (r,iT):=by simpa[tw]using D
   rw[HF]at D
   split at D
   ·rename_i hc
    obtain⟨M2,us,O,z2,rfl,J⟩:=Gw Z D hv
    refine⟨v,I,M2,rfl,Hw O .nil,.inl ⟨?_,J⟩⟩
    grind [BF,aaX]
   ·rename_i k g len sz hc
    split at D
    ·rename_i p hz
     obtain⟨t',us⟩:=p
     have hn:fx I F.gens w' M' .nilsl oW:=by simp only[fx]
     obtain⟨⟨x,hx,W⟩,MA⟩:=Vo hv hc hn rfl
     obtain⟨M2,O,z2,z3,J,z5⟩:=Bw false F iG _ _ F w' I M' _ t' us _ (Fz.refl F) Z MA hz
     dsimp only at D
     split at D
     ·rename_i g' cs wm FE
      split at D
      ·rename_i hcs
       obtain⟨rfl,mJ,Bx,Kc⟩:=hcs
       simp at D
       obtain⟨rfl,rfl⟩:=D
       simp only[fx]at W
       obtain⟨aFA,cap,rfl,hlc,hcx⟩:=W
       have ho:=O.obj .L k
       rw[FE]at ho
       unfold kY at ho
       obtain⟨c,el,fzz,o1,o2,o3,o4,o5,o6,o7,o8⟩:=ho
       dsimp only at o1 o2 o3 o4 o5 o6
       subst o4
       have X:=fun(b:iL) (G:Sp→Nat→Nat)=>Vp (cs:=cs) (len:=len) (ex:=false) (aih hz hc) (PRel.toV b G _ _ J) hx
       have Gj:live ((F.ups us).get .L k):=by rw[FE];trivial
       have FH:(F.ups us).gens .L k=g':=by show((F.ups us).get .L k).g=g';rw[FE]
       have Y:=O.lblk k Gj
       rw[FH]at Y
       refine⟨v,I,M2,rfl,Hw O .nil,.inr ⟨cs,len,(X I F.gens).1,I .L k g',sz,cap,c,el,Y,o1,o2,o3,o5, ?_,o7,mJ,Bx,hlc,by simpa using hcx,hx,fun b G=>(X b G).2⟩⟩
       rcases Kc with rfl|Kc
       ·exact .inr fun i hi=>o6 i (Nat.zero_le _) hi
       ·exact .inl (by rw[MJ _ _ _ _ rfl];exact Kc)
      ·cases D
     ·cases D
    ·cases D
   ·cases D
end
theorem pure_call{P:Program}{E:Env}(U:uo P E)(I:P.follows .mixedOrders=true){m f:Nat}{af:ib}(Cp:E.fn f=some af)(V:af.eff=false)(W:af.own=none){args:List T}{r:T}{J:List b8}(hc:j4 E m f args []=some (r,J))(w:World)(i:Array Value)
  (F:PList w (fun _ _=>False) args i.toList):Calls P f i w fun e w'=> ∃cv,e= .returned cv∧RowKit.Below w.heap.size w w'∧PRel w' (fun _ _=>False) r cv:=by
 have N:=(Kt U I m f af args [] r J Cp hc).1 W
 rw[V]at N
 let β:iL:=fun _ _ _=>⟨0,0,0⟩
 have X: ∀b,¬lI [] β b:=by rintro b ⟨k,D,_⟩;simp[iz,iE]at D;exact D.elim
 have Bv:iU ⟨w,fun _ _=>False,lI [] β⟩ (bare .nil []) w β (fun _ _=>False):=by
  have e: ∀sp k,(bare .nil []).get sp k=l0:=by intro sp k;cases sp <;> simp[bare,St.get,iz,iE,iq.get_nil]
  refine⟨fun sp k=> ?_,fun sp k Z k' O _ _=> ?_,fun _ _ h=>h.elim,fun k D=> ?_,fun k D=> ?_,rfl,rfl,rfl,Nat.le_refl _,fun _ _ _=>rfl,kQ.refl _ _,fun _ _ _ _ I=>I⟩
  ·grind [kY,l0]
  ·rw[e]at O;exact O.elim
  ·rw[e]at D;exact D.elim
  ·rw[e]at D;exact D.elim
 refine(N w β _ i Bv F).mono ?_
 rintro e w' ⟨cv,iO,M',rfl,H,_,_,hr⟩
 refine⟨cv,rfl,⟨H.os,H.tape,H.output,H.size,fun b Y=>H.same b Y (X b)⟩, ?_⟩
 exact PRel.mono (kE (fun _ _ h=>h.elim)) _ _ hr
end Go.Ev
namespace Go.Ev
open Go
inductive Gf where
 |nil
 |nd (l:Gf) (k:Nat) (v:ib) (r:Gf)
def Gf.find:Gf→Nat→Option ib
 | .nil,_=>none
 | .nd l k v r,f=>bif Nat.beq f k then some v else bif Nat.ble f k then l.find f else r.find f
def Gf.All(p:Nat→ib→Prop):Gf→Prop
 | .nil=>True
 | .nd l k v r=>Gf.All p l∧p k v∧Gf.All p r
theorem Gf.all_find{p:Nat→ib→Prop}{f:Nat}{v:ib}: ∀{t:Gf},Gf.All p t→t.find f=some v→p f v
 | .nil,_,h=>by simp[Gf.find]at h
 | .nd l k u r,D,h=>by
   obtain⟨F,H,I⟩:=D
   simp only[Gf.find]at h
   cases i:Nat.beq f k with
   |true=>
    rw[i,cond_true]at h
    have:f=k:=Nat.eq_of_beq_eq_true i
    subst this
    cases h;exact H
   |false=>
    rw[i,cond_false]at h
    cases hc:Nat.ble f k with
    |true=>rw[hc,cond_true]at h;exact Gf.all_find F h
    |false=>rw[hc,cond_false]at h;exact Gf.all_find I h
def Hi(P:Program)(f:Nat)(af:ib):Prop:= ∃hs i,P.funcs[f]? =some i∧Gb P hs af.eff i=some af
theorem codeOk{P:Program}{f:Nat}{af:ib}{hs:List Nat}{i:Func}(h:P.funcs[f]? =some i)(k:Gb P hs af.eff i=some af):Hi P f af:=⟨hs,i,h,k⟩
def ExtOk(P:Program)(f:Nat)(g:List T→Option T):Prop:=
 (∃D,P.funcs[f]? =some D∧(D.name== "runtime.NumGoroutine")=false∧D.body.isSome=true)∧
   ∀args r,g args=some r→ ∀(w:World) (M:iB) (i:Array Value),(∀b o,M b o→b<w.heap.size)→PList w M args i.toList→
    Calls P f i w fun e w'=> ∃cv,e= .returned cv∧RowKit.Below w.heap.size w w'∧PRel w' (fun b _=>b<w.heap.size) r cv
theorem apw{P:Program}{t:Gf}{x:Nat→Option (List T→Option T)}{y:Nat→Option (List T→Option (List T×Option Nat))}(h:Gf.All (Hi P) t)(hx: ∀f g,x f=some g→ExtOk P f g)
  (D: ∀f g,y f=some g→(∃i,P.funcs[f]? =some i∧(i.name== "runtime.NumGoroutine")=false∧i.body.isSome=true)∧arK P f g):uo P ⟨t.find,x,y⟩:=
 ⟨fun f af F=>Gf.all_find h F,fun f g _ r=>hx f g r,fun f g _ _ r=>D f g r⟩
noncomputable abbrev afO(E:Env)(m f:Nat)(args:List T)(sh:List b8):Option (T×List b8):=j4 E m f args sh
theorem mS{E:Env}{m f:Nat}{args:List T}{sh:List b8}{r:Option (T×List b8)}(h:afO E m f args sh=r):j4 E m f args sh=r:=h
theorem fy{E:Env}{m f:Nat}{args:List T}{sh:List b8}:afO E m f args sh=j4 E m f args sh:=rfl
end Go.Ev
