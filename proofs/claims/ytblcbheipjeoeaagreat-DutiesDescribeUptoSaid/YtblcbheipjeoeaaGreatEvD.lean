/- A tree evaluator over the model, proved against it (part D): where it answers, the call returns that answer. Conditions: none beyond its theorems' own. -/
import Derived.Test.YtblcbheipjeoeaaGreatEvC
set_option linter.unusedSimpArgs false
set_option linter.unusedVariables false
namespace Go.Ev
open Go
def bare(fr:Fr)(sh:List gR):St:={fr,lh:= .nil,sh}
theorem DN(fr:Fr)(sh:List gR)(k:Nat):(bare fr sh).get .L k=lA:=by simp[bare,St.get,jr,iy,hJ.get_nil]
theorem kQ.shared{β iM:iJ}{G G':Sp→Nat→Nat}{w:World}{M:im}{k:Nat}{e:gR}(Fu: ∀n g,g≤G .S n→iM .S n g=β .S n g)(r: ∀n,G .S n≤G' .S n)(C:e.g≤G .S k)(h:kQ β G w M .S k e):kQ iM G' w M .S k e:=by
 unfold kQ at h ⊢
 rw[Fu k _ C]
 obtain⟨g,ob⟩:=e
 cases ob with
 |none=>trivial
 |cells cs wm bx=>
  obtain⟨c,el,fz,D,F,H,I,i,J,N⟩:=h
  refine⟨c,el,fz,D,F,H,I, ?_,J,N⟩
  cases bx
  ·exact i
  ·exact zN.mono (kM.refl w M) Fu r i
 |map ks O fz=>exact h
theorem HS{B:lS}{st:St}{w:World}{β:iJ}{M:im}(h:iP B st w β M)(fr:Fr):iP B (bare fr st.sh) w β M:=by
 refine⟨fun sp k=> ?_,fun sp k D k' r C F=> ?_,h.mlt,fun k i=> ?_,fun k i=>h.sblk k i,h.os,h.tape,h.output,h.size,h.same,h.keep,h.msup⟩
 ·cases sp with
  |L=>grind [kQ,lA,DN]
  |S=>exact kQ.shared (G:=st.gens) (β:=β) (fun _ _ _=>rfl) (fun _=>Nat.le_refl _) (Nat.le_refl _) (h.obj .S k)
 ·cases sp with
  |L=>rw[DN]at r;exact r.elim
  |S=>
   cases D with
   |L=>rw[DN]at C;exact C.elim
   |S=>exact h.dist .S k .S k' r C F
 ·rw[DN]at i;exact i.elim
def lv(sh:List gR)(β:iJ)(b:Nat):Prop:= ∃k,live (jr sh k)∧(β .S k (jr sh k).g).blk=b
theorem aaO{B:lS}{st:St}{w:World}{β:iJ}{M:im}(h:iP B st w β M)(fr:Fr):iP ⟨w,M,lv st.sh β⟩ (bare fr st.sh) w β M:=by
 have r:=HS h fr
 refine⟨r.obj,r.dist,h.mlt,fun k i=> ?_,fun k i=> .inl ⟨k,i,rfl⟩,rfl,rfl,rfl,Nat.le_refl _,fun _ _ _=>rfl,kM.refl w M,fun _ _ _ _ C=>C⟩
 rw[DN]at i;exact i.elim
theorem V2{B:lS}{st:St}{w:World}{β:iJ}{M:im}(h:iP B st w β M)(fr:Fr):iP ⟨w,M,fun _=>False⟩ (bare fr []) w β M:=by
 have e: ∀sp k,(bare fr []).get sp k=lA:=by intro sp k;cases sp <;> simp[bare,St.get,jr,iy,hJ.get_nil]
 refine⟨fun sp k=> ?_,fun sp k D k' r _ _=> ?_,h.mlt,fun k i=> ?_,fun k i=> ?_,rfl,rfl,rfl,Nat.le_refl _,fun _ _ _=>rfl,kM.refl w M,fun _ _ _ _ C=>C⟩
 ·grind [kQ,lA]
 ·rw[e]at r;exact r.elim
 ·rw[e]at i;exact i.elim
 ·rw[e]at i;exact i.elim
theorem Ka{B:lS}{st:St}{w w':World}{β:iJ}{M:im}(h:iP B st w β M)(C:w'.os=w.os)(D:w'.tape=w.tape)(Rk:w'.output=w.output)(I:w.heap.size≤w'.heap.size)(r: ∀b,b<w.heap.size→w'.heap[b]? =w.heap[b]?):
  iP B st w' β M∧Tr st w β M st w' β M:=by
 have F:kM w M w' M:=⟨fun b o v i _=>by rw[ov (w:=w) (r b (zM i))];exact i,fun b U c i _=>by rw[r b (qV i)];exact i,fun _ _ _ h=>h⟩
 refine⟨⟨fun sp k=> ?_,h.dist,fun b o H=>Nat.lt_of_lt_of_le (h.mlt b o H) I,h.lblk,h.sblk,C.trans h.os,D.trans h.tape,Rk.trans h.output,Nat.le_trans h.size I,fun b J N=>(r b (Nat.lt_of_lt_of_le J h.size)).trans (h.same b J N),h.keep.trans F h.size,h.msup⟩,F,fun _ _ _ _=>rfl,fun _ _=>Nat.le_refl _⟩
 exact kQ.mono F (fun _ _ _ _=>rfl) (fun _ _=>Nat.le_refl _) (Nat.le_refl _) (fun O=>r _ (h.lt O)) (fun _ _ H=>H) (h.obj sp k)
theorem ah5{B:lS}{st:St}{w w':World}{β iM:iJ}{M M':im}{iw:List gR}(h:iP B st w β M)(i:iP ⟨w,M,lv st.sh β⟩ (bare .nil iw) w' iM M')(Fu: ∀n g,g≤st.gens .S n→iM .S n g=β .S n g)(hG: ∀n,st.gens .S n≤(jr iw n).g):
  iP B {st with sh:=iw} w' (fun sp k g=>match sp with| .L=>β .L k g| .S=>iM .S k g) M'∧Tr st w β M {st with sh:=iw} w' (fun sp k g=>match sp with| .L=>β .L k g| .S=>iM .S k g) M':=by
 have U: ∀k,({st with sh:=iw}:St).get .L k=st.get .L k:=fun k=>rfl
 have V: ∀k,({st with sh:=iw}:St).get .S k=jr iw k:=fun k=>rfl
 have VW: ∀sp k g,g≤st.gens sp k→(fun(sp:Sp) k g=>match sp with| .L=>β .L k g| .S=>iM .S k g:iJ) sp k g=β sp k g:=by
  grind
 have Gz: ∀sp k,st.gens sp k≤({st with sh:=iw}:St).gens sp k:=by
  grind
 have notS: ∀k,live (st.get .L k)→ ¬lv st.sh β (β .L k (st.gens .L k)).blk:=by
  rintro k r ⟨k',JS,C⟩
  have:=h.dist .S k' .L k JS r C
  cases this.1
 have W: ∀b,lv st.sh β b→B.SB b∨B.w.heap.size≤b:=by
  rintro b ⟨k,r,rfl⟩
  exact h.sblk k r
 have I: ∀k,live (jr iw k)→B.SB (iM .S k (jr iw k).g).blk∨B.w.heap.size≤(iM .S k (jr iw k).g).blk:=by
  intro k r
  rcases i.sblk k r with e|e
  ·exact W _ e
  ·exact .inr (Nat.le_trans h.size e)
 refine⟨⟨fun sp k=> ?_,fun sp k O k' D F C=> ?_,i.mlt,fun k r=>h.lblk k r,fun k r=>I k r,i.os.trans h.os,i.tape.trans h.tape,i.output.trans h.output,Nat.le_trans h.size i.size,fun b H J=> ?_,h.keep.trans i.keep h.size,fun b o H J X=> ?_⟩,i.keep,VW,Gz⟩
 ·cases sp with
  |L=>
   refine kQ.mono i.keep VW Gz (Nat.le_refl _) (fun r=> ?_) (fun r o Y=> ?_) (h.obj .L k)
   ·exact i.same _ (h.lt r) (notS k r)
   ·exact i.msup _ o (h.lt r) (notS k r) Y
  |S=>exact kQ.shared (G:=(bare .nil iw).gens) (β:=iM) (fun _ _ _=>rfl) (fun _=>Nat.le_refl _) (Nat.le_refl _) (i.obj .S k)
 ·cases sp with
  |L=>
   cases O with
   |L=>exact h.dist .L k .L k' D F C
   |S=>
    exfalso
    have O0:(β .L k (st.gens .L k)).blk=(iM .S k' (jr iw k').g).blk:=C
    rcases i.sblk k' F with e|e
    ·exact notS k D (by rw[O0];exact e)
    ·have:=h.lt (sp:= .L) (k:=k) D
     have Z:w.heap.size≤(iM .S k' (jr iw k').g).blk:=e
     omega
  |S=>
   cases O with
   |L=>
    exfalso
    have O0:(iM .S k (jr iw k).g).blk=(β .L k' (st.gens .L k')).blk:=C
    rcases i.sblk k D with e|e
    ·exact notS k' F (by rw[←O0];exact e)
    ·have:=h.lt (sp:= .L) (k:=k') F
     have Z:w.heap.size≤(iM .S k (jr iw k).g).blk:=e
     omega
   |S=>exact i.dist .S k .S k' D F C
 ·have N: ¬lv st.sh β b:=fun hs=>by
   grind
  exact(i.same b (Nat.lt_of_lt_of_le H h.size) N).trans (h.same b H J)
 ·have N: ¬lv st.sh β b:=fun hs=>by
   grind
  exact i.msup b o (Nat.lt_of_lt_of_le H h.size) N (h.msup b o H J X)
def Kb(M:im)(S:JR):im:=fun b x=>M b x∨(b=S.blk∧S.off≤x∧x<S.off+S.ext)
theorem ah6{B:lS}{st:St}{w w':World}{β:iJ}{M:im}(h:iP B st w β M)(V:w'.os=w.os)(W:w'.tape=w.tape)(Rk:w'.output=w.output)(pY:w.heap.size≤w'.heap.size)(r: ∀b,b<w.heap.size→w'.heap[b]? =w.heap[b]?)
  (k g:Nat) (hg:st.gens .L k<g) (S:JR) (hS:w.heap.size≤S.blk) (hS2:S.blk<w'.heap.size) (ob:Ob)
  (ho:kQ (nM β .L k g S) (st.up (.L,k,⟨g,ob⟩)).gens w' (Kb M S) .L k ⟨g,ob⟩):
  iP B (st.up (.L,k,⟨g,ob⟩)) w' (nM β .L k g S) (Kb M S)∧Tr st w β M (st.up (.L,k,⟨g,ob⟩)) w' (nM β .L k g S) (Kb M S):=by
 have X:kM w M w' (Kb M S):=⟨fun b o v D _=>by rw[ov (w:=w) (r b (zM D))];exact D,fun b es c D _=>by rw[r b (qV D)];exact D,fun b x F hm=>hm.resolve_right (fun e=>by have:=e.1;omega)⟩
 have F: ∀i k' Y,Y≤st.gens i k'→nM β .L k g S i k' Y=β i k' Y:=by
  grind [zO]
 have hG: ∀i k',st.gens i k'≤(st.up (.L,k,⟨g,ob⟩)).gens i k':=by
  intro i k'
  rw[lu]
  grind
 have U: ∀i k',(nM β .L k g S i k' ((st.up (.L,k,⟨g,ob⟩)).gens i k'))=if i= .L∧k'=k then S else β i k' (st.gens i k'):=by
  grind [lu,jv]
 refine⟨⟨fun i k'=> ?_,fun Z k1 sp2 k2 H I J=> ?_,fun b x hm=> ?_,fun k' C=> ?_,fun k' C=> ?_,V.trans h.os,W.trans h.tape,Rk.trans h.output,Nat.le_trans h.size pY,fun b F hn=> ?_,h.keep.trans X h.size,fun b x h1 h2 h3=> .inl (h.msup b x h1 h2 h3)⟩,X,F,hG⟩
 ·rw[lY]
  split
  ·grind
  ·exact kQ.mono X F hG (Nat.le_refl _) (fun C=>r _ (h.lt C)) (fun _ _ hm=> .inl hm) (h.obj i k')
 ·rw[U,U]at J
  rw[lY]at H I
  by_cases N:Z= .L∧k1=k <;> by_cases O:sp2= .L∧k2=k
  ·grind
  ·rw[if_pos N,if_neg O]at J;rw[if_neg O]at I
   have:=h.lt I;omega
  ·rw[if_neg N,if_pos O]at J;rw[if_neg N]at H
   have:=h.lt H;omega
  ·rw[if_neg N,if_neg O]at J;rw[if_neg N]at H;rw[if_neg O]at I
   exact h.dist _ _ _ _ H I J
 ·rcases hm with hm|hm
  ·exact Nat.lt_of_lt_of_le (h.mlt b x hm) pY
  ·grind
 ·rw[U];rw[lY]at C
  split
  ·exact Nat.le_trans h.size hS
  ·rename_i e;rw[if_neg e]at C;exact h.lblk k' C
 ·rw[U];rw[lY]at C
  rw[if_neg (by rintro⟨e,_⟩;cases e)]at C ⊢
  exact h.sblk k' C
 ·have:=h.size
  rw[r b (by omega)];exact h.same b F hn
theorem xw{w w':World}{M M':im}: ∀{cs:List T} {i:List Value},cs.all pU=true→PList w M cs i→PList w' M' cs i
 | [],i,_,h=>by grind [PList]
 |t::ts,i,hs,h=>by
  simp only[List.all_cons,Bool.and_eq_true]at hs
  simp only[PList]at h ⊢
  obtain⟨u,us,rfl,r,C⟩:=h
  refine⟨u,us,rfl, ?_,xw hs.2 C⟩
  have D:=hs.1
  cases t <;> simp[pU]at D <;> simpa only[PRel]using r
def O5:Value→Nat→Option Value
 | .tuple a,j=>if j<100 then a[j]? else match a[j/100-1]? with
   |some (.agg b)=>b[j%100]?
   |_=>none
 | .agg a,j=>a[j]?
 |v,_=>some v
def qv:Value→Nat→Value→Value
 | .tuple a,j,x=>if j<100 then .tuple (a.setIfInBounds j x)else match a[j/100-1]? with
   |some (.agg b)=> .tuple (a.setIfInBounds (j/100-1) (.agg (b.setIfInBounds (j%100) x)))
   |_=> .tuple a
 | .agg a,j,x=> .agg (a.setIfInBounds j x)
 |_,_,x=>x
abbrev pj:Value:= .slice none 0 0
section
variable{β:iJ}{G:Sp→Nat→Nat}{w:World}{M:im}
theorem gY.set: ∀{ts:List T} {i:List Value} (j:Nat) {t:T} {v:Value},gY β G w M ts i→gW β G w M t v→gY β G w M (ts.set j t) (i.set j v)
 | [],i,j,t,v,h,_=>by grind [gY]
 |t::ts,i,0,C,D,h,r=>by
  grind [gY]
 |t::ts,i,j+1,C,D,h,r=>by
  simp only[gY]at h;obtain⟨u,us,rfl,F,H⟩:=h
  simp only[List.set_cons_succ,gY]
  exact⟨_,_,rfl,F,gY.set j H r⟩
theorem Af{cs:List T}{j:Nat}{t:T}(h:cs.all single=true)(i:single t=true):(cs.set j t).all single=true:=by
 grind
theorem DO{cs:List T}{j:Nat}{t u:T}(h:(cs.set j u).all single=true)(i:single t=true):(cs.set j t).all single=true:=by
 have:=Af (j:=j) h i
 simp_all
theorem V3{r y t:T}{v u:Value}{j:Nat}(h:gW β G w M r v)(i:lj r j=some y)(C:gW β G w M t u)(hs:single t=true):
  (∃x,O5 v j=some x∧gW β G w M y x)∧gW β G w M (iE r j t) (qv v j u):=by
 cases r
 case tup vs=>
  simp only[gW]at h;obtain⟨a,rfl,D⟩:=h
  simp only[lj]at i
  by_cases DP:j<100
  ·rw[if_pos DP]at i
   obtain⟨x,F,H⟩:=D.get i
   refine⟨⟨x,by simpa[O5,DP]using F,H⟩, ?_⟩
   simp only[iE,qv,gW,DP,if_true]
   exact⟨_,rfl,by simpa using gY.set j D C⟩
  ·rw[if_neg DP]at i
   cases hi:vs[j/100-1]? with
   |none=>grind
   |some U=>
    rw[hi]at i
    cases U <;> try (simp only at i;cases i;done)
    rename_i cs
    simp only at i
    obtain⟨X,V,N⟩:=D.get hi
    simp only[gW]at N;obtain⟨b,rfl,O,W⟩:=N
    obtain⟨x,F,H⟩:=O.get i
    have I:a[j/100-1]? =some (.agg b):=by simpa using V
    refine⟨⟨x,by simpa[O5,DP,I]using F,H⟩, ?_⟩
    simp only[iE,qv,DP,if_false,hi,I,gW]
    refine⟨_,rfl, ?_⟩
    rw[Array.toList_setIfInBounds]
    refine gY.set _ D ?_
    simp only[gW]
    exact⟨_,rfl,by simpa using gY.set (j%100) O C,Af W hs⟩
 case agg cs=>
  simp only[gW]at h;obtain⟨a,rfl,D,J⟩:=h
  simp only[lj]at i
  obtain⟨x,F,H⟩:=D.get i
  refine⟨⟨x,by simpa[O5]using F,H⟩, ?_⟩
  simp only[iE,qv,gW]
  exact⟨_,rfl,by simpa using gY.set j D C,Af J hs⟩
 case any=>simp[lj]at i
 all_goals
  simp only[lj,Option.some.injEq]at i;subst i
  refine⟨⟨v, ?_,h⟩, ?_⟩
  ·simp only[gW,PRel]at h
   first
    |(subst h;rfl)
    |(obtain⟨_,rfl,_⟩:=h;rfl)
    |(obtain⟨_,_,rfl,_⟩:=h;rfl)
    |(obtain⟨_,_,_,rfl,_⟩:=h;rfl)
    |(obtain⟨_,_,_,_,rfl,_⟩:=h;rfl)
    |(obtain⟨_,rfl⟩:=h;rfl)
  ·simp only[gW,PRel]at h
   first
    |(subst h;exact C)
    |(obtain⟨_,rfl,_⟩:=h;exact C)
    |(obtain⟨_,_,rfl,_⟩:=h;exact C)
    |(obtain⟨_,_,_,rfl,_⟩:=h;exact C)
    |(obtain⟨_,_,_,_,rfl,_⟩:=h;exact C)
    |(obtain⟨_,rfl⟩:=h;exact C)
theorem wF{a:Array Value}{j:Nat}{x y:Value}(h:a[j]? =some x):(a.toList.set j y).set j x=a.toList:=by
 rw[List.set_set]
 have i:a.toList[j]? =some x:=by simpa using h
 grind [List.getElem?_eq_some_iff.1,List.set_getElem_self]
theorem DQ(a:Array Value)(j:Nat)(x:Value): ∃b,qv (.tuple a) j x= .tuple b:=by
 simp only[qv]
 split
 ·grind
 ·split <;> exact⟨_,rfl⟩
theorem DR{v:Value}{j:Nat}(h: ∀a,qv v j pj≠ .tuple a)(i: ∀a,qv v j pj≠ .agg a):qv v j pj=pj∧O5 v j=some v:=by
 cases v
 case tuple a=>obtain⟨b,r⟩:=DQ a j pj;exact absurd r (h _)
 all_goals first|exact⟨rfl,rfl⟩|exact absurd rfl (i _)
theorem aaP{r t:T}{cv x:Value}{j:Nat}(h:gW β G w M (iE r j .nilsl) (qv cv j pj))(F:O5 cv j=some x)(H:gW β G w M t x)(hs:single t=true):gW β G w M (iE r j t) cv:=by
 cases r
 case tup vs=>
  by_cases DP:j<100
  ·simp only[iE,DP,if_true,gW]at h ⊢
   obtain⟨a,i,C⟩:=h
   cases cv <;> simp[qv,DP]at i
   rename_i a0
   subst i
   simp only[O5,DP,if_true]at F
   refine⟨a0,rfl, ?_⟩
   have:=gY.set j C H
   grind [List.set_set,Array.toList_setIfInBounds,wF]
  ·have J: ∃a0 b,cv= .tuple a0∧a0[j/100-1]? =some (.agg b)∧b[j%100]? =some x:=by
    cases cv
    case tuple a0=>
     grind [O5,hi]
    all_goals
     exfalso
     simp only[iE,DP,if_false]at h
     split at h <;> (simp only[qv,gW]at h;obtain⟨_,h,_⟩:=h;cases h)
   obtain⟨a0,b,rfl,I,V⟩:=J
   simp only[qv,DP,if_false,I]at h
   simp only[iE,DP,if_false]at h ⊢
   split at h
   ·rename_i cs hi
    simp only[gW]at h ⊢
    obtain⟨a,i,C⟩:=h
    cases i
    refine⟨a0,rfl, ?_⟩
    have W:j/100-1<vs.length:=(List.getElem?_eq_some_iff.1 hi).1
    have D:gW β G w M (.agg (cs.set (j%100) .nilsl)) (.agg (b.setIfInBounds (j%100) pj)):=by
     obtain⟨x1,U,X⟩:=C.get (List.getElem?_set_self W)
     rw[Array.toList_setIfInBounds,List.getElem?_set_self (by have:=(Array.getElem?_eq_some_iff.1 I).1;simpa using this)]at U
     cases U;exact X
    have N:gW β G w M (.agg (cs.set (j%100) t)) (.agg b):=by
     simp only[gW]at D ⊢
     obtain⟨b1,Y,L1,Z⟩:=D
     cases Y
     refine⟨b,rfl, ?_,DO Z hs⟩
     have:=gY.set (j%100) L1 H
     rw[List.set_set,Array.toList_setIfInBounds,wF V]at this
     exact this
    have:=gY.set (j/100-1) C N
    rw[List.set_set,Array.toList_setIfInBounds,wF I]at this
    exact this
   ·simp only[gW]at h ⊢
    obtain⟨a,i,C⟩:=h
    cases i
    refine⟨a0,rfl, ?_⟩
    have:=gY.set (j/100-1) (t:= .any) (v:= .agg b) C (by simp only[gW])
    rw[List.set_set,Array.toList_setIfInBounds,wF I]at this
    exact this
 case agg cs=>
  simp only[iE,gW]at h ⊢
  obtain⟨a,i,C,O⟩:=h
  cases cv
  case tuple a'=>obtain⟨b,hb⟩:=DQ a' j pj;rw[hb]at i;cases i
  all_goals simp[qv]at i
  rename_i a0
  subst i
  simp only[O5]at F
  refine⟨a0,rfl, ?_,DO O hs⟩
  have:=gY.set j C H
  grind [List.set_set,Array.toList_setIfInBounds,wF]
 case any=>simp only[iE,gW]
 all_goals
  simp only[iE,gW]at h ⊢
  obtain⟨h1,h2⟩:=DR (v:=cv) (j:=j) (fun a e=>by rw[e]at h;cases h) (fun a e=>by rw[e]at h;cases h)
  rw[h2]at F
  cases F
  exact H
def okC:T→Nat→Prop
 | .any,_=>False
 | .tup i,j=>j<100∨ ∃cs,i[j/100-1]? =some (.agg cs)
 |_,_=>True
theorem V4{p:T}{v x:Value}{j:Nat}{cs:List T}{len:Nat}{ex:Bool}(H:okC p j)(h:gW β G w M p (qv v j pj))(r:O5 v j=some x):
  lj (iE p j (.sl cs len ex)) j=some (.sl cs len ex)∧gW β G w M (iE (iE p j (.sl cs len ex)) j .nilsl) (qv v j pj):=by
 have I:gW β G w M .nilsl pj:=by simp only[gW]
 cases p
 case tup vs=>
  simp only[gW]at h
  obtain⟨a,i,C⟩:=h
  by_cases DP:j<100
  ·cases v <;> simp[qv,DP]at i
   rename_i a0
   subst i
   simp only[O5,DP,if_true]at r
   have J:=gY.length _ _ C
   simp at J
   obtain⟨X,_⟩:=Array.getElem?_eq_some_iff.1 r
   refine⟨by simp only[iE,lj,DP,if_true];rw[List.getElem?_set_self (by omega)], ?_⟩
   simp only[iE,qv,gW,List.set_set,DP,if_true]
   refine⟨_,rfl, ?_⟩
   have:=gY.set j C I
   rw[Array.toList_setIfInBounds,List.set_set]at this
   rw[Array.toList_setIfInBounds];exact this
  ·have H:j<100∨ ∃cs,vs[j/100-1]? =some (.agg cs):=H
   obtain⟨D,hi⟩:=H.resolve_left DP
   cases v
   case tuple a0=>
    simp only[O5,DP,if_false]at r
    cases N:a0[j/100-1]? with
    |none=>grind
    |some Y=>
     rw[N]at r
     cases Y <;> try (simp only at r;cases r;done)
     rename_i b
     simp only at r
     simp only[qv,DP,if_false,N]at i ⊢
     cases i
     have V:j/100-1<vs.length:=(List.getElem?_eq_some_iff.1 hi).1
     have F:gW β G w M (.agg D) (.agg (b.setIfInBounds (j%100) pj)):=by
      obtain⟨x1,W,Z⟩:=C.get hi
      rw[Array.toList_setIfInBounds,List.getElem?_set_self (by have:=(Array.getElem?_eq_some_iff.1 N).1;simpa using this)]at W
      cases W;exact Z
     simp only[gW]at F
     obtain⟨b1,jE,L1,rE⟩:=F
     cases jE
     have O:=gY.length _ _ L1
     simp at O
     obtain⟨hj2,_⟩:=Array.getElem?_eq_some_iff.1 r
     refine⟨?_, ?_⟩
     ·simp only[iE,lj,DP,if_false,hi]
      rw[List.getElem?_set_self V]
      simp only
      rw[List.getElem?_set_self (by omega)]
     ·simp only[iE,DP,if_false,hi]
      rw[List.getElem?_set_self V]
      simp only[List.set_set,gW]
      refine⟨_,rfl, ?_⟩
      have h3:gW β G w M (.agg (D.set (j%100) .nilsl)) (.agg (b.setIfInBounds (j%100) pj)):=by
       simp only[gW]
       refine⟨_,rfl, ?_,Af rE rfl⟩
       have:=gY.set (j%100) L1 I
       rw[Array.toList_setIfInBounds,List.set_set]at this
       rw[Array.toList_setIfInBounds];exact this
      have:=gY.set (j/100-1) C h3
      rw[Array.toList_setIfInBounds,List.set_set]at this
      rw[Array.toList_setIfInBounds];exact this
   all_goals (simp only[qv]at i;cases i)
 case agg vs=>
  simp only[gW]at h
  obtain⟨a,i,C,U⟩:=h
  cases v
  case tuple a'=>obtain⟨b,hb⟩:=DQ a' j pj;rw[hb]at i;cases i
  all_goals simp[qv]at i
  rename_i a0
  subst i
  simp only[O5]at r
  have J:=gY.length _ _ C
  simp at J
  obtain⟨X,_⟩:=Array.getElem?_eq_some_iff.1 r
  refine⟨by simp only[iE,lj];rw[List.getElem?_set_self (by omega)], ?_⟩
  simp only[iE,qv,gW,List.set_set]
  refine⟨_,rfl, ?_,Af U rfl⟩
  have:=gY.set j C I
  rw[Array.toList_setIfInBounds,List.set_set]at this
  rw[Array.toList_setIfInBounds];exact this
 case any=>exact H.elim
 all_goals
  refine⟨rfl, ?_⟩
  simp only[iE]
  have hp:qv v j pj=pj:=by
   grind [gW,PRel,DR]
  rw[hp];exact I
end
def V5(P:Program)(f:Nat)(i:Bool)(args:List T)(sh:List gR)(r:T)(C:List gR):Prop:=
 ∀(w:World) (β:iJ) (M:im) (F:Array Value),iP ⟨w,M,lv sh β⟩ (bare .nil sh) w β M→ow i β (bare .nil sh).gens w M args F.toList→
  Calls P f F w fun e w'=> ∃cv D M',e= .returned cv∧iP ⟨w,M,lv sh β⟩ (bare .nil C) w' D M'∧(∀n g,g≤(jr sh n).g→D .S n g=β .S n g)∧(∀n,(jr sh n).g≤(jr C n).g)∧uQ i D (bare .nil C).gens w' M' r cv
theorem ME(p x y:T)(j:Nat)(h:single x=true):iE (iE p j x) j y=iE p j y:=by
 cases p
 case tup vs=>
  by_cases i:j<100
  ·grind [iE,List.set_set]
  grind [iE,List.set_eq_of_length_le,hi,List.getElem?_set_self,List.set_set,List.getElem?_eq_none_iff.1,List.getElem?_eq_some_iff.1]
 case agg vs=>simp only[iE,List.set_set]
 all_goals first|(simp only[iE];done)|(simp only[iE];cases x <;> first|rfl|cases h)
def aqq(w w':World)(M:im)(r:T)(j:Nat)(cs:List T)(len:Nat)(cv:Value):Prop:=
 ∃(S:JR) (sz C:Nat) (c:Array Value) (el:TypeId),w.heap.size≤S.blk∧w'.heap[S.blk]? =some (.cells c el (0,0))∧S.off+S.ext≤c.size∧cs.length≤S.ext∧PList w' M cs ((c.toList.drop S.off).take cs.length)∧(sy (iE r j .nilsl)=true∨ ∀i,i<S.ext→M S.blk (S.off+i))∧
  cs.all single=true∧cs.length=len*sz∧len≠0∧len≤C∧C*sz≤S.ext∧O5 cv j=some (.slice (some ⟨S.blk,S.off,none⟩) len C)∧ ∀β G,gW β G w' M (iE r j .nilsl) (qv cv j pj)
def Rl(P:Program)(f:Nat)(args:List T)(sh:List gR)(j:Nat)(r:T)(C:List gR):Prop:=
 ∀(w:World) (β:iJ) (M:im) (i:Array Value),iP ⟨w,M,lv sh β⟩ (bare .nil sh) w β M→ow false β (bare .nil sh).gens w M args i.toList→
  Calls P f i w fun e w'=> ∃cv D M',e= .returned cv∧iP ⟨w,M,lv sh β⟩ (bare .nil C) w' D M'∧
   ((lj r j=some .nilsl∧PRel w' M' r cv)∨ ∃cs len,lj r j=some (.sl cs len false)∧aqq w w' M' r j cs len cv)
def Kc(i off r:Nat):Option Nat→Value
 |none=> .tuple #[]
 |some n=> .slice (some ⟨i,off,none⟩) n r
def aaQ(P:Program)(f:Nat)(h:List T→Option (List T×Option Nat)):Prop:=
 (∀r,h []=some ([],r)→r.getD 0=0→ ∀w:World,Calls P f #[pj] w fun e w'=>e= .returned (match r with|none=> .tuple #[]|some _=>pj)∧RowKit.Below w.heap.size w w')∧
 ∀cs D r,h cs=some (D,r)→D.length=cs.length→ ∀(w:World) (M:im) (i off C:Nat) (c:Array Value) (el:TypeId) (F:List Value),w.heap[i]? =some (.cells c el (0,0))→off+cs.length≤c.size→cs.length≤C→(c.toList.drop off).take cs.length=F→PList w M cs F→
  Calls P f #[.slice (some ⟨i,off,none⟩) cs.length C] w fun e w'=> ∃us,e= .returned (Kc i off C r)∧PList w M D us∧RowKit.Below w.heap.size (setBlock w i (.cells (splice c.toList off us).toArray el)) w'
def vI(P:Program)(E:Env):Prop:=
 (∀f C,E.fn f=some C→ ∃hs i,P.funcs[f]? =some i∧Ga P hs C.eff i=some C)∧
 (∀f g,E.fn f=none→E.ext f=some g→(∃i,P.funcs[f]? =some i∧(i.name== "runtime.NumGoroutine")=false∧i.body.isSome=true)∧
   ∀args r,g args=some r→ ∀(w:World) (M:im) (D:Array Value),(∀b o,M b o→b<w.heap.size)→PList w M args D.toList→
    Calls P f D w fun e w'=> ∃cv,e= .returned cv∧RowKit.Below w.heap.size w w'∧PRel w' (fun b _=>b<w.heap.size) r cv)∧
 (∀f h,E.fn f=none→E.ext f=none→E.wr f=some h→(∃i,P.funcs[f]? =some i∧(i.name== "runtime.NumGoroutine")=false∧i.body.isSome=true)∧
   aaQ P f h)
def Ag(P:Program)(E:Env)(call:rh):Prop:= ∀f i args sh r C,E.fn f=some i→call f args sh=some (r,C)→(i.own=none→V5 P f i.eff args sh r C)∧(∀j,i.own=some j→i.eff=false∧Rl P f args sh j r C)
theorem DS{st ja:St}{a:Act}{w w':World}{β iM:iJ}{M M':im}{n:Nat}{d:Option Nat}{v:T}{cv:Value}{fr:Fr}(i:ou st a w β M n)(C:Tr st w β M ja w' iM M')(B8:nE st.fr n d v=some fr)(D:gW iM ja.gens w' M' v cv):
  ou {ja with fr} (a.put d cv) w' iM M' n:=by
 cases d with
 |none=>
  simp[nE]at B8;subst B8
  exact⟨i.size,i.defers,fun t=>C.val (i.slot t)⟩
 |some d=>
  simp only[nE]at B8
  split at B8
  ·rename_i F
   simp at B8;subst B8
   refine⟨by simp[Act.put,i.size],i.defers,fun t=> ?_⟩
   have H:an (kj st.fr d v) t=if t=d then v else an st.fr t:=re st.fr d v t
   have I:(a.put (some d) cv).tmps.getD t undef=if t=d then cv else a.tmps.getD t undef:=by
    simp only[Act.put,Array.getD_eq_getD_getElem?,Array.getElem?_setIfInBounds]
    by_cases r:d=t
    ·subst r;rw[if_pos rfl,if_pos (by rw[i.size];exact F),if_pos rfl];rfl
    ·grind
   show gW iM ja.gens w' M' (an (kj st.fr d v) t) _
   rw[H,I]
   split
   ·exact D
   ·exact C.val (i.slot t)
  ·cases B8
end Go.Ev
namespace Go.Ev
open Go
theorem aaR{B:lS}{st:St}{w:World}{β:iJ}{M:im}(h:iP B st w β M)(fr:Fr):iP B {st with fr} w β M:=
 ⟨h.obj,h.dist,h.mlt,h.lblk,h.sblk,h.os,h.tape,h.output,h.size,h.same,h.keep,h.msup⟩
theorem Tr.fr{st ja:St}{w w':World}{β iM:iJ}{M M':im}(h:Tr st w β M ja w' iM M')(fr:Fr):Tr st w β M {ja with fr} w' iM M':=⟨h.keep,h.beta,h.gens⟩
theorem MF{w w':World}{M M':im}{r:T}{cv:Value}(hs:scalar r=true)(h:PRel w M r cv):PRel w' M' r cv:=by
 cases r <;> simp[scalar]at hs
 case tup vs=>
  simp only[PRel]at h ⊢
  obtain⟨a,rfl,i⟩:=h
  refine⟨a,rfl, ?_⟩
  generalize a.toList=l at i
  induction vs generalizing l with
  |nil=>grind [PList]
  |cons t ts ih=>
   simp only[PList]at i ⊢
   obtain⟨u,us,rfl,C,D⟩:=i
   have F:=hs t (by simp)
   grind [PRel]
 all_goals simpa only[PRel]using h
theorem yD{β iM:iJ}{G G':Sp→Nat→Nat}{w w':World}{M M':im}: ∀{cs:List T} {i:List Value},cs.all pU=true→gY β G w M cs i→gY iM G' w' M' cs i
 | [],i,_,h=>by grind [gY]
 |t::ts,i,hs,h=>by
  simp only[List.all_cons,Bool.and_eq_true]at hs
  simp only[gY]at h ⊢
  obtain⟨u,us,rfl,r,C⟩:=h
  refine⟨u,us,rfl, ?_,yD hs.2 C⟩
  have D:=hs.1
  cases t <;> simp[pU]at D <;> simpa only[gW]using r
theorem Rm{w w':World}{M M':im}{r:T}{cv:Value}(hs:sy r=true)(h:PRel w M r cv):PRel w' M' r cv:=by
 cases r <;> simp[sy,pU]at hs
 case tup vs=>
  simp only[PRel]at h ⊢
  obtain⟨a,rfl,i⟩:=h
  refine⟨a,rfl, ?_⟩
  generalize a.toList=l at i
  induction vs generalizing l with
  |nil=>grind [PList]
  |cons t ts ih=>
   simp only[PList]at i ⊢
   obtain⟨u,us,rfl,D,I⟩:=i
   have H:=hs t (by simp)
   refine⟨u,us,rfl, ?_,ih (fun x C=>hs x (by simp[C])) us I⟩
   cases t <;> simp[pU]at H <;> try (simpa only[PRel]using D;done)
   simp only[PRel]at D ⊢
   obtain⟨b,rfl,J,F⟩:=D
   exact⟨b,rfl,xw (List.all_eq_true.2 fun x C=>H x C) J,F⟩
 case agg vs=>
  simp only[PRel]at h ⊢
  obtain⟨a,rfl,i,F⟩:=h
  exact⟨a,rfl,xw (List.all_eq_true.2 fun x C=>hs x C) i,F⟩
 all_goals simpa only[PRel]using h
theorem MG{β iM:iJ}{G G':Sp→Nat→Nat}{w w':World}{M M':im}{r:T}{cv:Value}(hs:sy r=true)(h:gW β G w M r cv):gW iM G' w' M' r cv:=by
 cases r <;> simp[sy,pU]at hs
 case tup vs=>
  simp only[gW]at h ⊢
  obtain⟨a,rfl,i⟩:=h
  refine⟨a,rfl, ?_⟩
  generalize a.toList=l at i
  induction vs generalizing l with
  |nil=>grind [gY]
  |cons t ts ih=>
   simp only[gY]at i ⊢
   obtain⟨u,us,rfl,D,I⟩:=i
   have H:=hs t (by simp)
   refine⟨u,us,rfl, ?_,ih (fun x C=>hs x (by simp[C])) us I⟩
   cases t <;> simp[pU]at H <;> try (simpa only[gW]using D;done)
   simp only[gW]at D ⊢
   obtain⟨b,rfl,J,F⟩:=D
   exact⟨b,rfl,yD (List.all_eq_true.2 fun x C=>H x C) J,F⟩
 case agg vs=>
  simp only[gW]at h ⊢
  obtain⟨a,rfl,i,F⟩:=h
  exact⟨a,rfl,yD (List.all_eq_true.2 fun x C=>hs x C) i,F⟩
 all_goals simpa only[gW]using h
section
variable{P:Program}{E:Env}{call:rh}{B:lS}{st:St}{a:Act}{w:World}{β:iJ}{M:im}{o:Oper}
theorem uU{f:Nat}{i:Func}(D:P.funcs[f]? =some i)(F:(i.name== "runtime.NumGoroutine")=false)(r:i.body.isSome=true)(C:Array Value)(w:World):(callFunc f C).run P w= .ok (.enter f C) w:=by
 have H: ¬i.name= "runtime.NumGoroutine" :=by simpa using F
 have I: ¬i.body=none:=by intro e;rw[e]at r;simp at r
 simp[callFunc,D,H,I]
theorem Rn(H:qH β st.gens w M st.rho a.eval){c:Call}(J:o.op= .call c){sh:Nat}{L4:mO}(i:tF P sh c=some L4){f:Nat}{r:List T}(C:jj st.rho L4=some (some (f,r))):
  ∃N:Array Value,(execOp a.eval o).run P w=(callFunc f N).run P w∧gY β st.gens w M r N.toList:=by
 unfold tF at i
 split at i
 ·rename_i O D
  simp only[Option.map_eq_some_iff]at i
  obtain⟨as,F,rfl⟩:=i
  simp[jj]at C
  obtain⟨rfl,rfl⟩:=C
  refine⟨c.args.map a.eval, ?_,by simpa using xt H F⟩
  simp[execOp,J,resolve,D,Deferred.ofValue,Act.eval,invoke]
 ·rename_i x lI D
  split at i
  ·rename_i y as F U
   simp at i;subst i
   simp only[jj,Option.some.injEq]at C
   split at C
   ·rename_i O fa fc e
    simp at C
    obtain⟨rfl,rfl⟩:=C
    have I:=H x y F
    rw[e]at I
    simp only[gW]at I
    obtain⟨V,W,X,Y,Z⟩:=I
    refine⟨V++c.args.map a.eval++W, ?_, ?_⟩
    ·simp[execOp,J,resolve,D,X,Deferred.ofValue,invoke]
    ·have:=gY.append (gY.append Y (xt H U)) Z
     simpa using this
   ·simp at C
  ·cases i
 all_goals
  exfalso
  revert C
  try (simp only[Option.map_eq_some_iff]at i;obtain⟨as,F,rfl⟩:=i;simp[jj];done)
  try (cases i;done)
 ·grind [jj]
 ·split at i
  ·grind [jj]
  ·cases i
theorem Ro{sh:Nat}{op:Op}{L4:mO}{ρ:iz→T}{x:Option (Nat×List T)}(h:jK P sh op=some L4)(D:jj ρ L4=some x): ∃c,op= .call c∧tF P sh c=some L4:=by
 cases op with
 |call c=>exact⟨c,rfl,h⟩
 |makeFunc i first C=>
  exfalso
  cases i <;> simp only[jK]at h <;> try (cases h;done)
  grind [jj]
 |makeMap t r=>
  exfalso
  cases r <;> simp only[jK]at h
  ·grind [jj]
  ·cases h
 |_=>
  grind [jK,Option.map_eq_some_iff,jj]
theorem aqr(h:iP B st w β M){f:Nat}{g:List T→Option (List T×Option Nat)}
  (mG: ∀r,g []=some ([],r)→r.getD 0=0→ ∀w:World,Calls P f #[pj] w fun e w'=>e= .returned (match r with|none=> .tuple #[]|some _=>pj)∧RowKit.Below w.heap.size w w')
  (yE: ∀cs V r,g cs=some (V,r)→V.length=cs.length→ ∀(w:World) (M:im) (J off D:Nat) (c:Array Value) (el:TypeId) (vs:List Value),w.heap[J]? =some (.cells c el (0,0))→off+cs.length≤c.size→cs.length≤D→(c.toList.drop off).take cs.length=vs→PList w M cs vs→
    Calls P f #[.slice (some ⟨J,off,none⟩) cs.length D] w fun e w'=> ∃us,e= .returned (Kc J off D r)∧PList w M V us∧RowKit.Below w.heap.size (setBlock w J (.cells (splice c.toList off us).toArray el)) w')
  {H:List T} {Y:Array Value} (hv:gY β st.gens w M H Y.toList) {r:T} {Bm:St} (i:vL g st H=some (r,Bm)):
  Bm.fr=st.fr∧Calls P f Y w fun e w'=> ∃cv N M',e= .returned cv∧iP B Bm w' N M'∧Tr st w β M Bm w' N M'∧w.heap.size≤w'.heap.size∧gW N Bm.gens w' M' r cv:=by
 unfold vL at i
 split at i
 ·have W:Y= #[pj]:=by
   grind [gY,gW,Array.toList_inj.1]
  subst W
  have fin: ∀O:Option Nat,g []=some ([],O)→O.getD 0=0→Bm=st→(∀N M' w',gW N st.gens w' M' r (match O with|none=> .tuple #[]|some _=>pj))→
    Bm.fr=st.fr∧Calls P f #[pj] w fun e w'=> ∃cv N M',e= .returned cv∧iP B Bm w' N M'∧Tr st w β M Bm w' N M'∧w.heap.size≤w'.heap.size∧gW N Bm.gens w' M' r cv:=by
   rintro O Z h0 rfl hr
   refine⟨rfl,(mG O Z h0 w).mono ?_⟩
   rintro e w' ⟨rfl,F⟩
   obtain⟨o1,o2⟩:=Ka h F.os F.tape F.output F.size F.block
   exact⟨_,β,M,rfl,o1,o2,F.size,hr _ _ _⟩
  split at i
  ·grind [Option.some.injEq,Prod.mk.injEq,gW,gY]
  ·rename_i Z
   simp only[Option.some.injEq,Prod.mk.injEq]at i
   obtain⟨rfl,rfl⟩:=i
   simp_all[gW,pj]
  ·cases i
 ·rename_i sp k g0 off len
  simp only[gY,gW]at hv
  obtain⟨u,us,h1,⟨aBp,D,rfl,hlc,hce⟩,rfl⟩:=hv
  have W:Y= #[.slice (some ⟨(β sp k g0).blk,(β sp k g0).off+off,none⟩) len D]:=Array.toList_inj.1 h1
  subst W
  generalize he:st.get sp k=e0 at i
  obtain⟨I,ob⟩:=e0
  cases ob with
  |none=>cases i
  |map _ _ _=>cases i
  |cells cs wm bx=>
  cases bx with
  |true=>cases i
  |false=>
  dsimp only at i
  split at i
  ·rename_i aqs
   obtain⟨rfl,J4,L3⟩:=aqs
   split at i
   ·rename_i V O Z
    split at i
    ·rename_i O6
     obtain⟨ZQ,hy2,hy3⟩:=O6
     simp only[Option.some.injEq,Prod.mk.injEq]at i
     obtain⟨rfl,rfl⟩:=i
     have Cx:=h.obj sp k
     rw[he]at Cx
     unfold kQ at Cx
     obtain⟨c,el,fz,oP,h2,h3,h4,h5,h6,h7,h8⟩:=Cx
     dsimp only at oP h2 h3 h4 h5 h6
     subst h4
     have C:((cs.drop off).take len).length=len:=by rw[List.length_take,List.length_drop];omega
     have lM:c.toList.length=c.size:=by simp
     have hpl:PList w M ((cs.drop off).take len) ((c.toList.drop ((β sp k I).off+off)).take len):=by
      have q:=PList.take len (PList.drop off (show PList w M cs ((c.toList.drop (β sp k I).off).take cs.length)from h5))
      rw[List.drop_take,List.take_take,List.drop_drop,Nat.min_eq_left (by omega)]at q
      exact q
     have gZ:=yE _ V O Z (by rw[C];exact ZQ) w M (β sp k I).blk ((β sp k I).off+off) D c el _ oP (by rw[C];omega) (by rw[C];exact hlc) (by rw[C]) hpl
     rw[C]at gZ
     refine⟨af6 _ _,gZ.mono ?_⟩
     rintro e w' ⟨us,rfl,X,F⟩
     have hul:us.length=len:=by rw[←PList.length _ _ X];exact ZQ
     have U:=z7 h he I (Nat.le_refl _) oP off us (splice cs off V) J4 (by omega) (by rw[jW];omega) (by rw[jW];exact h3) (nZ h7 hy2) (by
      rw[jW]
      have VZ:(splice (c.toList.drop (β sp k I).off) off us).take cs.length=splice ((c.toList.drop (β sp k I).off).take cs.length) off us:=by
       apply List.ext_getElem?
       intro j
       rw[List.getElem?_take,lp,lp,List.getElem?_take,List.length_take]
       by_cases hj:j<cs.length
       ·rw[if_pos hj,if_pos hj]
        by_cases W:off≤j∧j<off+us.length∧j<(c.toList.drop (β sp k I).off).length
        ·rw[if_pos W,if_pos (by omega)]
        ·rw[if_neg W,if_neg (by omega)]
       ·rw[if_neg hj,if_neg hj,if_neg (by omega)]
      rw[VZ]
      exact PList.splice h5 X)
     rw[tH]at U
     have pY:=kB w (β sp k I).blk (.cells (splice c.toList ((β sp k I).off+off) us).toArray el)
     obtain⟨o1,o2⟩:=Ka U.1 F.os F.tape F.output F.size fun b hb=>F.block b (by rw[pY]at hb;exact hb)
     refine⟨_,β,M,rfl,o1,U.2.trans o2 (by rw[pY];exact Nat.le_refl _),by rw[←pY];exact F.size, ?_⟩
     cases O with
     |none=>simp[VM,Kc,gW,gY]
     |some n=>
      simp only[VM,Kc,gW]
      refine⟨?_,D,rfl, ?_,hce⟩
      ·rw[lu,if_pos ⟨rfl,rfl⟩];exact Nat.le_refl _
      ·simp at hy3;omega
    ·cases i
   ·cases i
  ·cases i
 ·cases i
theorem Rp(hE:vI P E)(hO:Ag P E call)(h:iP B st w β M){f:Nat}{H:List T}{V:Array Value}(hv:gY β st.gens w M H V.toList){r:T}{Bm:St}{d:Nat}(C:iU E call d st f H=some (r,Bm)):
  (callFunc f V).run P w= .ok (.enter f V) w∧Bm.fr=st.fr∧
  Calls P f V w fun e w'=> ∃cv F M',e= .returned cv∧iP B Bm w' F M'∧Tr st w β M Bm w' F M'∧w.heap.size≤w'.heap.size∧gW F Bm.gens w' M' r cv:=by
 unfold iU at C
 split at C
 ·rename_i W CP
  obtain⟨hs,fn,hf,Bn⟩:=hE.1 f W CP
  have hnb:(fn.name== "runtime.NumGoroutine")=false∧fn.body.isSome=true:=by
   grind [Ga]
  refine⟨uU hf hnb.1 hnb.2 _ _, ?_⟩
  split at C
  ·rename_i q hq
   obtain⟨ts,us⟩:=q
   obtain⟨M1,X,q2,q3,q4,q5,q6⟩:=pL (fun t=>B2 W.eff st iB t) H B st w β M _ ts us _ (Fz.refl st) h hv hq
   split at C
   ·rename_i uV
    simp only[Option.map_eq_some_iff]at C
    obtain⟨⟨I,iw⟩,gZ,C⟩:=C
    simp at C
    obtain⟨rfl,rfl⟩:=C
    refine⟨HP st us, ?_⟩
    have yF:W.own=none:=by
     cases ho:W.own with
     |none=>rfl
     |some j=>rw[((hO f W ts (st.ups us).sh I iw CP gZ).2 j ho).1]at uV;cases uV
    have U:=(hO f W ts (st.ups us).sh I iw CP gZ).1 yF
    rw[uV]at q4 U
    have hx:ow true β (bare .nil (st.ups us).sh).gens w M1 ts V.toList:=by
     intro F G' p1 p2
     refine q4 F G' (fun k g hg=>p1 k g ?_) (fun k=>Nat.le_trans (Nat.le_of_eq ?_) (p2 k))
     ·have:(bare .nil (st.ups us).sh).gens .S k=(st.ups us).gens .S k:=rfl
      rw[this,q2.gens];exact hg
     ·have:(bare .nil (st.ups us).sh).gens .S k=(st.ups us).gens .S k:=rfl
      rw[this,q2.gens]
    refine(U w β M1 V (aaO X .nil) hx).mono ?_
    rintro e w' ⟨cv,F,M',rfl,D,Fu,hG,Y⟩
    obtain⟨b1,b2⟩:=ah5 X D Fu hG
    refine⟨cv,_,M',rfl,b1,(Tr.fz q2 q3).trans b2 (Nat.le_refl _),D.size, ?_⟩
    exact Y _ _ (fun _ _ _=>rfl) (fun _=>Nat.le_refl _)
   ·rename_i uV
    simp at uV
    split at C
    ·rename_i r0 gZ
     obtain⟨I,iw⟩:=r0
     rw[uV]at q4
     have tp: ∀b,¬lv [] β b:=by rintro b ⟨k,hl,_⟩;simp[jr,iy]at hl;exact hl.elim
     have FA:iP ⟨w,M1,lv [] β⟩ (bare .nil []) w β M1:=by
      have h0:=V2 X .nil
      exact⟨h0.obj,h0.dist,h0.mlt,fun k hl=>h0.lblk k hl,fun k hl=>(h0.sblk k hl).imp (fun e=>e.elim) id,rfl,rfl,rfl,Nat.le_refl _,fun _ _ _=>rfl,kM.refl w M1,fun _ _ _ _ Z=>Z⟩
     have N: ∀(c:Bool),(c=true→ ∀{w1 M1 w2 M2 cv},PRel w1 M1 I cv→PRel w2 M2 I cv)→ ∀(w':World) (cv:Value) (F:iJ) (M':im) (Rq:St),Rq=(if c=true then st else st.ups us)→iP ⟨w,M1,lv [] β⟩ (bare .nil iw) w' F M'→PRel w' M' I cv→
       ∃O F M',Ending.returned cv= .returned O∧iP B Rq w' F M'∧Tr st w β M Rq w' F M'∧w.heap.size≤w'.heap.size∧gW F Rq.gens w' M' I O:=by
      intro c hcr w' cv F M' Rq HT D hr'
      have J:=fun b (hb:b<w.heap.size)=>D.same b hb (tp b)
      by_cases nH:c=true
      ·rw[if_pos nH]at HT;subst HT
       obtain⟨o1,o2⟩:=Ka h D.os D.tape D.output D.size J
       exact⟨cv,β,M,rfl,o1,o2,D.size,PRel.toV _ _ _ _ (hcr nH hr')⟩
      ·rw[if_neg nH]at HT;subst HT
       obtain⟨o1,o2⟩:=Ka X D.os D.tape D.output D.size J
       refine⟨cv,β,M1,rfl,o1,(Tr.fz q2 q3).trans o2 (Nat.le_refl _),D.size,PRel.toV _ _ _ _ (PRel.mono (kl ?_) _ _ hr')⟩
       intro b x Z
       have hb:=X.mlt b x Z
       exact D.msup b x hb (tp b) Z
     cases yF:W.own with
     |none=>
      simp only[yF]at C
      simp at C
      obtain⟨rfl,HT⟩:=C
      have U:=(hO f W ts [] I iw CP gZ).1 yF
      rw[uV]at U
      have ah8:Bm.fr=st.fr:=by rw[←HT];split;rfl;exact HP st us
      refine⟨ah8,(U w β M1 V FA q4).mono ?_⟩
      rintro e w' ⟨cv,F,M',rfl,D,Fu,hG,Y⟩
      exact N (scalar I) (fun h=>MF h) w' cv F M' Bm HT.symm D Y
     |some j=>
      simp only[yF]at C
      have U:=((hO f W ts [] I iw CP gZ).2 j yF).2
      unfold rz at C
      have ah8:Bm.fr=st.fr:=by
       split at C
       ·simp at C;obtain⟨_,rfl⟩:=C;split;rfl;exact HP st us
       ·split at C
        ·simp at C;obtain⟨_,rfl⟩:=C;show(ite _ _ _:St).fr=_;split;rfl;exact HP st us
        ·cases C
       ·cases C
      refine⟨ah8,(U w β M1 V FA q4).mono ?_⟩
      rintro e w' ⟨cv,F,M',rfl,D,Y⟩
      rcases Y with⟨hc,Y⟩|⟨cs,len,hc,S,sz,cap,c,el,s1,s2,s3,s4,s5,s6,s7,s8,s9,s10,s11,s12,s13⟩
      ·rw[hc]at C
       simp at C;obtain⟨rfl,HT⟩:=C
       exact N (sy I) (fun h=>Rm h) w' cv F M' Bm HT.symm D Y
      ·rw[hc]at C
       simp only at C
       split at C
       ·rename_i OZ
        have pY:cs.length/len=sz:=by rw[s8];exact Nat.mul_div_cancel_left _ (Nat.pos_of_ne_zero s9)
        rw[pY]at C
        have J:=fun b (hb:b<w.heap.size)=>D.same b hb (tp b)
        have fin: ∀(Rq:St) (M3:im),iP B Rq w β M3→Tr st w β M Rq w β M3→(∀β G,gW β G w' (Kb M3 S) (iE I j .nilsl) (qv cv j pj))→
          some (iE I j (.isl .L d ((Rq.get .L d).g+1) 0 len sz),Rq.up (.L,d,⟨(Rq.get .L d).g+1,.cells cs 0 false⟩))=some (r,Bm)→
          ∃O F M',Ending.returned cv= .returned O∧iP B Bm w' F M'∧Tr st w β M Bm w' F M'∧w.heap.size≤w'.heap.size∧gW F Bm.gens w' M' r O:=by
         intro Rq M3 h3 t3 hv3 C
         simp only[Option.some.injEq,Prod.mk.injEq]at C
         obtain⟨rfl,rfl⟩:=C
         obtain⟨o1,o2⟩:=ah6 h3 D.os D.tape D.output D.size J d ((Rq.get .L d).g+1) (Nat.lt_succ_self _) S s1 (qV s2) (.cells cs 0 false) (by
          unfold kQ
          simp only[jv]
          exact⟨c,el,(0,0),s2,s3,s4,rfl,xw OZ.1 s5,fun i _ hi=> .inr ⟨rfl,by omega,by omega⟩,s7,Nat.zero_le _⟩)
         refine⟨cv,_,_,rfl,o1,t3.trans o2 (Nat.le_refl _),D.size,aaP (hv3 _ _) s12 ?_ rfl⟩
         simp only[gW]
         rw[jv]
         exact⟨by simp[lu],cap,rfl,s10,by simpa using s11⟩
        by_cases nH:sy (iE I j .nilsl)=true
        ·simp only[nH,if_true]at C
         exact fin st M h (Tr.refl _ _ _ _) (fun β G=>MG nH (s13 β G)) C
        ·simp only[nH,Bool.false_eq_true,if_false]at C
         refine fin (st.ups us) M1 X (Tr.fz q2 q3) (fun β G=>gW.mono (kl ?_) (fun _ _ _ _=>rfl) (fun _ _=>Nat.le_refl _) _ _ (s13 β G)) C
         rintro b x (Z|⟨rfl,h1,h2⟩)
         ·exact D.msup b x (X.mlt b x Z) (tp b) Z
         ·have:=(s6.resolve_left nH) (x-S.off) (by omega)
          rwa [show S.off+(x-S.off)=x by omega]at this
       ·cases C
    ·cases C
  ·cases C
 ·rename_i g CP J5
  split at C
  ·rename_i q hq
   obtain⟨ts,us⟩:=q
   simp only[Option.map_eq_some_iff]at C
   obtain⟨I,hg,C⟩:=C
   simp at C
   obtain⟨rfl,rfl⟩:=C
   obtain⟨⟨fn,hf,hn,hb⟩,U⟩:=hE.2.1 f g CP J5
   obtain⟨M1,X,q2,q3,q4,q5,q6⟩:=pL (fun t=>B2 false st iB t) H B st w β M _ ts us _ (Fz.refl st) h hv hq
   refine⟨uU hf hn hb _ _,rfl,(U ts I hg w M1 V X.mlt q4).mono ?_⟩
   rintro e w' ⟨cv,rfl,tJ,Y⟩
   obtain⟨o1,o2⟩:=Ka h tJ.os tJ.tape tJ.output tJ.size tJ.block
   exact⟨cv,β,M,rfl,o1,o2,tJ.size,PRel.toV _ _ _ _ (PRel.mono (kl (fun b x Z=>h.mlt b x Z)) _ _ Y)⟩
  ·cases C
 ·rename_i CP J5
  split at C
  ·rename_i g hwr
   obtain⟨⟨fn,hf,hn,hb⟩,mG,U⟩:=hE.2.2 f g CP J5 hwr
   refine⟨uU hf hn hb _ _, ?_⟩
   grind [aqr]
  ·cases C
variable{ops:Array Oper}{Q:Exit→Act→World→Prop}{n:Nat}{K:Act→World→Prop}
theorem MH(r:ou st a w β M n){j d:Nat}(C:(ops[j]?).bind (·.dst)=some d)(D:an st.fr d≠ .any):yielded ops a.tmps j=match an st.fr d with| .b x=>some x|_=>none:=by
 unfold yielded
 rw[C]
 simp only[Option.bind_some]
 have hs:=r.slot d
 rw[Array.getD_eq_getD_getElem?]at hs
 cases i:a.tmps[d]? with
 |none=>
  rw[i]at hs
  simp only[Option.getD_none]at hs
  generalize an st.fr d=t at*
  cases t
  case any=>grind
  all_goals (simp only[gW,PRel,undef]at hs;simp_all)
 |some cv=>
  rw[i]at hs
  simp only[Option.getD_some]at hs
  generalize an st.fr d=t at*
  cases t <;> simp only[gW,PRel]at hs
  case b x=>subst hs;rfl
  case any=>grind
  all_goals first
   |(subst hs;rfl)
   |(obtain⟨_,rfl,_⟩:=hs;rfl)
   |(obtain⟨_,_,rfl,_⟩:=hs;rfl)
   |(obtain⟨_,_,_,rfl,_⟩:=hs;rfl)
   |(obtain⟨_,_,_,_,rfl,_⟩:=hs;rfl)
   |(obtain⟨_,rfl⟩:=hs;rfl)
theorem sE(hE:vI P E)(hO:Ag P E call){hs:List Nat}{J:be}{i:Nat}(hi:ops[i]? =some o)(C:wv P hs ops o=some J)(h:iP B st w β M)(H:ou st a w β M n){F:St}(I:iW E call n J st=some F)
  (N: ∀X w' D M',iP B F w' D M'→ou F X w' D M' n→Tr st w β M F w' D M'→w.heap.size≤w'.heap.size→K X w'):wpOp P ops Q i K a w:=by
 have Y:=VP H
 unfold wpOp
 rw[hi]
 simp only
 unfold wv at C
 split at C
 ·rename_i L4 Fi
  have Z: ∀gd,J=⟨o.dst,L4,gd⟩→(match jj st.rho L4 with
    |some (some c)=>match iU E call (o.dst.getD 0) st c.1 c.2 with
     |some r=>(nE st.fr n o.dst r.1).map fun fr=>({r.2 with fr}:St)
     |none=>none
    |some none=>none
    |none=>match(jf (o.dst.getD 0) st.rho L4).run st.get st.sh.length with
     |some (.val v ups)=>(nE st.fr n o.dst v).map fun fr=>({st.ups ups with fr}:St)
     |none=>none)=some F→o.wp P a w K Q:=by
   intro gd _ Aa
   unfold Oper.wp
   split at Aa
   ·rename_i c gZ
    obtain⟨f,O⟩:=c
    split at Aa
    ·rename_i r U
     obtain⟨r,Bm⟩:=r
     simp only[Option.map_eq_some_iff]at Aa
     obtain⟨fr,B8,rfl⟩:=Aa
     have V:=Ro Fi gZ
     obtain⟨c,ho,V⟩:=V
     obtain⟨ji,hx,uR⟩:=Rn Y ho V gZ
     obtain⟨d1,d2,d3⟩:=Rp hE hO h uR U
     rw[hx,d1,Oper.upon_enter]
     refine d3.mono ?_
     rintro e w' ⟨cv,D,M',rfl,k1,k2,k3,k4⟩
     refine N _ _ D M' (aaR k1 fr) ?_ (k2.fr fr) k3
     exact DS H k2 B8 k4
    ·cases Aa
   ·cases Aa
   ·split at Aa
    ·rename_i v ups hq
     simp only[Option.map_eq_some_iff]at Aa
     obtain⟨fr,B8,rfl⟩:=Aa
     obtain⟨nx,cv,w',D,M',r1,r2,r3,r4,r5,r6⟩:=aql (P:=P) Y h Fi hq
     rw[r1]
     have:=N (a.put o.dst cv) w' D M' (aaR r3 fr) (DS H r4 B8 r6) (r4.fr fr) r5
     rcases r2 with rfl|⟨rfl,rfl⟩
     ·exact this
     ·exact this
    ·cases Aa
  split at C
  ·grind [Region.wanted,iW]
  ·rename_i j want hg
   split at C
   ·rename_i d U
    simp at C;subst C
    unfold iW at I
    simp only at I
    have W:an st.fr d≠ .any:=by intro e;rw[e]at I;cases I
    have hy:=MH (ops:=ops) H U W
    have awv:(nE st.fr n o.dst iY).map (fun fr=>({st with fr}:St))=some F→K (a.put o.dst undef) w:=by
     intro hp
     simp only[Option.map_eq_some_iff]at hp
     obtain⟨fr,B8,rfl⟩:=hp
     exact N _ _ β M (aaR h fr) (DS H (Tr.refl _ _ _ _) B8 (by simp[gW,iY,undef,gY])) ((Tr.refl _ _ _ _).fr fr) (Nat.le_refl _)
    grind [Region.wanted]
   ·cases C
 ·cases C
end
end Go.Ev
namespace Go.Ev
open Go
theorem Q.run_congr{α:Type}{h D:Sp→Nat→gR}{r i:Nat}: ∀(q:Q α),(∀κ∈q.log h r,D κ.1 κ.2=h κ.1 κ.2)→(q.asks h r=true→i=r)→q.run D i=q.run h r
 | .ret a,_,_=>rfl
 | .fail,_,_=>rfl
 | .rd sp k f,C,F=>by
   have e:D sp k=h sp k:=C (sp,k) (by simp[Q.log])
   simp only[Q.run,e]
   exact Q.run_congr (f (h sp k)) (fun κ H=>C κ (by simp[Q.log,H])) (fun I=>F (by simp[Q.asks,I]))
 | .new f,C,F=>by
   have e:i=r:=F rfl
   subst e
   simp only[Q.run]
   exact Q.run_congr (f i) (fun κ H=>C κ (by simp[Q.log,H])) (fun _=>rfl)
theorem og(f:T→Q (T×List Up))(h:Sp→Nat→gR)(i:Nat)(C: ∀t,(f t).asks h i=false): ∀ts,(iZ f ts).asks h i=false:=by
 have r: ∀{α γ:Type} (q:Q α) (g:α→Q γ),q.asks h i=false→(∀a,(g a).asks h i=false)→(q.bind g).asks h i=false:=by
  intro α γ q g D F
  induction q with
  |ret a=>exact F a
  |fail=>rfl
  |rd sp k f ih=>grind [Q.bind,Q.asks]
  |new f ih=>simp[Q.asks]at D
 intro ts
 induction ts with
 |nil=>rfl
 |cons t ts ih=>
  simp only[iZ]
  refine r _ _ (C t) (fun p=>r _ _ ih (fun q=>rfl))
theorem O7(h:Sp→Nat→gR)(r:Nat): ∀(keep:Bool) (n:Nat) (t:T),(fz keep n t).asks h r=false:=by
 have i: ∀{α γ:Type} (q:Q α) (g:α→Q γ),q.asks h r=false→(∀a,(g a).asks h r=false)→(q.bind g).asks h r=false:=by
  intro α γ q g C D
  induction q with
  |ret a=>exact D a
  |fail=>rfl
  |rd sp k f ih=>grind [Q.bind,Q.asks]
  |new f ih=>simp[Q.asks]at C
 intro keep n
 induction n generalizing keep with
 |zero=>intro t;rfl
 |succ n ih=>
  intro t
  cases t <;> simp only[fz] <;> try rfl
  ·split
   ·rfl
   ·simp only[Q.asks];split
    ·split
     ·split <;> rfl
     ·split
      ·exact i _ _ (og _ _ _ (fun t=>ih false t) _) (fun _=>rfl)
      ·rfl
     ·rfl
    ·rfl
  ·split
   ·rfl
   ·simp only[Q.asks];split
    ·split
     ·exact i _ _ (og _ _ _ (fun t=>ih false t) _) (fun _=>rfl)
     ·rfl
    ·rfl
  ·grind [Q.asks]
  ·exact i _ _ (og _ _ _ (fun t=>ih keep t) _) (fun _=>i _ _ (og _ _ _ (fun t=>ih keep t) _) (fun _=>rfl))
  ·exact i _ _ (og _ _ _ (fun t=>ih keep t) _) (fun _=>rfl)
  ·exact i _ _ (og _ _ _ (fun t=>ih keep t) _) (fun _=>rfl)
theorem pM{ρ O8:iz→T}{l:List iz}(h: ∀x∈l,O8 x=ρ x):l.map O8=l.map ρ:=List.map_congr_left h
theorem qY{ρ O8:iz→T}{d:Nat}{x:Option iz}(h: ∀y∈x.toList,O8 y=ρ y):kG O8 d x=kG ρ d x:=by
 cases x with
 |none=>rfl
 |some y=>grind [kG]
theorem Rr{ρ O8:iz→T}(d:Nat)(op:mO)(h: ∀x∈Bd op,O8 x=ρ x):jf d O8 op=jf d ρ op:=by
 cases op <;> simp only[Bd]at h <;> simp only[jf]
 case mv x=>grind
 case pick c a b=>grind
 case box x sh=>grind
 case build z ps=>
  have e: ∀p∈ps,O8 p.2.2=ρ p.2.2:=fun p C=>h _ (List.mem_map.2 ⟨p,C,rfl⟩)
  have D:(ps.all fun p=>decide ((cellsOf (O8 p.2.2)).length=p.2.1)&&noTup (O8 p.2.2))=(ps.all fun p=>decide ((cellsOf (ρ p.2.2)).length=p.2.1)&&noTup (ρ p.2.2)):=by
   grind
  grind [List.map_congr_left]
 case bsl z len ps=>
  grind [List.map_congr_left]
 case ld x n ag=>grind
 case st x v n=>grind
 case nck x=>grind
 case bin o x y=>grind
 case eq n k x y=>grind
 case un o x=>grind
 case cvi k x=>grind
 case mkfn f a c=>rw[pM (fun x r=>h x (by simp[r])),pM (fun x r=>h x (by simp[r]))]
 case mksl z b x sh=>rw[h x (by simp)]
 case slS x l hh=>
  rw[h x (by simp),qY (x:=l) (fun y i=>h y (by simp at i;simp[i]))]
  split
  ·rw[qY (x:=hh) (fun y i=>h y (by simp at i;simp[i]))]
  ·rfl
 case slV sz x l hh m=>
  rw[h x (by simp),qY (x:=l) (fun y i=>h y (by simp at i;simp[i]))]
  split
  ·rfl
  ·rw[qY (x:=hh) (fun y i=>h y (by simp at i;simp[i]))]
   split
   ·rfl
   ·rename_i mm _ _;rw[h mm (by simp)]
   ·rfl
 case fa x o=>rw[h x (by simp)]
 case fld x o n ag=>rw[h x (by simp)]
 case ia x y n=>rw[h x (by simp),h y (by simp)]
 case iaA x y l n=>rw[h x (by simp),h y (by simp)]
 case ixS x y=>rw[h x (by simp),h y (by simp)]
 case ixA x y l n ag=>rw[h x (by simp),h y (by simp)]
 case lk k x y z ok=>rw[h x (by simp),h y (by simp)]
 case mu k x y z=>rw[h x (by simp),h y (by simp),h z (by simp)]
 case ext x j=>rw[h x (by simp)]
 case lenS x=>rw[h x (by simp)]
 case lenV x=>rw[h x (by simp)]
 case lenM x=>rw[h x (by simp)]
 case app s b x y sh nm=>rw[h x (by simp),h y (by simp)]
 case mm b as=>rw[pM h]
theorem HU{ρ O8:iz→T}(op:mO)(h: ∀x∈Bd op,O8 x=ρ x):jj O8 op=jj ρ op:=by
 cases op <;> simp only[Bd]at h <;> simp only[jj]
 case callf f as=>simp_all
 case callv f as=>rw[h f (by simp),pM (fun x i=>h x (by simp[i]))]
theorem V6{ρ:iz→T}{op:mO}(D:quiet op=true)(d:Nat)(h:Sp→Nat→gR)(C:Nat):jj ρ op=none∧(jf d ρ op).log h C= []∧(jf d ρ op).asks h C=false∧ ∀v i,(jf d ρ op).run h C=some (.val v i)→i= []:=by
 have r: ∀x:Option T,(Ev.val x).log h C= []∧(Ev.val x).asks h C=false∧ ∀v i,(Ev.val x).run h C=some (.val v i)→i= []:=by
  intro x;cases x <;> simp[Ev.val,Q.log,Q.asks,Q.run]
 cases op <;> simp[quiet]at D <;> refine⟨rfl, ?_⟩ <;> simp only[jf]
 case slV sz x l hh m=>
  split
  ·simp[Q.log,Q.asks,Q.run]
  ·split
   ·unfold B0
    grind [Q.bind,Q.log,Q.asks,Q.run]
   ·grind [Q.log,Q.asks,Q.run]
   ·simp[Q.log,Q.asks,Q.run]
 all_goals first
  |exact r _
  |(simp[Q.log,Q.asks,Q.run];done)
  |(repeat' split
    all_goals first
     |exact r _
     |(simp[Q.log,Q.asks,Q.run];done))
end Go.Ev
namespace Go.Ev
open Go
theorem Kd{us:List Up}{sp:Sp}{k:Nat}:pf us sp k=true↔(sp,k)∈j6 us:=by
 grind [pf,j6]
theorem Ke(s p:St): ∀(us:List Up) (sp:Sp) (k:Nat),pf us sp k=true→(s.ups us).get sp k=(p.ups us).get sp k:=by
 intro us
 induction us generalizing s p with
 |nil=>grind [pf]
 |cons u us ih=>
  grind [St.ups,qX,pf,lY]
theorem CQ(s p:St)(us:List Up)(sp:Sp)(k:Nat):(s.ups us).get sp k=if(sp,k)∈j6 us then(p.ups us).get sp k else s.get sp k:=by
 split
 ·rename_i h;exact Ke s p us sp k (Kd.2 h)
 ·rename_i h
  refine qX s us sp k ?_
  cases i:pf us sp k with
  |false=>rfl
  |true=>exact absurd (Kd.1 i) h
theorem MI(s p:St)(hs:s.sh=p.sh): ∀us,(s.ups us).sh=(p.ups us).sh:=by
 intro us
 induction us generalizing s p with
 |nil=>exact hs
 |cons u us ih=>
  simp only[St.ups]
  refine ih _ _ ?_
  obtain⟨a,b,c⟩:=u
  cases a
  ·exact hs
  ·simp[St.up,hs]
theorem HV(s:St): ∀us,(∀u∈us,u.1= .S→u.2.1<s.sh.length)→(s.ups us).sh.length=s.sh.length:=by
 intro us
 induction us generalizing s with
 |nil=>intro _;rfl
 |cons u us ih=>
  intro h
  obtain⟨a,b,c⟩:=u
  simp only[St.ups]
  have i:(s.up (a,b,c)).sh.length=s.sh.length:=by
   cases a with
   |L=>rfl
   |S=>simp_all[St.up,wy]
  grind
theorem MJ{s p:St}{us:List Up}(h:yi p us=true)(r: ∀sp k,(sp,k)∈j6 us→s.get sp k=p.get sp k): ∀u∈us,u.1= .S→u.2.1<s.sh.length:=by
 intro u i e
 unfold yi at h
 rw[List.all_eq_true]at h
 have C:=h u i
 obtain⟨a,b,c⟩:=u
 dsimp only at e;subst e
 simp at C
 have D:=r .S b (by unfold j6;exact List.mem_map.2 ⟨_,i,rfl⟩)
 refine OP (st:=s) ?_
 grind [Dw,live]
theorem HW{fr fr2:Fr}{n:Nat}{d:Option Nat}{v:T}{g:Fr}(h:nE fr n d v=some g): ∃i,nE fr2 n d v=some i∧ ∀t,an i t=if d=some t then an g t else an fr2 t:=by
 cases d with
 |none=>exact⟨fr2,rfl,fun t=>by simp⟩
 |some d=>
  grind [nE,re]
def wrote(fp:FP)(sp:Sp)(k:Nat):Prop:=(sp,k)∈fp.w∨(fp.all=true∧sp= .S)
structure aaS (ao:be) (fp:FP) (s s' p':St):Prop where
 slot: ∀t,an s'.fr t=if ao.d=some t then an p'.fr t else an s.fr t
 key: ∀sp k,(wrote fp sp k→s'.get sp k=p'.get sp k)∧(¬wrote fp sp k→s'.get sp k=s.get sp k)
 len:(fp.all=true→s'.sh.length=p'.sh.length)∧(fp.all=false→s'.sh.length=s.sh.length)
variable{E:Env}{call:rh}{n:Nat}
theorem Rs{s p:St}{i:be}(h: ∀t∈looks i,an s.fr t=an p.fr t): ∀x∈Bd i.op,s.rho x=p.rho x:=by
 intro x r
 cases x with
 |t m=>
  refine h m ?_
  grind [looks,tmpsOf]
 |c v=>rfl
theorem aaT{s p:St}{d j:Nat}{r F:T}{us:List Up}{H:St}(i:rz d j r p us=some (F,H))(h: ∀sp k,(sp,k)∈(Sp.L,d)::j6 us→s.get sp k=p.get sp k)(N:(s.ups us).sh.length=s.sh.length):
  ∃C,rz d j r s us=some (F,C)∧(∀sp k,((sp,k)∈(Sp.L,d)::j6 us→C.get sp k=H.get sp k)∧((sp,k)∉(Sp.L,d)::j6 us→C.get sp k=s.get sp k))∧C.sh.length=s.sh.length:=by
 have base: ∀(c:Bool) (sp:Sp) (k:Nat),((sp,k)∈(Sp.L,d)::j6 us→(if c=true then s else s.ups us).get sp k=(if c=true then p else p.ups us).get sp k)∧((sp,k)∉(Sp.L,d)::j6 us→(if c=true then s else s.ups us).get sp k=s.get sp k):=by
  grind [Bool.false_eq_true,CQ]
 have len: ∀c:Bool,(if c=true then s else s.ups us).sh.length=s.sh.length:=by
  grind
 unfold rz at i ⊢
 split at i
 ·rename_i I
  simp only[Option.some.injEq,Prod.mk.injEq]at i ⊢
  obtain⟨rfl,rfl⟩:=i
  exact⟨_,⟨rfl,rfl⟩,base _,len _⟩
 ·rename_i cs VQ ex I
  split at i
  ·rename_i OZ
   rw[if_pos OZ]
   simp only[Option.some.injEq,Prod.mk.injEq]at i ⊢
   obtain⟨rfl,rfl⟩:=i
   have J:=(base (sy (iE r j .nilsl)) .L d).1 (List.mem_cons_self ..)
   rw[J]
   refine⟨_,⟨rfl,rfl⟩,fun sp k=>⟨fun D=> ?_,fun D=> ?_⟩, ?_⟩
   ·rw[lY,lY]
    split
    ·rfl
    ·exact(base _ sp k).1 D
   ·rw[lY,if_neg (by rintro⟨rfl,rfl⟩;exact D (List.mem_cons_self ..))]
    exact(base _ sp k).2 D
   ·exact len _
  ·cases i
 ·cases i
theorem Kf{i:be}{fp:FP}{s p N:St}(he:iW E call n i p=some N)(k7:jk E call i p=some fp)(h1: ∀t∈looks i,an s.fr t=an p.fr t)(O: ∀sp k,(sp,k)∈fp.r∨(sp,k)∈fp.w→s.get sp k=p.get sp k)(h3:fp.all=true→s.sh=p.sh):
  ∃J,iW E call n i s=some J∧aaS i fp s J N:=by
 have U:=Rs h1
 have awv:(nE p.fr n i.d iY).map (fun fr=>({p with fr}:St))=some N→fp=nW→ ∃J,(nE s.fr n i.d iY).map (fun fr=>({s with fr}:St))=some J∧aaS i fp s J N:=by
  intro hp hn
  subst hn
  simp only[Option.map_eq_some_iff]at hp
  obtain⟨g,V,rfl⟩:=hp
  obtain⟨g2,W,X⟩:=HW (fr2:=s.fr) V
  refine⟨{s with fr:=g2},by rw[W];rfl,X,fun sp k=>⟨fun hw=> ?_,fun _=>rfl⟩,⟨(fun F=>by cases F),fun _=>rfl⟩⟩
  rcases hw with hw|hw
  ·simp[nW]at hw
  ·cases hw.1
 have core:(match jj p.rho i.op with
       |some (some c)=>match iU E call (i.d.getD 0) p c.1 c.2 with
        |some r=>(nE p.fr n i.d r.1).map fun fr=>({r.2 with fr}:St)
        |none=>none
       |some none=>none
       |none=>match(jf (i.d.getD 0) p.rho i.op).run p.get p.sh.length with
        |some (.val v ups)=>(nE p.fr n i.d v).map fun fr=>({p.ups ups with fr}:St)
        |none=>none)=some N→(match jj p.rho i.op with
       |some (some c)=>lO E call (i.d.getD 0) p c.1 c.2
       |some none=>none
       |none=>
        let q:=jf (i.d.getD 0) p.rho i.op
        match q.run p.get p.sh.length with
        |some (.val _ ups)=>if q.asks p.get p.sh.length||yi p ups then some (⟨q.asks p.get p.sh.length,q.log p.get p.sh.length,j6 ups⟩:FP)else none
        |none=>none)=some fp→
   ∃J,(match jj s.rho i.op with
    |some (some c)=>match iU E call (i.d.getD 0) s c.1 c.2 with
     |some r=>(nE s.fr n i.d r.1).map fun fr=>({r.2 with fr}:St)
     |none=>none
    |some none=>none
    |none=>match(jf (i.d.getD 0) s.rho i.op).run s.get s.sh.length with
     |some (.val v ups)=>(nE s.fr n i.d v).map fun fr=>({s.ups ups with fr}:St)
     |none=>none)=some J∧aaS i fp s J N:=by
  intro Aa C
  rw[HU i.op U]
  split at Aa
  ·rename_i c hc
   obtain⟨f,args⟩:=c
   rw[hc]at C
   simp only[hc]at C ⊢
   split at Aa
   ·rename_i r D
    obtain⟨r,p2⟩:=r
    simp only[Option.map_eq_some_iff]at Aa
    obtain⟨g,V,rfl⟩:=Aa
    obtain⟨g2,W,X⟩:=HW (fr2:=s.fr) V
    suffices hs: ∃s2,iU E call (i.d.getD 0) s f args=some (r,s2)∧(∀sp k,(wrote fp sp k→s2.get sp k=p2.get sp k)∧(¬wrote fp sp k→s2.get sp k=s.get sp k))∧(fp.all=true→s2.sh.length=p2.sh.length)∧(fp.all=false→s2.sh.length=s.sh.length)by
     obtain⟨s2,d1,d2,d3⟩:=hs
     refine⟨{s2 with fr:=g2},by rw[d1];simp[W],X,d2,d3⟩
    unfold lO at C
    unfold iU at D ⊢
    split at D
    ·rename_i af CP
     simp only[CP]at C ⊢
     cases I:(iZ (fz af.eff iB) args).run p.get p.sh.length with
     |none=>simp[I]at D
     |some q=>
      obtain⟨ts,us⟩:=q
      simp only[I]at D C
      split at C
      ·cases C
      ·rename_i Rt
       simp at Rt
       have HN: ∀κ∈(iZ (fz af.eff iB) args).log p.get p.sh.length,κ∈fp.r:=by
        grind
       have Ae:(iZ (fz af.eff iB) args).run s.get s.sh.length=some (ts,us):=by
        rw[←I]
        refine Q.run_congr _ (fun κ H=>O _ _ (.inl (HN κ H))) (fun F=> ?_)
        rw[og _ _ _ (fun t=>O7 _ _ _ _ t)]at F;cases F
       rw[Ae]
       simp only
       split at D
       ·rename_i uV
        simp only[uV,if_true]at C ⊢
        simp at C;subst C
        simp only[Option.map_eq_some_iff]at D
        obtain⟨⟨r',iw⟩,gZ,D⟩:=D
        simp at D;obtain⟨rfl,rfl⟩:=D
        have Y:=h3 rfl
        have aww:=MI s p Y us
        refine⟨{s.ups us with sh:=iw},by rw[aww,gZ];rfl,fun sp k=> ?_,fun _=>rfl,(fun F=>by cases F)⟩
        cases sp with
        |S=>exact⟨fun _=>rfl,fun hw=>absurd (.inr ⟨rfl,rfl⟩) hw⟩
        |L=>
         have:=CQ s p us .L k
         refine⟨fun hw=> ?_,fun hw=> ?_⟩
         ·rcases hw with hw|hw
          ·rw[if_pos hw]at this;exact this
          ·cases hw.2
         ·rw[if_neg (fun e=>hw (.inl e))]at this;exact this
       ·rename_i uV
        simp only[uV,Bool.false_eq_true,if_false]at C ⊢
        split at D
        ·rename_i r0 gZ
         simp only[gZ]at C ⊢
         cases yF:af.own with
         |some j=>
          simp only[yF]at C D ⊢
          simp at C;subst C
          obtain⟨s2,g1,g2,g3⟩:=aaT (s:=s) D (fun sp k H=>O sp k (.inr H)) (HV s us (MJ Rt (fun sp k H=>O sp k (.inr (List.mem_cons_of_mem _ H)))))
          refine⟨s2,g1,fun sp k=>⟨fun hw=> ?_,fun hw=>(g2 sp k).2 (fun e=>hw (.inl e))⟩,(fun F=>by cases F),fun _=>g3⟩
          rcases hw with hw|hw
          ·exact(g2 sp k).1 hw
          ·cases hw.1
         |none=>
         simp only[yF]at C D ⊢
         simp at C;subst C
         simp at D;obtain⟨rfl,rfl⟩:=D
         by_cases nH:scalar r0.1=true
         ·simp only[nH,if_true]
          refine⟨s,rfl,fun sp k=>⟨fun hw=> ?_,fun _=>rfl⟩,(fun F=>by cases F),fun _=>rfl⟩
          rcases hw with hw|hw
          ·simp at hw
          ·cases hw.1
         ·simp only[nH,Bool.false_eq_true,if_false]
          refine⟨s.ups us,rfl,fun sp k=> ?_,(fun F=>by cases F),fun _=> ?_⟩
          ·have:=CQ s p us sp k
           refine⟨fun hw=> ?_,fun hw=> ?_⟩
           ·rcases hw with hw|hw
            ·rw[if_pos hw]at this;exact this
            ·cases hw.1
           ·rw[if_neg (fun e=>hw (.inl e))]at this;exact this
          ·exact HV s us (MJ Rt (fun sp k H=>O sp k (.inr (by simpa[nH]using H))))
        ·cases D
    ·rename_i g' CP J5
     simp only[CP,J5]at C ⊢
     simp at C;subst C
     cases I:(iZ (fz false iB) args).run p.get p.sh.length with
     |none=>simp[I]at D
     |some q=>
      simp only[I]at D
      have Ae:(iZ (fz false iB) args).run s.get s.sh.length=some q:=by
       rw[←I]
       refine Q.run_congr _ (fun κ H=>O _ _ (.inl H)) (fun F=> ?_)
       rw[og _ _ _ (fun t=>O7 _ _ _ _ t)]at F;cases F
      rw[Ae]
      simp only[Option.map_eq_some_iff]at D ⊢
      obtain⟨r',hg',D⟩:=D
      simp at D;obtain⟨rfl,rfl⟩:=D
      refine⟨s,⟨r',hg',rfl⟩,fun sp k=>⟨fun hw=> ?_,fun _=>rfl⟩,(fun F=>by cases F),fun _=>rfl⟩
      rcases hw with hw|hw
      ·simp at hw
      ·cases hw.1
    ·rename_i CP J5
     simp only[CP,J5]at C
     cases C
   ·cases Aa
  ·cases Aa
  ·rename_i hc
   simp only[hc]at C ⊢
   rw[Rr _ i.op U]
   split at Aa
   ·rename_i v ups I
    simp only[I]at C
    split at C
    ·rename_i Rt
     simp at C;subst C
     simp only[Option.map_eq_some_iff]at Aa
     obtain⟨g,V,rfl⟩:=Aa
     obtain⟨g2,W,X⟩:=HW (fr2:=s.fr) V
     have Ae:(jf (i.d.getD 0) p.rho i.op).run s.get s.sh.length=some (.val v ups):=by
      grind [Q.run_congr]
     rw[Ae]
     refine⟨{s.ups ups with fr:=g2},by simp[W],X,fun sp k=> ?_, ?_⟩
     ·have:=CQ s p ups sp k
      refine⟨fun hw=> ?_,fun hw=> ?_⟩
      ·by_cases hm:(sp,k)∈j6 ups
       ·rw[if_pos hm]at this;exact this
       ·rcases hw with hw|hw
        ·exact absurd hw hm
        ·obtain⟨Z,rfl⟩:=hw
         have Y:=MI s p (h3 Z) ups
         show jr (s.ups ups).sh k=jr (p.ups ups).sh k
         rw[Y]
      ·rw[if_neg (fun e=>hw (.inl e))]at this;exact this
     ·refine⟨fun Z=> ?_,fun Z=> ?_⟩
      ·have Y:=MI s p (h3 Z) ups
       show(s.ups ups).sh.length=(p.ups ups).sh.length
       rw[Y]
      ·rw[show(jf (i.d.getD 0) p.rho i.op).asks p.get p.sh.length=false from Z,Bool.false_or]at Rt
       exact HV s ups (MJ Rt (fun sp k H=>O sp k (.inr H)))
    ·cases C
   ·cases Aa
 unfold iW at he ⊢
 unfold jk at k7
 cases hgd:i.gd with
 |none=>
  grind
 |some g=>
  obtain⟨j,want⟩:=g
  simp only[hgd]at he k7 ⊢
  grind [looks]
end Go.Ev
namespace Go.Ev
open Go
theorem Kg(r:List Nat): ∀(ps:List Nat) (C i:Nat),(ps.foldl (fun m p=>m ||| 2 ^ p ||| iy 0 r p) C).testBit i=true↔C.testBit i=true∨ ∃p∈ps,p=i∨(iy 0 r p).testBit i=true
 | [],C,i=>by simp
 |p::ps,C,i=>by
  simp only[List.foldl_cons]
  rw[Kg r ps]
  grind
theorem MK(r ps:List Nat)(i:Nat):(HK r ps).testBit i=true↔ ∃p∈ps,p=i∨(iy 0 r p).testBit i=true:=by
 unfold HK;rw[Kg];simp
theorem pZ{α:Type}(d:α): ∀(l i:List α) (k:Nat),k<l.length→iy d (l++i) k=iy d l k
 | [],i,k,h=>by simp at h
 |x::xs,i,0,h=>rfl
 |x::xs,i,k+1,h=>by simp_all[List.cons_append,iy,pZ]
theorem xx{α:Type}(d:α): ∀(l:List α) (x:α),iy d (l++ [x]) l.length=x
 | [],x=>rfl
 |y::i,x=>by simp_all[List.cons_append,List.length_cons,iy,xx]
theorem DT: ∀(tj:List (List Nat)) (r:List Nat),(rC tj r).length=r.length+tj.length∧(∀k,k<r.length→iy 0 (rC tj r) k=iy 0 r k)∧
  ∀j ps,tj[j]? =some ps→ ∀i,(iy 0 (rC tj r) (r.length+j)).testBit i=true↔ ∃p∈ps,p=i∨((if p<r.length+j then iy 0 (rC tj r) p else 0).testBit i=true)
 | [],r=>by simp[rC]
 |ps::tj,r=>by
  obtain⟨F,H,I⟩:=DT tj (r++ [HK r ps])
  simp only[rC]
  refine⟨by rw[F];simp;omega,fun k C=> ?_,fun j J D i=> ?_⟩
  ·grind [pZ]
  ·cases j with
   |zero=>
    simp at D;subst D
    rw[Nat.add_zero,H r.length (by simp),xx,MK]
    constructor
    ·rintro⟨p,N,e⟩
     refine⟨p,N,e.imp id fun e=> ?_⟩
     by_cases O:p<r.length
     ·grind [pZ]
     ·exfalso
      have: ∀(l:List Nat) (k:Nat),l.length≤k→iy 0 l k=0:=by
       intro l
       induction l with
       |nil=>intro k _;rfl
       |cons x xs ih=>intro k C;cases k with|zero=>simp at C|succ k=>exact ih k (by simpa using C)
      grind
    grind [pZ]
   |succ j=>
    have:=I j J (by simpa using D) i
    grind
theorem Ah: ∀(tj:List (List Nat)) (i:Nat),zK i tj=true→ ∀j ps,tj[j]? =some ps→ ∀p∈ps,p<i+j
 | [],i,h,j,ps,r,p,C=>by simp at r
 |q::tj,i,h,j,ps,r,p,C=>by
  simp only[zK,Bool.and_eq_true,List.all_eq_true]at h
  cases j with
  |zero=>grind
  |succ j=>
   have:=Ah tj (i+1) h.2 j ps (by simpa using r) p C
   omega
theorem DU{m:Nat}{as:List be}{k:Nat}{a:be}:(k,a)∈DB m as↔as[k]? =some a∧m.testBit k=false:=by
 unfold DB
 rw[List.mem_filter,List.mem_map]
 constructor
 ·grind
 ·rintro⟨i,r⟩
  exact⟨⟨(a,k),List.mem_zipIdx_iff_getElem?.2 i,rfl⟩,by simpa using r⟩
theorem Ai: ∀(C i:List be) (I:List Nat),zL I i C=true→ ∀j a,C[j]? =some a→ ∀m,I[j]? =some m→ ∀k D,k<i.length+j→(i++C)[k]? =some D→m.testBit k=false→mU D a=true
 | [],i,I,h,j,a,F,m,H,k,D,O,J,N=>by simp at F
 |r::C,i,[],h,j,a,F,m,H,k,D,O,J,N=>by simp at H
 |r::C,i,U::I,h,j,a,F,m,H,k,D,O,J,N=>by
  simp only[zL,Bool.and_eq_true,List.all_eq_true]at h
  cases j with
  |zero=>
   simp at F H;subst F;subst H
   have:i[k]? =some D:=by rw[List.getElem?_append_left (by omega)]at J;exact J
   exact h.1 (k,D) (DU.2 ⟨this,N⟩)
  |succ j=>
   exact Ai C (i++ [r]) I h.2 j a (by simpa using F) m (by simpa using H) k D (by simp;omega) (by simpa using J) N
variable{E:Env}{call:rh}{n:Nat}
theorem DV: ∀(C i:List be) (F:List Nat) (H:List FP) (st D:St),H.length=i.length→F.length=C.length→iK E call n (tG F i C) H st=some D→
  ∃(pre:Nat→St) (fp:Nat→FP),pre 0=st∧pre C.length=D∧ ∀j a m,C[j]? =some a→F[j]? =some m→iW E call n a (pre j)=some (pre (j+1))∧jk E call a (pre j)=some (fp j)∧
   ∀k I,k<i.length+j→(i++C)[k]? =some I→m.testBit k=false→quiet a.op=false→quiet I.op=false→apart (if k<i.length then iy ⟨true,[],[]⟩ H k else fp (k-i.length)) (fp j)=true
 | [],i,F,H,st,D,V,N,h=>by
   cases F with
   |cons _ _=>simp at N
   |nil=>simp[tG,iK]at h;subst h;exact⟨fun _=>st,fun _=>nW,rfl,rfl,by simp⟩
 |r::C,i,[],H,st,D,V,N,h=>by simp at N
 |r::C,i,m0::F,H,st,D,V,N,h=>by
  simp only[tG,iK]at h
  cases X:jk E call r st with
  |none=>simp[X]at h
  |some O=>
   simp only[X]at h
   generalize hu:(if quiet r.op=true then []else((DB m0 i).filter fun p=> !quiet p.2.op).map (·.1))=uno at h
   split at h
   ·rename_i iI
    cases Y:iW E call n r st with
    |none=>simp[Y]at h
    |some lV=>
     simp only[Y]at h
     obtain⟨pre,fp,p1,p2,p3⟩:=DV C (i++ [r]) F (H++ [O]) lV D (by simp[V]) (by simpa using N) h
     refine⟨fun j=>match j with|0=>st|j+1=>pre j,fun j=>match j with|0=>O|j+1=>fp j,rfl,p2,fun j a m Z J=> ?_⟩
     cases j with
     |zero=>
      simp at Z J;subst Z;subst J
      refine⟨by simp only;rw[Y,p1],X,fun k I hk W hb Kh GA=> ?_⟩
      have U:k<i.length:=by omega
      rw[if_pos U]
      have ha':i[k]? =some I:=by rw[List.getElem?_append_left U]at W;exact W
      rw[List.all_eq_true]at iI
      refine iI k ?_
      rw[←hu,if_neg (by rw[Kh];simp)]
      exact List.mem_map.2 ⟨(k,I),List.mem_filter.2 ⟨DU.2 ⟨ha',hb⟩,by simp[GA]⟩,rfl⟩
     |succ j=>
      obtain⟨e1,e2,e3⟩:=p3 j a m (by simpa using Z) (by simpa using J)
      refine⟨e1,e2,fun k I hk W hb Kh GA=> ?_⟩
      have:=e3 k I (by simp;omega) (by simpa using W) hb Kh GA
      by_cases h1:k<i.length
      ·grind [pZ]
      ·rw[if_neg h1]
       by_cases h2:k=i.length
       ·subst h2
        rw[if_pos (by simp),←V,xx]at this
        simpa using this
       ·rw[if_neg (by simp;omega)]at this
        obtain⟨x,hx⟩: ∃x,k-i.length=x+1:=⟨k-i.length-1,by omega⟩
        rw[hx]
        simp only
        have hx2:k-(i++ [r]).length=x:=by simp;omega
        rw[hx2]at this
        exact this
   ·cases h
theorem Ki{a:be}{p:St}{fp:FP}(F:quiet a.op=true)(h:jk E call a p=some fp):fp.all=false∧fp.r= []∧fp.w= []:=by
 obtain⟨H,I,J,N⟩:=V6 (ρ:=p.rho) F (a.d.getD 0) p.get p.sh.length
 have D:(match jj p.rho a.op with
       |some (some c)=>lO E call (a.d.getD 0) p c.1 c.2
       |some none=>none
       |none=>
        let q:=jf (a.d.getD 0) p.rho a.op
        match q.run p.get p.sh.length with
        |some (.val _ i)=>if q.asks p.get p.sh.length||yi p i then some (⟨q.asks p.get p.sh.length,q.log p.get p.sh.length,j6 i⟩:FP)else none
        |none=>none)=some fp→fp.all=false∧fp.r= []∧fp.w= []:=by
  intro C
  rw[H]at C
  simp only at C
  split at C
  ·rename_i v i O
   have:=N v i O;subst this
   split at C
   ·simp at C;subst C;exact⟨J,I,rfl⟩
   ·cases C
  ·cases C
 unfold jk at h
 cases U:a.gd with
 |none=>grind
 |some g=>
  simp only[U]at h
  split at h
  ·split at h
   ·exact D h
   ·simp at h;subst h;exact⟨rfl,rfl,rfl⟩
  ·simp at h;subst h;exact⟨rfl,rfl,rfl⟩
theorem V7: ∀(a b:List gR),(∀k,jr a k=jr b k)→a.length=b.length→a=b
 | [],[],_,_=>rfl
 | [],y::i,_,h=>by simp at h
 |x::xs,[],_,h=>by simp at h
 |x::xs,y::i,h,r=>by
  have C:x=y:=h 0
  rw[C,V7 xs i (fun k=>h (k+1)) (by simpa using r)]
end Go.Ev
namespace Go.Ev
open Go
variable{E:Env}{call:rh}{n:Nat}
structure pN (E:Env) (call:rh) (n:Nat) (as:List be) (tj:List (List Nat)) (bit:Nat→Nat→Bool) (pre:Nat→St) (fp:Nat→FP):Prop where
 len:tj.length=as.length
 edges: ∀(j:Nat) (ps:List Nat),tj[j]? =some ps→ ∀p∈ps,p<j
 bits: ∀(j:Nat) (ps:List Nat),tj[j]? =some ps→ ∀i,bit j i=true↔ ∃p∈ps,p=i∨bit p i=true
 run: ∀(j:Nat) (a:be),as[j]? =some a→iW E call n a (pre j)=some (pre (j+1))∧jk E call a (pre j)=some (fp j)
 slots: ∀(j:Nat) (a:be) (k:Nat) (a':be),as[j]? =some a→as[k]? =some a'→k<j→bit j k=false→mU a' a=true
 apart: ∀(j:Nat) (a:be) (k:Nat) (a':be),as[j]? =some a→as[k]? =some a'→k<j→bit j k=false→quiet a.op=false→quiet a'.op=false→Ev.apart (fp k) (fp j)=true
variable{as:List be}{tj:List (List Nat)}{bit:Nat→Nat→Bool}{pre:Nat→St}{fp:Nat→FP}
def DW(tj:List (List Nat))(L:Nat→Prop):Prop:= ∀(j:Nat) (ps:List Nat),tj[j]? =some ps→L j→ ∀p∈ps,L p
theorem B9(R:pN E call n as tj bit pre fp){L:Nat→Prop}(J:DW tj L): ∀(j:Nat) (ps:List Nat),tj[j]? =some ps→(∀p∈ps,L p)→ ∀i,bit j i=true→L i:=by
 intro j
 induction j using Nat.strongRecOn with
 |_ j ih=>
  intro ps r F i N
  obtain⟨p,C,h2⟩:=(R.bits j ps r i).1 N
  rcases h2 with rfl|h2
  ·exact F p C
  ·have H:=R.edges j ps r p C
   have D:p<tj.length:=Nat.lt_trans H (List.getElem?_eq_some_iff.1 r).1
   have I:tj[p]? =some tj[p]:=List.getElem?_eq_getElem D
   exact ih p H _ I (J p _ I (F p C)) i h2
theorem wG(R:pN E call n as tj bit pre fp){L:Nat→Prop}(C:DW tj L){i j:Nat}(hi:i<as.length)(J:j<as.length)(D: ¬L i)(F: ∀ps,tj[i]? =some ps→ ∀p∈ps,L p)(N:i=j∨(j<i∧bit i j=true)∨(i<j∧bit j i=true)):L j↔j<i:=by
 rcases N with rfl|⟨I,H⟩|⟨I,H⟩
 ·grind
 ·refine⟨fun _=>I,fun _=> ?_⟩
  have O:i<tj.length:=by rw[R.len];exact hi
  have r:tj[i]? =some tj[i]:=List.getElem?_eq_getElem O
  exact B9 R C i _ r (F _ r) j H
 ·refine⟨fun U=>absurd ?_ D,fun h=>by omega⟩
  have FB:j<tj.length:=by rw[R.len];exact J
  have r:tj[j]? =some tj[j]:=List.getElem?_eq_getElem FB
  exact B9 R C j _ r (C j _ r U) i H
structure Inv (as:List be) (pre:Nat→St) (fp:Nat→FP) (L:Nat→Prop) (s:St):Prop where
 slot: ∀t i,i≤as.length→(∀(j:Nat) (a:be),as[j]? =some a→a.d=some t→(L j↔j<i))→an s.fr t=an (pre i).fr t
 key: ∀sp k i,i≤as.length→(∀j,j<as.length→wrote (fp j) sp k→(L j↔j<i))→s.get sp k=(pre i).get sp k
 len: ∀i,i≤as.length→(∀j,j<as.length→(fp j).all=true→(L j↔j<i))→s.sh.length=(pre i).sh.length
theorem DX(R:pN E call n as tj bit pre fp){j:Nat}{a:be}(i:as[j]? =some a):aaS a (fp j) (pre j) (pre (j+1)) (pre (j+1)):=by
 obtain⟨r,C⟩:=R.run j a i
 obtain⟨D,F,H⟩:=Kf (s:=pre j) r C (fun _ _=>rfl) (fun _ _ _=>rfl) (fun _=>rfl)
 grind
theorem Kj(R:pN E call n as tj bit pre fp)(t i:Nat): ∀r,i≤r→r≤as.length→(∀(j:Nat) (a:be),as[j]? =some a→i≤j→j<r→a.d≠some t)→an (pre r).fr t=an (pre i).fr t:=by
 intro r F
 induction r with
 |zero=>grind
 |succ m ih=>
  intro H I
  by_cases C:i=m+1
  ·subst C;rfl
  ·have ZY:m<as.length:=by omega
   have D:as[m]? =some as[m]:=List.getElem?_eq_getElem ZY
   have J:=(DX R D).slot t
   grind
theorem O9(R:pN E call n as tj bit pre fp)(sp:Sp)(k i:Nat): ∀r,i≤r→r≤as.length→(∀j,i≤j→j<r→ ¬wrote (fp j) sp k)→(pre r).get sp k=(pre i).get sp k:=by
 intro r H
 induction r with
 |zero=>grind
 |succ m ih=>
  intro I C
  by_cases D:i=m+1
  ·subst D;rfl
  ·have ZY:m<as.length:=by omega
   have F:as[m]? =some as[m]:=List.getElem?_eq_getElem ZY
   have J:=((DX R F).key sp k).2 (C m (by omega) (by omega))
   grind
theorem Pa(R:pN E call n as tj bit pre fp)(i:Nat): ∀r,i≤r→r≤as.length→(∀j,i≤j→j<r→(fp j).all=false)→(pre r).sh.length=(pre i).sh.length:=by
 intro r H
 induction r with
 |zero=>grind
 |succ m ih=>
  intro I C
  by_cases D:i=m+1
  ·subst D;rfl
  ·have ZY:m<as.length:=by omega
   have F:as[m]? =some as[m]:=List.getElem?_eq_getElem ZY
   have J:=(DX R F).len.2 (C m (by omega) (by omega))
   grind
theorem either(R:pN E call n as tj bit pre fp){i j:Nat}{a r:be}(hi:as[i]? =some a)(D:as[j]? =some r)(I:i≠j):
  ((j<i∧bit i j=true)∨(i<j∧bit j i=true))∨((mU a r=true∨mU r a=true)∧(quiet a.op=true∨quiet r.op=true∨Ev.apart (fp i) (fp j)=true∨Ev.apart (fp j) (fp i)=true)):=by
 rcases Nat.lt_or_gt_of_ne I with h|h
 ·cases C:bit j i with
  |true=>grind
  |false=>
   refine .inr ⟨.inl (R.slots j r i a D hi h C), ?_⟩
   cases F:quiet a.op
   ·cases H:quiet r.op
    ·exact .inr (.inr (.inl (R.apart j r i a D hi h C H F)))
    ·grind
   ·exact .inl rfl
 ·cases C:bit i j with
  |true=>grind
  |false=>
   refine .inr ⟨.inr (R.slots i a j r hi D h C), ?_⟩
   cases F:quiet a.op
   ·cases H:quiet r.op
    ·exact .inr (.inr (.inr (R.apart i a j r hi D h C F H)))
    ·grind
   ·exact .inl rfl
theorem FC{x y:be}(h:mU x y=true∨mU y x=true){t:Nat}:(x.d=some t→t∉looks y∧y.d≠some t):=by
 grind [mU]
theorem xy{xs i:List (Sp×Nat)}(h:mS xs i=true){κ:Sp×Nat}(r:κ∈xs)(C:κ∈i):False:=by
 grind [mS]
theorem Bo{xs:List (Sp×Nat)}(h:LZ xs=true){k:Nat}(i:(Sp.S,k)∈xs):False:=by
 grind [LZ]
theorem V8{x y:FP}(h:Ev.apart x y=true∨Ev.apart y x=true){sp:Sp}{k:Nat}(i:wrote y sp k):(sp,k)∉x.r∧(sp,k)∉x.w∧ ¬(x.all=true∧sp= .S):=by
 rcases h with h|h <;> unfold Ev.apart at h <;> simp only[Bool.and_eq_true,Bool.or_eq_true,Bool.not_eq_true']at h <;> obtain⟨⟨⟨⟨a1,a2⟩,C⟩,a4⟩,a5⟩:=h
 ·rcases i with i|⟨i,rfl⟩
  ·refine⟨fun e=>xy C e i,fun e=>xy a2 e i,fun e=> ?_⟩
   grind [Bo]
  ·rcases a5 with a5|a5
   ·grind
   ·refine⟨fun e=>Bo a5.1 e,fun e=>Bo a5.2 e,fun e=> ?_⟩
    grind
 ·rcases i with i|⟨i,rfl⟩
  ·refine⟨fun e=>xy a1 i e,fun e=>xy a2 i e,fun e=> ?_⟩
   grind [Bo]
  ·rcases a4 with a4|a4
   ·grind
   ·refine⟨fun e=>Bo a4.1.2 e,fun e=>Bo a4.2 e,fun e=> ?_⟩
    grind
theorem V9(R:pN E call n as tj bit pre fp){L:Nat→Prop}(hc:DW tj L){s:St}(I:Inv as pre fp L s){i:Nat}{a:be}(hi:as[i]? =some a)(hni: ¬L i)(hpi: ∀ps,tj[i]? =some ps→ ∀p∈ps,L p):
  ∃s',iW E call n a s=some s'∧Inv as pre fp (fun j=>L j∨j=i) s':=by
 have X:i<as.length:=(List.getElem?_eq_some_iff.1 hi).1
 obtain⟨r1,r2⟩:=R.run i a hi
 have Pb: ∀t,(t∈looks a∨a.d=some t)→ ∀(j:Nat) (U:be),as[j]? =some U→U.d=some t→(L j↔j<i):=by
  intro t ht j U D Y
  have FB:=(List.getElem?_eq_some_iff.1 D).1
  by_cases W:i=j
  ·subst W;exact wG R hc X FB hni hpi (.inl rfl)
  ·rcases either R hi D W with h|⟨h,_⟩
   ·grind [wG]
   grind [FC]
 have HX: ∀sp k,((sp,k)∈(fp i).r∨(sp,k)∈(fp i).w∨((fp i).all=true∧sp= .S))→ ∀j,j<as.length→wrote (fp j) sp k→(L j↔j<i):=by
  intro sp k ht j FB hw
  have D:as[j]? =some as[j]:=List.getElem?_eq_getElem FB
  by_cases W:i=j
  ·grind
  ·rcases either R hi D W with h|⟨_,h⟩
   ·grind [wG]
   ·exfalso
    rcases h with h|h|h
    ·obtain⟨q1,q2,q3⟩:=Ki h r2
     rcases ht with ht|ht|ht
     ·rw[q2]at ht;simp at ht
     ·rw[q3]at ht;simp at ht
     ·rw[q1]at ht;cases ht.1
    ·obtain⟨q1,q2,q3⟩:=Ki h (R.run j _ D).2
     rcases hw with hw|hw
     ·rw[q3]at hw;simp at hw
     ·rw[q1]at hw;cases hw.1
    ·obtain⟨z1,z2,z3⟩:=V8 h hw
     rcases ht with ht|ht|ht
     ·exact z1 ht
     ·exact z2 ht
     ·exact z3 ht
 have Wa:(fp i).all=true→ ∀j,j<as.length→(fp j).all=true→(L j↔j<i):=by
  intro V j FB C
  exact HX .S 0 (.inr (.inr ⟨V,rfl⟩)) j FB (.inr ⟨C,rfl⟩)
 obtain⟨s',e1,Z⟩:=Kf (s:=s) r1 r2 (fun t ht=>I.slot t i (Nat.le_of_lt X) (fun j U D Y=>Pb t (.inl ht) j U D Y))
  (fun sp k ht=>I.key sp k i (Nat.le_of_lt X) (fun j FB hw=>HX sp k (ht.elim .inl fun h=> .inr (.inl h)) j FB hw))
  (fun V=>V7 _ _ (fun k=>I.key .S k i (Nat.le_of_lt X) (fun j FB hw=>HX .S k (.inr (.inr ⟨V,rfl⟩)) j FB hw)) (I.len i (Nat.le_of_lt X) (Wa V)))
 refine⟨s',e1,fun t F Jg H=> ?_,fun sp k F Jg H=> ?_,fun F Jg H=> ?_⟩
 ·rw[Z.slot t]
  split
  ·rename_i Y
   have J:i<F:=(H i a hi Y).1 (.inr rfl)
   rw[Kj R t (i+1) F J Jg]
   intro j U D h1 h2 N
   have hL:=(H j U D N).2 h2
   have:=Pb t (.inr Y) j U D N
   rcases hL with hL|hL
   ·have:=this.1 hL;omega
   ·omega
  ·rename_i Y
   exact I.slot t F Jg (fun j U D N=>by
    have:=H j U D N
    constructor
    ·exact fun hL=>this.1 (.inl hL)
    ·intro lB
     rcases this.2 lB with hL|hL
     ·exact hL
     ·subst hL;rw[hi]at D;simp at D;subst D;exact absurd N Y)
 ·by_cases hw:wrote (fp i) sp k
  ·have J:i<F:=(H i X hw).1 (.inr rfl)
   rw[(Z.key sp k).1 hw,O9 R sp k (i+1) F J Jg]
   intro j h1 h2 O
   have FB:j<as.length:=by omega
   have hL:=(H j FB O).2 h2
   have:=HX sp k (hw.elim (fun e=> .inr (.inl e)) fun e=> .inr (.inr e)) j FB O
   rcases hL with hL|hL
   ·have:=this.1 hL;omega
   ·omega
  ·rw[(Z.key sp k).2 hw]
   exact I.key sp k F Jg (fun j FB O=>by
    have:=H j FB O
    constructor
    ·exact fun hL=>this.1 (.inl hL)
    ·intro lB
     rcases this.2 lB with hL|hL
     ·exact hL
     ·subst hL;exact absurd O hw)
 ·cases V:(fp i).all with
  |true=>
   have J:i<F:=(H i X V).1 (.inr rfl)
   rw[Z.len.1 V,Pa R (i+1) F J Jg]
   intro j h1 h2
   cases C:(fp j).all with
   |false=>rfl
   |true=>
    have FB:j<as.length:=by omega
    have hL:=(H j FB C).2 h2
    have:=Wa V j FB C
    rcases hL with hL|hL
    ·have:=this.1 hL;omega
    ·omega
  |false=>
   rw[Z.len.2 V]
   exact I.len F Jg (fun j FB C=>by
    have:=H j FB C
    constructor
    ·exact fun hL=>this.1 (.inl hL)
    ·intro lB
     rcases this.2 lB with hL|hL
     ·exact hL
     ·subst hL;rw[V]at C;cases C)
end Go.Ev
namespace Go.Ev
open Go
section
variable{P:Program}{E:Env}{call:rh}{n:Nat}{hs:List Nat}{ops:Array Oper}
theorem pO: ∀{os:List Oper} {as:List be},kK P hs ops os=some as→as.length=os.length∧ ∀(j:Nat) (o:Oper),os[j]? =some o→ ∃a,as[j]? =some a∧wv P hs ops o=some a
 | [],as,h=>by grind [kK]
 |o::os,as,h=>by
  simp only[kK]at h
  split at h
  ·rename_i a i C r
   simp at h;subst h
   obtain⟨D,F⟩:=pO r
   grind
  ·cases h
theorem Wb(O:vI P E)(U:Ag P E call){Q:Exit→Act→World→Prop}: ∀(k i:Nat) (as:List be),i+k=ops.size→kK P hs ops (ops.toList.drop i)=some as→
  ∀{B:lS} {st D:St} {a:Act} {w:World} {β:iJ} {M:im},iP B st w β M→ou st a w β M n→gV E call n as st=some D→
  (∀H w' F M',iP B D w' F M'→ou D H w' F M' n→Tr st w β M D w' F M'→w.heap.size≤w'.heap.size→Q .normal H w')→wpOps P ops Q (List.range' i k) a w
 |0,i,as,OW,r,B,st,D,a,w,β,M,h,I,C,J=>by
  have W:ops.toList.drop i= []:=List.drop_eq_nil_of_le (by simp;omega)
  rw[W]at r
  simp[kK]at r;subst r
  simp[gV]at C;subst C
  simp only[List.range',wpOps]
  exact J a w β M h I (Tr.refl _ _ _ _) (Nat.le_refl _)
 |k+1,i,as,OW,r,B,st,D,a,w,β,M,h,I,C,J=>by
  have hi:i<ops.toList.length:=by simp;omega
  rw[List.drop_eq_getElem_cons hi]at r
  simp only[kK]at r
  split at r
  ·rename_i ao N X Y
   simp at r;subst r
   simp only[gV]at C
   split at C
   ·rename_i lV Fv
    rw[List.range'_succ,wpOps_cons]
    refine sE O U (o:=ops.toList[i]) (by simp at hi ⊢) X h I Fv ?_
    intro H w' F M' Z r2 r3 V
    exact Wb O U k (i+1) N (by omega) Y Z r2 C (fun a2 w2 Wc M2 s1 s2 s3 s4=>J a2 w2 Wc M2 s1 s2 (r3.trans s3 V) (Nat.le_trans V s4))
   ·cases C
  ·cases r
theorem agc{B:lS}{s C:St}{w:World}{β:iJ}{M:im}(i: ∀sp k,C.get sp k=s.get sp k)(h:iP B s w β M):iP B C w β M:=by
 have FD:C.gens=s.gens:=by funext sp k;show(C.get sp k).g=_;rw[i]
 refine⟨fun sp k=>by rw[i,FD];exact h.obj sp k,fun sp k H k' D F e=> ?_,h.mlt,fun k r=> ?_,fun k r=> ?_,h.os,h.tape,h.output,h.size,h.same,h.keep,h.msup⟩
 ·rw[i]at D F;rw[FD]at e;exact h.dist sp k H k' D F e
 ·rw[i]at r;rw[FD];exact h.lblk k r
 ·rw[i]at r;rw[FD];exact h.sblk k r
theorem agd{s i:St}{a:Act}{w:World}{β:iJ}{M:im}(r: ∀sp k,i.get sp k=s.get sp k)(C: ∀t,an i.fr t=an s.fr t)(h:ou s a w β M n):ou i a w β M n:=by
 have FD:i.gens=s.gens:=by funext sp k;show(i.get sp k).g=_;rw[r]
 exact⟨h.size,h.defers,fun t=>by rw[FD,C];exact h.slot t⟩
theorem Wd{st s i:St}{w w':World}{β iM:iJ}{M M':im}(r: ∀sp k,i.get sp k=s.get sp k)(h:Tr st w β M s w' iM M'):Tr st w β M i w' iM M':=by
 have FD:i.gens=s.gens:=by funext sp k;show(i.get sp k).g=_;rw[r]
 exact⟨h.keep,h.beta,by rw[FD];exact h.gens⟩
theorem ah9(hE:vI P E)(hO:Ag P E call){Q:Exit→Act→World→Prop}{as:List be}{bit:Nat→Nat→Bool}{pre:Nat→St}{fp:Nat→FP}(hc:kK P hs ops ops.toList=some as)
  (R:pN E call n as (ops.toList.map jG) bit pre fp) {B:lS} {st:St} {w:World} {β:iJ} {M:im}:
  ∀(C:Nat) (r:Array Bool) (s:St) (a:Act) (D:World) (Jh:iJ) (M1:im),r.size=ops.size→((List.range ops.size).filter fun i=> !r.getD i true).length≤C→DW (ops.toList.map jG) (fun j=>r.getD j false=true)→
   Inv as pre fp (fun j=>r.getD j false=true) s→iP B s D Jh M1→ou s a D Jh M1 n→Tr st w β M s D Jh M1→w.heap.size≤D.heap.size→
   (∀J w' H M',iP B (pre as.length) w' H M'→ou (pre as.length) J w' H M' n→Tr st w β M (pre as.length) w' H M'→w.heap.size≤w'.heap.size→Q .normal J w')→
   wpAny P .any ops Q C r a D:=by
 obtain⟨hlen,Rv⟩:=pO hc
 have DY:as.length=ops.size:=by simpa using hlen
 have done: ∀(r:Array Bool) (s:St) (a:Act) (D:World) (Jh:iJ) (M1:im),r.size=ops.size→DW (ops.toList.map jG) (fun j=>r.getD j false=true)→Inv as pre fp (fun j=>r.getD j false=true) s→iP B s D Jh M1→ou s a D Jh M1 n→Tr st w β M s D Jh M1→w.heap.size≤D.heap.size→
   (∀J w' H M',iP B (pre as.length) w' H M'→ou (pre as.length) J w' H M' n→Tr st w β M (pre as.length) w' H M'→w.heap.size≤w'.heap.size→Q .normal J w')→Region.ready .any ops r= []→Q .normal a D:=by
  intro r s a D Jh M1 F W I h X Y N Z hr
  have all: ∀j,j<ops.size→r.getD j false=true:=by
   intro j
   induction j using Nat.strongRecOn with
   |_ j ih=>
    intro hj
    cases hb:r.getD j false with
    |true=>rfl
    |false=>
     exfalso
     have:j∈Region.ready .any ops r:=by
      unfold Region.ready
      rw[List.mem_filter]
      refine⟨List.mem_range.2 hj, ?_⟩
      have h1:r.getD j true=false:=by
       grind
      rw[h1]
      simp only[Bool.not_false,Bool.true_and]
      have ho:ops[j]? =some ops[j]:=Array.getElem?_eq_getElem hj
      rw[ho]
      simp only[Option.map_some,Option.getD_some]
      rw[←Array.all_toList,List.all_eq_true]
      intro e he
      cases tl:Region.binds .any e with
      |false=>rfl
      |true=>
       simp only[Bool.not_true,Bool.false_or]
       have DZ:e.on∈jG ops[j]:=by
        unfold jG
        exact List.mem_map.2 ⟨e,List.mem_filter.2 ⟨he,tl⟩,rfl⟩
       have hpj:(ops.toList.map jG)[j]? =some (jG ops[j]):=by simp[ho]
       have lB:=R.edges j _ hpj e.on DZ
       exact ih e.on lB (by omega)
     grind
  have cond: ∀j,j<as.length→(r.getD j false=true↔j<as.length):=fun j hj=>⟨fun _=>hj,fun _=>all j (by omega)⟩
  have g1: ∀sp k,(pre as.length).get sp k=s.get sp k:=fun sp k=>(I.key sp k as.length (Nat.le_refl _) (fun j hj _=>cond j hj)).symm
  have g2: ∀t,an (pre as.length).fr t=an s.fr t:=fun t=>(I.slot t as.length (Nat.le_refl _) (fun j a hj _=>cond j (List.getElem?_eq_some_iff.1 hj).1)).symm
  exact Z a D Jh M1 (agc g1 h) (agd g1 g2 X) (Wd g1 Y) N
 intro C
 induction C with
 |zero=>
  intro r s a D Jh M1 F We W I h X Y N Z
  have hr:Region.ready .any ops r= []:=by
   simp_all[Region.ready,List.filter_eq_nil_iff,Bool.and_eq_true,List.eq_nil_of_length_eq_zero]
  exact⟨hr,done r s a D Jh M1 F W I h X Y N Z hr⟩
 |succ C ih=>
  intro r s a D Jh M1 F We W I h X Y N Z
  refine⟨done r s a D Jh M1 F W I h X Y N Z,fun i hi=> ?_⟩
  unfold Region.ready at hi
  rw[List.mem_filter]at hi
  obtain⟨hir,Rw⟩:=hi
  have qI:i<ops.size:=List.mem_range.1 hir
  have ho:ops[i]? =some ops[i]:=Array.getElem?_eq_getElem qI
  rw[ho]at Rw
  simp only[Bool.and_eq_true,Bool.not_eq_true',Option.map_some,Option.getD_some]at Rw
  obtain⟨O,hn2⟩:=Rw
  have U:i<r.size:=by omega
  have Gy: ¬(r.getD i false=true):=by
   simp[Array.getD_eq_getD_getElem?,Array.getElem?_eq_getElem U]at O ⊢; exact O
  have aqB: ∀ps,(ops.toList.map jG)[i]? =some ps→ ∀p∈ps,r.getD p false=true:=by
   intro ps vV p hp
   simp[ho]at vV;subst vV
   unfold jG at hp
   obtain⟨e,he,rfl⟩:=List.mem_map.1 hp
   obtain⟨Fv,ZS⟩:=List.mem_filter.1 he
   rw[←Array.all_toList,List.all_eq_true]at hn2
   have:=hn2 e Fv
   simpa[ZS]using this
  obtain⟨ao,hao,D0⟩:=Rv i ops[i] (by simp)
  obtain⟨s',he,I'⟩:=V9 R W I hao Gy aqB
  refine sE hE hO ho D0 h X he ?_
  intro J w' H M' r1 r2 r3 r4
  have J8: ∀j,(r.setIfInBounds i true).getD j false=true↔(r.getD j false=true∨j=i):=by
   intro j
   simp only[Array.getD_eq_getD_getElem?,Array.getElem?_setIfInBounds]
   by_cases hj:i=j
   ·subst hj;simp[U]
   ·rw[if_neg hj]
    exact⟨.inl,fun e=>e.resolve_right (fun e=>hj e.symm)⟩
  refine ih (r.setIfInBounds i true) s' J w' H M' (by simp[F]) ?_ ?_ ?_ r1 r2 (Y.trans r3 N) (Nat.le_trans N r4) Z
  ·have hfe:(List.range ops.size).filter (fun j=> !(r.setIfInBounds i true).getD j true)=((List.range ops.size).filter (fun j=> !r.getD j true)).filter (fun j=>decide (j≠i)):=by
    rw[List.filter_filter]
    apply List.filter_congr
    intro j hj
    simp only[Array.getD_eq_getD_getElem?,Array.getElem?_setIfInBounds]
    by_cases V:i=j
    ·subst V;simp[U]
    ·have: ¬j=i:=fun e=>V e.symm
     rw[if_neg V];simp[this]
   rw[hfe]
   have lB:(((List.range ops.size).filter (fun j=> !r.getD j true)).filter (fun j=>decide (j≠i))).length<((List.range ops.size).filter (fun j=> !r.getD j true)).length:=by
    rw[List.length_filter_lt_length_iff_exists]
    exact⟨i,List.mem_filter.2 ⟨hir,by rw[O];rfl⟩,by simp⟩
   omega
  ·intro j ps vV hj p hp
   rw[J8]at hj ⊢
   rcases hj with hj|hj
   ·exact .inl (W j ps vV hj p hp)
   ·subst hj;exact .inl (aqB ps vV p hp)
  ·have:(fun j=>(r.setIfInBounds i true).getD j false=true)=(fun j=>r.getD j false=true∨j=i):=by funext j;exact propext (J8 j)
   rw[this];exact I'
end
end Go.Ev
namespace Go.Ev
open Go
def aib:Out→Exit
 | .nrm=> .normal
 | .ext id=> .exit id
 | .ret=> .ret
section
variable{P:Program}{E:Env}{call:rh}{n:Nat}{hs:List Nat}
theorem Wf{l:List Nat}{j:Nat}(h:j<l.length):l[j]? =some (iy 0 l j):=by
 induction l generalizing j with
 |nil=>simp at h
 |cons x xs ih=>
  cases j with
  |zero=>rfl
  |succ j=>grind [iy]
theorem Wg(hE:vI P E)(hO:Ag P E call)(hm:P.follows .mixedOrders=true){id:Nat}{ops:Array Oper}{as:List be}(Z:kK P hs ops ops.toList=some as)(Fv:zK 0 (ops.toList.map jG)=true)(ZS:zL (rC (ops.toList.map jG) []) [] as=true)
  {B:lS} {st I:St} {a:Act} {w:World} {β:iJ} {M:im} (h:iP B st w β M) (O:ou st a w β M n) (U:iK E call n (tG (rC (ops.toList.map jG) []) [] as) [] st=some I) {Q:Exit→Act→World→Prop}
  (hq: ∀H w' V M',iP B I w' V M'→ou I H w' V M' n→Tr st w β M I w' V M'→w.heap.size≤w'.heap.size→Q .normal H w'):(Code.region id ops true).wp P Q a w:=by
 obtain⟨C,Rv⟩:=pO Z
 obtain⟨m1,m2,m3⟩:=DT (ops.toList.map jG) []
 have ZY:(rC (ops.toList.map jG) []).length=as.length:=by rw[m1,C];simp
 obtain⟨pre,fp,W,p2,p3⟩:=DV as [] _ [] st I rfl ZY U
 have F: ∀j,j<as.length→(rC (ops.toList.map jG) [])[j]? =some (iy 0 (rC (ops.toList.map jG) []) j):=fun j r=>Wf (by rw[ZY];exact r)
 have X:=Ah _ 0 Fv
 have R:pN E call n as (ops.toList.map jG) (fun j i=>(iy 0 (rC (ops.toList.map jG) []) j).testBit i) pre fp:=by
  refine⟨by rw[C];simp,fun j ps r p hp=>by have:=X j ps r p hp;omega,fun j ps r i=> ?_,fun j H r=> ?_,fun j a1 k a2 r hk D hb=> ?_,fun j a1 k a2 r hk D hb Kh GA=> ?_⟩
  ·have:=m3 j ps r i
   simp only[List.length_nil,Nat.zero_add]at this
   grind
  ·obtain⟨e1,e2,_⟩:=p3 j H _ r (F j (List.getElem?_eq_some_iff.1 r).1)
   grind
  ·exact Ai as [] _ ZS j a1 r _ (F j (List.getElem?_eq_some_iff.1 r).1) k a2 (by simpa using D) (by simpa using hk) hb
  ·obtain⟨_,_,e3⟩:=p3 j a1 _ r (F j (List.getElem?_eq_some_iff.1 r).1)
   simp_all
 obtain⟨d1,d2⟩:=HM h (w.drawn+1)
 refine wp_region_any hm ?_
 have J: ∀j,((Array.replicate ops.size false).getD j false=true)↔False:=by
  intro j
  simp only[Array.getD_eq_getD_getElem?,Array.getElem?_replicate]
  split <;> simp
 have hI:Inv as pre fp (fun j=>(Array.replicate ops.size false).getD j false=true) st:=by
  have Y:(fun j=>(Array.replicate ops.size false).getD j false=true)=fun _=>False:=by funext j;exact propext (J j)
  rw[Y]
  refine⟨fun t i hi N=> ?_,fun sp k i hi N=> ?_,fun i hi N=> ?_⟩
  ·rw[Kj R t 0 i (Nat.zero_le _) hi (fun j H r _ D hd=>(N j H r hd).2 D),W]
  ·rw[O9 R sp k 0 i (Nat.zero_le _) hi (fun j _ D hw=>(N j (by omega) hw).2 D),W]
  ·rw[Pa R 0 i (Nat.zero_le _) hi (fun j _ D=>by
    cases J3:(fp j).all with
    |false=>rfl
    |true=>exact((N j (by omega) J3).2 D).elim),W]
 refine ah9 (st:=st) (w:=w) (β:=β) (M:=M) hE hO Z R ops.size _ st a _ β M (by simp) ?_ ?_ hI d1 ⟨O.size,O.defers,fun t=>d2.val (O.slot t)⟩ d2 (Nat.le_refl _) ?_
 ·exact Nat.le_trans (List.length_filter_le _ _) (by simp)
 ·intro j ps _ r
  exact((J j).1 r).elim
 grind
theorem lZ{ops:Array Oper}{L:Array Bool}{i:Nat}(hi:i<ops.size):i∈Region.ready .any ops L↔L.getD i true=false∧ ∀p∈jG ops[i],L.getD p false=true:=by
 have r:ops[i]? =some ops[i]:=Array.getElem?_eq_getElem hi
 unfold Region.ready
 rw[List.mem_filter,List.mem_range,r]
 simp only[Bool.and_eq_true,Bool.not_eq_true',Option.map_some,Option.getD_some,hi,true_and]
 refine and_congr_right fun _=> ?_
 rw[←Array.all_toList,List.all_eq_true]
 grind [jG]
theorem tK{ops:Array Oper}{L:Array Bool}{i:Nat}(h:i∈Region.ready .any ops L):i<ops.size:=by
 grind [Region.ready]
theorem mc{o:be}{os:List be}{st s:St}(h:gV E call n (o::os) st=some s): ∃t,iW E call n o st=some t∧gV E call n os t=some s:=by
 grind [gV]
theorem aaV(hE:vI P E)(hO:Ag P E call)(hm:P.follows .mixedOrders=true){id:Nat}{ops:Array Oper}{o0 o1 o2 o3:be}(hc:kK P hs ops ops.toList=some [o0,o1,o2,o3])(C:HL (ops.toList.map jG)=true)
  {B:lS} {st s1 s2:St} {a:Act} {w:World} {β:iJ} {M:im} (h:iP B st w β M) (hf:ou st a w β M n) (N:gV E call n [o0,o1,o2,o3] st=some s1) (O:gV E call n [o0,o2,o1,o3] st=some s2) {Q:Exit→Act→World→Prop}
  (q1: ∀F w' r M',iP B s1 w' r M'→ou s1 F w' r M' n→Tr st w β M s1 w' r M'→w.heap.size≤w'.heap.size→Q .normal F w')
  (q2: ∀F w' r M',iP B s2 w' r M'→ou s2 F w' r M' n→Tr st w β M s2 w' r M'→w.heap.size≤w'.heap.size→Q .normal F w'):(Code.region id ops true).wp P Q a w:=by
 obtain⟨hlen,Rv⟩:=pO hc
 have pY:ops.size=4:=by simpa using hlen.symm
 obtain⟨t0,f0,N⟩:=mc N
 obtain⟨t1,f1,N⟩:=mc N
 obtain⟨t2,f2,N⟩:=mc N
 obtain⟨t3,f3,N⟩:=mc N
 simp only[gV,Option.some.injEq]at N
 subst N
 obtain⟨t0',g0,O⟩:=mc O
 obtain⟨u1,g1,O⟩:=mc O
 obtain⟨u2,g2,O⟩:=mc O
 obtain⟨u3,g3,O⟩:=mc O
 simp only[gV,Option.some.injEq]at O
 subst O
 rw[f0]at g0
 injection g0 with g0
 subst g0
 have jZ: ∀j (hj:j<ops.size) (ao:be),[o0,o1,o2,o3][j]? =some ao→wv P hs ops ops[j]=some ao:=by
  intro j hj ao hao
  obtain⟨x,hx,hy⟩:=Rv j ops[j] (by simp)
  grind
 have vV: ∃p1 p2 p3,ops.toList.map jG= [[],p1,p2,p3]∧0∈p1∧0∈p2∧(∀x∈p1,x<1)∧(∀x∈p2,x<1)∧1∈p3∧2∈p3∧ ∀x∈p3,x<3:=by
  unfold HL at C
  grind
 obtain⟨p1,p2,p3,aBx,a1,a2,b1,b2,c1,c2,c3⟩:=vV
 have U: ∀j (hj:j<ops.size) (ps:List Nat),[[],p1,p2,p3][j]? =some ps→jG ops[j]=ps:=by
  grind
 have V:0<ops.size:=by omega
 have D:1<ops.size:=by omega
 have I:2<ops.size:=by omega
 have W:3<ops.size:=by omega
 have r0:=U 0 V [] rfl
 have r1:=U 1 D p1 rfl
 have r2:=U 2 I p2 rfl
 have r3:=U 3 W p3 rfl
 obtain⟨d1,d2⟩:=HM h (w.drawn+1)
 refine wp_region_any hm ?_
 rw[pY]
 have base:ou st a {w with drawn:=w.drawn+1} β M n:=⟨hf.size,hf.defers,fun t=>d2.val (hf.slot t)⟩
 have sz0:w.heap.size≤{w with drawn:=w.drawn+1}.heap.size:=Nat.le_refl _
 have last: ∀(t s:St),iW E call n o3 t=some s→(∀F w' r M',iP B s w' r M'→ou s F w' r M' n→Tr st w β M s w' r M'→w.heap.size≤w'.heap.size→Q .normal F w')→
   ∀F w' r M',iP B t w' r M'→ou t F w' r M' n→Tr st w β M t w' r M'→w.heap.size≤w'.heap.size→wpAny P .any ops Q 1 #[true,true,true,false] F w':=by
  intro t s he hq F w' r M' x1 x2 x3 X
  refine⟨fun Y=> ?_,fun i hi=> ?_⟩
  ·have:3∈Region.ready .any ops #[true,true,true,false]:=(lZ W).2 ⟨rfl,fun p C=>by
    rw[r3]at C
    have:=c3 p C
    have:p=0∨p=1∨p=2:=by omega
    rcases this with rfl|rfl|rfl <;> rfl⟩
   rw[Y]at this;cases this
  ·have J:=tK hi
   obtain⟨H,_⟩:=(lZ J).1 hi
   have:i=0∨i=1∨i=2∨i=3:=by omega
   rcases this with rfl|rfl|rfl|rfl
   ·cases H
   ·cases H
   ·cases H
   ·refine sE hE hO (o:=ops[3]) (Array.getElem?_eq_getElem W) (jZ 3 W o3 rfl) x1 x2 he ?_
    intro a2 w2 Wc M2 z1 z2 z3 z4
    have hr0:Region.ready .any ops (#[true,true,true,false].setIfInBounds 3 true)= []:=by
     rw[List.eq_nil_iff_forall_not_mem]
     intro i hi
     have J:=tK hi
     obtain⟨H,_⟩:=(lZ J).1 hi
     have:i=0∨i=1∨i=2∨i=3:=by omega
     rcases this with rfl|rfl|rfl|rfl <;> cases H
    exact⟨hr0,hq a2 w2 Wc M2 z1 z2 (x3.trans z3 X) (Nat.le_trans X z4)⟩
 refine⟨fun Y=> ?_,fun i hi=> ?_⟩
 ·have:0∈Region.ready .any ops (Array.replicate 4 false):=(lZ V).2 ⟨rfl,fun p C=>by rw[r0]at C;cases C⟩
  rw[Y]at this;cases this
 ·have J:=tK hi
  obtain⟨H,Z⟩:=(lZ J).1 hi
  have:i=0∨i=1∨i=2∨i=3:=by omega
  rcases this with rfl|rfl|rfl|rfl
  ·refine sE hE hO (o:=ops[0]) (Array.getElem?_eq_getElem V) (jZ 0 V o0 rfl) d1 base f0 ?_
   intro F w' r M' x1 x2 x3 X
   have x3':Tr st w β M t0 w' r M':=d2.trans x3 sz0
   show wpAny P .any ops Q 3 #[true,false,false,false] F w'
   refine⟨fun Y=> ?_,fun i hi=> ?_⟩
   ·have:1∈Region.ready .any ops #[true,false,false,false]:=(lZ D).2 ⟨rfl,fun p C=>by
     rw[r1]at C
     have:=b1 p C
     have:p=0:=by omega
     subst this;rfl⟩
    rw[Y]at this;cases this
   ·have J:=tK hi
    obtain⟨H,Z⟩:=(lZ J).1 hi
    have:i=0∨i=1∨i=2∨i=3:=by omega
    rcases this with rfl|rfl|rfl|rfl
    ·cases H
    ·refine sE hE hO (o:=ops[1]) (Array.getElem?_eq_getElem D) (jZ 1 D o1 rfl) x1 x2 f1 ?_
     intro a2 w2 Wc M2 z1 z2 z3 z4
     have z3':=x3'.trans z3 X
     show wpAny P .any ops Q 2 #[true,true,false,false] a2 w2
     refine⟨fun Y=> ?_,fun i hi=> ?_⟩
     ·have:2∈Region.ready .any ops #[true,true,false,false]:=(lZ I).2 ⟨rfl,fun p C=>by
       rw[r2]at C
       have:=b2 p C
       have:p=0:=by omega
       subst this;rfl⟩
      rw[Y]at this;cases this
     ·have J:=tK hi
      obtain⟨H,Z⟩:=(lZ J).1 hi
      have:i=0∨i=1∨i=2∨i=3:=by omega
      rcases this with rfl|rfl|rfl|rfl
      ·cases H
      ·cases H
      ·refine sE hE hO (o:=ops[2]) (Array.getElem?_eq_getElem I) (jZ 2 I o2 rfl) z1 z2 f2 ?_
       intro a3 w3 β3 M3 v1 v2 v3 v4
       exact last t2 t3 f3 q1 a3 w3 β3 M3 v1 v2 (z3'.trans v3 (Nat.le_trans X z4)) (Nat.le_trans X (Nat.le_trans z4 v4))
      ·have:=Z 2 (by rw[r3];exact c2);cases this
    ·refine sE hE hO (o:=ops[2]) (Array.getElem?_eq_getElem I) (jZ 2 I o2 rfl) x1 x2 g1 ?_
     intro a2 w2 Wc M2 z1 z2 z3 z4
     have z3':=x3'.trans z3 X
     show wpAny P .any ops Q 2 #[true,false,true,false] a2 w2
     refine⟨fun Y=> ?_,fun i hi=> ?_⟩
     ·have:1∈Region.ready .any ops #[true,false,true,false]:=(lZ D).2 ⟨rfl,fun p C=>by
       rw[r1]at C
       have:=b1 p C
       have:p=0:=by omega
       subst this;rfl⟩
      rw[Y]at this;cases this
     ·have J:=tK hi
      obtain⟨H,Z⟩:=(lZ J).1 hi
      have:i=0∨i=1∨i=2∨i=3:=by omega
      rcases this with rfl|rfl|rfl|rfl
      ·cases H
      ·refine sE hE hO (o:=ops[1]) (Array.getElem?_eq_getElem D) (jZ 1 D o1 rfl) z1 z2 g2 ?_
       intro a3 w3 β3 M3 v1 v2 v3 v4
       exact last u2 u3 g3 q2 a3 w3 β3 M3 v1 v2 (z3'.trans v3 (Nat.le_trans X z4)) (Nat.le_trans X (Nat.le_trans z4 v4))
      ·cases H
      ·have:=Z 1 (by rw[r3];exact c1);cases this
    ·have:=Z 1 (by rw[r3];exact c1);cases this
  ·have:=Z 0 (by rw[r1];exact a1);cases this
  ·have:=Z 0 (by rw[r2];exact a2);cases this
  ·have:=Z 1 (by rw[r3];exact c1);cases this
theorem tL(ks:List Nat)(f:Fr)(j:Nat):an (zJ ks f) j=if j∈ks then .any else an f j:=by
 induction ks with
 |nil=>simp[zJ]
 |cons k ks ih=>
  grind [zJ,re]
theorem GB(ks:List Nat)(l i:hJ gR)(j:Nat):hJ.get lA (Dx ks l i) j=if j∈ks then⟨max (hJ.get lA l j).g (hJ.get lA i j).g,.none⟩else hJ.get lA l j:=by
 induction ks with
 |nil=>simp[Dx]
 |cons k ks ih=>
  grind [Dx,hJ.get_set]
theorem wH(ks:List Nat)(s t:St)(sp:Sp)(k:Nat):(tD ks s t).get sp k=if sp= .L∧k∈ks then⟨max (s.get sp k).g (t.get sp k).g,.none⟩else s.get sp k:=by
 cases sp with
 |S=>rw[if_neg (by simp)];rfl
 |L=>
  show hJ.get lA (Dx ks s.lh t.lh) k=_
  rw[GB]
  by_cases h:k∈ks
  ·rw[if_pos h,if_pos ⟨rfl,h⟩];rfl
  ·rw[if_neg h,if_neg (by simp[h])];rfl
theorem Bp(ks:List Nat)(s t:St)(sp:Sp)(k:Nat):s.gens sp k≤(tD ks s t).gens sp k:=by
 show(s.get sp k).g≤((tD ks s t).get sp k).g
 rw[wH]
 grind
theorem tM{ks:List Nat}{s t:St}{sp:Sp}{k:Nat}(h:live ((tD ks s t).get sp k)):(tD ks s t).get sp k=s.get sp k∧live (s.get sp k):=by
 rw[wH]at h ⊢
 split at h
 ·exact h.elim
 ·grind
theorem uW{ks:List Nat}{s t:St}{sp:Sp}{k:Nat}(h:live ((tD ks s t).get sp k)):(tD ks s t).gens sp k=s.gens sp k:=by
 show((tD ks s t).get sp k).g=(s.get sp k).g
 rw[(tM h).1]
theorem Wh(ks:List Nat)(t:St){B:lS}{s:St}{w:World}{β:iJ}{M:im}(h:iP B s w β M):iP B (tD ks s t) w β M:=by
 refine⟨fun sp k=> ?_,fun sp k D k' r C e=> ?_,h.mlt,fun k i=> ?_,fun k i=> ?_,h.os,h.tape,h.output,h.size,h.same,h.keep,h.msup⟩
 ·rw[wH]
  split
  ·unfold kQ;trivial
  ·exact kQ.mono (kM.refl w M) (fun _ _ _ _=>rfl) (Bp ks s t) (Nat.le_refl _) (fun _=>rfl) (fun _ _ h=>h) (h.obj sp k)
 ·rw[uW r,uW C]at e;exact h.dist sp k D k' (tM r).2 (tM C).2 e
 ·rw[uW i];exact h.lblk k (tM i).2
 ·rw[uW i];exact h.sblk k (tM i).2
theorem Wi(ks:List Nat)(t:St){s:St}{a:Act}{w:World}{β:iJ}{M:im}(h:ou s a w β M n):ou (tD ks s t) a w β M n:=by
 refine⟨h.size,h.defers,fun i=> ?_⟩
 show gW β (tD ks s t).gens w M (an (zJ ks s.fr) i) _
 rw[tL]
 split
 ·simp only[gW]
 ·exact gW.mono (kM.refl w M) (fun _ _ _ _=>rfl) (Bp ks s t) _ _ (h.slot i)
theorem Wj(ks:List Nat)(t:St){st s:St}{w w':World}{β iM:iJ}{M M':im}(h:Tr st w β M s w' iM M'):Tr st w β M (tD ks s t) w' iM M':=⟨h.keep,h.beta,fun sp k=>Nat.le_trans (h.gens sp k) (Bp ks s t sp k)⟩
theorem D1{ks:List Nat}{s t:St}(h:Dy ks s t)(sp:Sp)(k:Nat):(tD ks s t).get sp k=(tD ks t s).get sp k:=by
 obtain⟨r,_,C⟩:=h
 cases sp with
 |S=>show jr s.sh k=jr t.sh k;rw[r]
 |L=>
  rw[wH,wH]
  by_cases i:k∈ks
  ·grind
  ·rw[if_neg (by simp[i]),if_neg (by simp[i])]
   exact C k i
theorem aaW{ks:List Nat}{s t:St}(h:Dy ks s t)(k:Nat):an (tD ks s t).fr k=an (tD ks t s).fr k:=by
 show an (zJ ks s.fr) k=an (zJ ks t.fr) k
 rw[tL,tL]
 split
 ·rfl
 ·rename_i i;exact h.2.1 k i
theorem yG{ks:List Nat}{C D:Option (Out×St)}{o:Out}{s:St}(h:OK ks C D=some (o,s)): ∃i r,C=some (o,i)∧D=some (o,r)∧Dy ks i r∧s=tD ks i r:=by
 unfold OK at h
 grind
theorem Kk(a:Code)(r i:gT):OL P hs a r i= .seq r i∨ ∃id ops C D F H,a= .region id ops true∧kK P hs ops ops.toList=some [C,D,F,H]∧HL (ops.toList.map jG)=true∧OL P hs a r i= .fork [C,D,F,H] [C,F,D,H] i:=by
 unfold OL
 grind
theorem aie(hE:vI P E)(hO:Ag P E call)(hm:P.follows .mixedOrders=true)(fl:Nat): ∀(c:Code) (ac:gT),nA P hs c=some ac→
  ∀{B:lS} {st X:St} {a:Act} {w:World} {β:iJ} {M:im} {o:Out},iP B st w β M→ou st a w β M n→mT E call fl n ac st=some (o,X)→ ∀{Q:Exit→Act→World→Prop},
  (∀N w' O M',iP B X w' O M'→ou X N w' O M' n→Tr st w β M X w' O M'→w.heap.size≤w'.heap.size→Q (aib o) N w')→c.wp P Q a w:=by
 intro c
 induction c with
 |skip=>
  intro ac r B st X a w β M o h D i Q C
  simp[nA]at r;subst r
  simp[mT]at i;obtain⟨rfl,rfl⟩:=i
  exact wp_skip (C a w β M h D (Tr.refl _ _ _ _) (Nat.le_refl _))
 |region id ops draw=>
  intro ac r B st X a w β M o h D i Q C
  cases draw with
  |false=>
   simp only[nA,Option.map_eq_some_iff]at r
   obtain⟨as,I,rfl⟩:=r
   simp only[mT,Option.map_eq_some_iff]at i
   obtain⟨Z,h2,h3⟩:=i
   simp at h3;obtain⟨rfl,rfl⟩:=h3
   refine wp_region ?_
   rw[List.range_eq_range']
   exact Wb hE hO ops.size 0 as (by omega) (by simpa using I) h D h2 C
  |true=>
   simp only[nA]at r
   split at r
   ·rename_i as I
    split at r
    ·rename_i zh
     simp only[Bool.and_eq_true]at zh
     simp at r;subst r
     simp only[mT,Option.map_eq_some_iff]at i
     obtain⟨Z,h2,h3⟩:=i
     simp at h3;obtain⟨rfl,rfl⟩:=h3
     exact Wg hE hO hm I zh.1 zh.2 h D h2 C
    ·cases r
   ·cases r
 |seq x y Y Wk=>
  intro ac r B st X a w β M o h D i Q C
  simp only[nA]at r
  split at r
  ·rename_i H ay I h2
   simp only[Option.some.injEq]at r
   rcases Kk (P:=P) (hs:=hs) x H ay with hj|⟨id,ops,o0,o1,o2,o3,rfl,D0,Pc,hj⟩
   rotate_left
   ·rw[hj]at r
    subst r
    simp only[mT]at i
    split at i
    ·rename_i s1 s2 e1 e2
     obtain⟨t1,t2,g1,g2,qJ,rfl⟩:=yG i
     refine wp_seq ?_
     refine aaV hE hO hm D0 Pc h D e1 e2 ?_ ?_
     ·intro N w' O M' U V W J
      exact Wk ay h2 U V g1 (fun a2 w2 Wc M2 z1 z2 z3 z4=>C a2 w2 Wc M2 (Wh _ _ z1) (Wi _ _ z2) (Wj _ _ (W.trans z3 J)) (Nat.le_trans J z4))
     ·intro N w' O M' U V W J
      exact Wk ay h2 U V g2 (fun a2 w2 Wc M2 z1 z2 z3 z4=>C a2 w2 Wc M2 (agc (D1 qJ) (Wh _ _ z1)) (agd (D1 qJ) (aaW qJ) (Wi _ _ z2)) (Wd (D1 qJ) (Wj _ _ (W.trans z3 J))) (Nat.le_trans J z4))
    ·cases i
   rw[hj]at r
   subst r
   simp only[mT]at i
   refine wp_seq ?_
   cases F:mT E call fl n H st with
   |none=>simp[F]at i
   |some p=>
    obtain⟨ox,Z⟩:=p
    cases ox with
    |nrm=>
     simp only[F]at i
     refine Y H I h D F ?_
     intro N w' O M' U V W J
     exact Wk ay h2 U V i (fun a2 w2 Wc M2 s1 s2 s3 s4=>C a2 w2 Wc M2 s1 s2 (W.trans s3 J) (Nat.le_trans J s4))
    |ext id=>
     simp[F]at i;obtain⟨rfl,rfl⟩:=i
     exact Y H I h D F C
    |ret=>
     simp[F]at i;obtain⟨rfl,rfl⟩:=i
     exact Y H I h D F C
  ·cases r
 |cond c x y Y Wk=>
  intro ac r B st X a w β M o h D i Q C
  simp only[nA]at r
  split at r
  ·rename_i c' H ay h0 I h2
   simp at r;subst r
   simp only[mT]at i
   have vc:=VP D c c' h0
   split at i
   ·rename_i e
    rw[e]at vc
    exact wp_cond_true vc.bool (Y H I h D i C)
   ·rename_i e
    rw[e]at vc
    exact wp_cond_false vc.bool (Wk ay h2 h D i C)
   ·cases i
  ·cases r
 |block id x ih=>
  intro ac r B st X a w β M o h D i Q C
  simp only[nA,Option.map_eq_some_iff]at r
  obtain⟨H,I,rfl⟩:=r
  simp only[mT]at i
  refine wp_block ?_
  cases F:mT E call fl n H st with
  |none=>simp[F]at i
  |some p=>
   obtain⟨ox,Z⟩:=p
   cases ox with
   |nrm=>simp[F]at i;obtain⟨rfl,rfl⟩:=i;exact ih H I h D F C
   |ret=>simp[F]at i;obtain⟨rfl,rfl⟩:=i;exact ih H I h D F C
   |ext Rf=>
    simp only[F]at i
    by_cases hid:Rf=id
    ·simp only[hid,if_true,Option.some.injEq,Prod.mk.injEq]at i
     obtain⟨rfl,rfl⟩:=i
     refine ih H I h D F ?_
     intro N w' O M' U V W J
     show Exit.inBlock id Q (.exit Rf) N w'
     simp only[Exit.inBlock,hid,if_true]
     exact C N w' O M' U V W J
    ·simp only[hid,if_false,Option.some.injEq,Prod.mk.injEq]at i
     obtain⟨rfl,rfl⟩:=i
     refine ih H I h D F ?_
     intro N w' O M' U V W J
     show Exit.inBlock id Q (.exit Rf) N w'
     simp only[Exit.inBlock,hid,if_false]
     exact C N w' O M' U V W J
 |loop x ih=>
  intro ac r B st X a w β M o h D i Q C
  simp only[nA,Option.map_eq_some_iff]at r
  obtain⟨H,I,rfl⟩:=r
  simp only[mT]at i
  have key: ∀(m:Nat) (Z:St) (a1:Act) (w1:World) (Jh:iJ) (M1:im),iP B Z w1 Jh M1→ou Z a1 w1 Jh M1 n→Tr st w β M Z w1 Jh M1→w.heap.size≤w1.heap.size→iter (mT E call fl n H) m Z=some (o,X)→Code.rounds P x Q m a1 w1:=by
   intro m
   induction m with
   |zero=>grind [iter]
   |succ m ihm=>
    intro Z a1 w1 Jh M1 g1 g2 g3 g4 hi
    rw[rounds_succ]
    simp only[iter]at hi
    cases F:mT E call fl n H Z with
    |none=>simp[F]at hi
    |some p=>
     obtain⟨ox,Bm⟩:=p
     cases ox with
     |nrm=>
      simp only[F]at hi
      refine ih H I g1 g2 F ?_
      intro N w' O M' U V W J
      exact ihm Bm N w' O M' U V (g3.trans W g4) (Nat.le_trans g4 J) hi
     |ext id=>
      simp[F]at hi;obtain⟨rfl,rfl⟩:=hi
      refine ih H I g1 g2 F ?_
      intro N w' O M' U V W J
      exact C N w' O M' U V (g3.trans W g4) (Nat.le_trans g4 J)
     |ret=>
      simp[F]at hi;obtain⟨rfl,rfl⟩:=hi
      refine ih H I g1 g2 F ?_
      intro N w' O M' U V W J
      exact C N w' O M' U V (g3.trans W g4) (Nat.le_trans g4 J)
  exact wp_loop_rounds fl (key fl st a w β M h D (Tr.refl _ _ _ _) (Nat.le_refl _) i)
 |exit id=>
  intro ac r B st X a w β M o h D i Q C
  simp[nA]at r;subst r
  simp[mT]at i;obtain⟨rfl,rfl⟩:=i
  exact wp_exit (C a w β M h D (Tr.refl _ _ _ _) (Nat.le_refl _))
 |ret=>
  intro ac r B st X a w β M o h D i Q C
  simp[nA]at r;subst r
  simp[mT]at i;obtain⟨rfl,rfl⟩:=i
  exact wp_ret (C a w β M h D (Tr.refl _ _ _ _) (Nat.le_refl _))
 |rangeFunc _ _ _ _=>grind [nA]
 |scope _=>grind [nA]
 |label _=>grind [nA]
 |goto _=>grind [nA]
 |refuse _=>grind [nA]
end
end Go.Ev
namespace Go.Ev
open Go
section
variable{P:Program}{E:Env}{n:Nat}
def HY(ts:Array Value)(r:ResultVar):Sem Value:=
 match r with
 | .tmp t=>pure (ts.getD t undef)
 | .cell i t=>do loadVar t (←asAddr (ts.getD i undef))
theorem ML(r:Func)(ts:Array Value):results r ts=(do
  let i ←(List.toArray <$> r.results.toList.mapM (HY ts))
  pure (if h:i.size=1 then i[0]else .tuple i)):=by
 unfold results
 rw[Array.mapM_eq_mapM_toList]
 congr 2
theorem yH{B:lS}{st:St}{a:Act}{w:World}{β:iJ}{M:im}(h:iP B st w β M)(J:ou st a w β M n): ∀(F:List ResultVar) (r:List qt) (I:List T),uO P F=some r→nY st r=some I→
  ∃H:List Value,(F.mapM (HY a.tmps)).run P w=Result.ok H w∧gY β st.gens w M I H
 | [],r,I,C,i=>by
   simp_all[uO,nY,gY]
 | .tmp t::F,r,I,C,i=>by
   simp only[uO,Option.map_eq_some_iff]at C
   obtain⟨D,O,rfl⟩:=C
   simp only[nY,JQ]at i
   split at i
   ·rename_i v Bg N U
    simp at i N;subst i;subst N
    obtain⟨H,V,W⟩:=yH h J F D Bg O U
    refine⟨a.tmps.getD t undef::H, ?_, ?_⟩
    ·grind [HY,Sem.run_bind,Sem.run_pure,Result.andThen_ok]
    ·simp only[gY];exact⟨_,_,rfl,J.slot t,W⟩
   ·cases i
 | .cell X t::F,r,I,C,i=>by
   simp only[uO]at C
   split at C
   ·rename_i sz ag D O Y Z
    simp at C;subst C
    simp only[nY,JQ]at i
    split at i
    ·rename_i v Bg N U
     simp at i;subst i
     obtain⟨H,V,W⟩:=yH h J F D Bg Z U
     obtain⟨ad',cv,q1,q2,q3⟩:=JZ (P:=P) h O Y (J.slot X) N
     refine⟨cv::H, ?_, ?_⟩
     ·rw[List.mapM_cons]
      simp only[HY,Sem.run_bind,q1,asAddr,Sem.run_pure,Result.andThen_ok,q2,V]
     ·grind [gY]
    ·cases i
   ·cases C
theorem Rx{β:iJ}{G:Sp→Nat→Nat}{w:World}{M:im}{args:List T}{r:Array Value}(D:gY β G w M args r.toList)(k:Nat)(t:Nat):gW β G w M (an (pe args) t) ((r++Array.replicate k undef).getD t undef):=by
 have i:=gY.length _ _ D
 by_cases H:t<args.length
 ·have I:args[t]? =some args[t]:=List.getElem?_eq_getElem H
  obtain⟨cv,J,U⟩:=D.get I
  have F:an (pe args) t=args[t]:=by
   rw[Gn]
   have: ∀(l:List T) (j:Nat) (C:j<l.length),iy iY l j=l[j]:=by
    intro l
    induction l with
    |nil=>grind
    |cons x xs ih=>intro j C;cases j with|zero=>rfl|succ j=>exact ih j (by simpa using C)
   grind
  have N:r[t]? =some cv:=by simpa using J
  have V:t<r.size:=by simp at i;omega
  simp_all[Array.getD_eq_getD_getElem?,Array.getElem?_append_left]
 ·have F:an (pe args) t=iY:=by
   rw[Gn]
   have: ∀(l:List T) (j:Nat),l.length≤j→iy iY l j=iY:=by
    intro l
    induction l with
    |nil=>intro j _;rfl
    |cons x xs ih=>intro j C;cases j with|zero=>simp at C|succ j=>exact ih j (by simpa using C)
   grind
  have O:(r++Array.replicate k undef).getD t undef=undef:=by
   rw[Array.getD_eq_getD_getElem?,Array.getElem?_append_right (by simp at i;omega),Array.getElem?_replicate]
   split <;> rfl
  rw[F,O]
  simp[gW,iY,undef,gY]
def pack:List T→T
 | [v]=>v
 |vs=> .tup vs
theorem MM{keep:Bool}{n:Nat}:fz keep (n+1) .nilsl= .ret (.nilsl,[]):=rfl
theorem Aj{f:T→Q (T×List Up)}{h:Sp→Nat→gR}{r:Nat}(H:f .nilsl= .ret (.nilsl,[])): ∀(ts:List T) {j:Nat} {q:List T×List Up},(iZ f ts).run h r=some q→ts[j]? =some .nilsl→q.1[j]? =some .nilsl
 | [],j,q,_,C=>by simp at C
 |t::ts,j,q,i,C=>by
  simp only[iZ,Q.run_bind]at i
  cases F:(f t).run h r with
  |none=>simp[F]at i
  |some p=>
   simp only[F,Option.bind_some]at i
   cases D:(iZ f ts).run h r with
   |none=>simp[D]at i
   |some I=>
    simp only[D,Option.bind_some,Q.run,Option.some.injEq]at i
    subst i
    cases j with
    |zero=>
     grind [Q.run]
    |succ j=>simpa using Aj H ts D (by simpa using C)
theorem HZ{f:T→Q (T×List Up)}{h:Sp→Nat→gR}{r:Nat}: ∀(ts:List T) {j:Nat} {q:List T×List Up} {x:T},(iZ f ts).run h r=some q→ts[j]? =some x→ ∃p,(f x).run h r=some p∧q.1[j]? =some p.1
 | [],j,q,x,_,C=>by simp at C
 |t::ts,j,q,x,i,C=>by
  simp only[iZ,Q.run_bind]at i
  cases F:(f t).run h r with
  |none=>simp[F]at i
  |some p=>
   simp only[F,Option.bind_some]at i
   cases D:(iZ f ts).run h r with
   |none=>simp[D]at i
   |some H=>
    simp only[D,Option.bind_some,Q.run,Option.some.injEq]at i
    subst i
    cases j with
    |zero=>grind
    |succ j=>simpa using HZ ts D (by simpa using C)
theorem H0{n:Nat}{cs:List T}{h:Sp→Nat→gR}{i:Nat}{p:T×List Up}(r:(fz false (n+1) (.agg cs)).run h i=some p): ∃q,(iZ (fz false n) cs).run h i=some q∧p.1= .agg q.1:=by
 have r:((iZ (fz false n) cs).bind fun q=>Q.ret (T.agg q.1,q.2)).run h i=some p:=r
 rw[Q.run_bind]at r
 cases C:(iZ (fz false n) cs).run h i with
 |none=>simp[C]at r
 |some q=>
  grind [Q.run,Option.some.injEq]
theorem aii{r t y:T}{us:List Up}{h:Sp→Nat→gR}{D j:Nat}(i:(fz false iB (iE r j .nilsl)).run h D=some (t,us))(F:lj r j=some y):okC t j:=by
 cases r
 case tup vs=>
  by_cases H:j<100
  ·simp only[iE,H,if_true]at i
   have i:((iZ (fz false 7) (vs.set j .nilsl)).bind fun q=>Q.ret (T.tup q.1,q.2)).run h D=some (t,us):=i
   rw[Q.run_bind]at i
   cases C:(iZ (fz false 7) (vs.set j .nilsl)).run h D with
   |none=>simp[C]at i
   |some q=>
    simp only[C,Option.bind_some,Q.run,Option.some.injEq,Prod.mk.injEq]at i
    obtain⟨rfl,rfl⟩:=i
    exact .inl H
  ·simp only[lj,H,if_false]at F
   cases hi:vs[j/100-1]? with
   |none=>grind
   |some I=>
    rw[hi]at F
    cases I <;> try (simp only at F;cases F;done)
    rename_i cs
    simp only[iE,H,if_false,hi]at i
    have i:((iZ (fz false 7) (vs.set (j/100-1) (.agg (cs.set (j%100) .nilsl)))).bind fun q=>Q.ret (T.tup q.1,q.2)).run h D=some (t,us):=i
    rw[Q.run_bind]at i
    cases C:(iZ (fz false 7) (vs.set (j/100-1) (.agg (cs.set (j%100) .nilsl)))).run h D with
    |none=>simp[C]at i
    |some q=>
     simp only[C,Option.bind_some,Q.run,Option.some.injEq,Prod.mk.injEq]at i
     obtain⟨rfl,rfl⟩:=i
     obtain⟨p,J,N⟩:=HZ _ C (List.getElem?_set_self (List.getElem?_eq_some_iff.1 hi).1)
     obtain⟨O,_,e⟩:=H0 J
     exact .inr ⟨O.1,by rw[N,e]⟩
 case agg vs=>
  simp only[iE]at i
  obtain⟨q,_,e⟩:=H0 (n:=7) i
  rw[show t=_ from e]
  trivial
 case any=>simp[lj]at F
 all_goals
  simp[iE,iB,fz,Q.run]at i
  obtain⟨rfl,rfl⟩:=i
  trivial
theorem aaX{r t:T}{us:List Up}{h:Sp→Nat→gR}{F j:Nat}(i:(fz false iB r).run h F=some (t,us))(C:lj r j=some .nilsl):lj t j=some .nilsl:=by
 cases r
 case tup vs=>
  have i:((iZ (fz false 7) vs).bind fun q=>Q.ret (T.tup q.1,q.2)).run h F=some (t,us):=i
  rw[Q.run_bind]at i
  cases D:(iZ (fz false 7) vs).run h F with
  |none=>simp[D]at i
  |some q=>
   simp only[D,Option.bind_some,Q.run,Option.some.injEq,Prod.mk.injEq]at i
   obtain⟨rfl,rfl⟩:=i
   simp only[lj]at C ⊢
   by_cases H:j<100
   ·rw[if_pos H]at C ⊢
    exact Aj MM vs D C
   ·rw[if_neg H]at C ⊢
    cases hi:vs[j/100-1]? with
    |none=>grind
    |some I=>
     rw[hi]at C
     cases I <;> try (simp only at C;cases C;done)
     rename_i cs
     obtain⟨p,J,N⟩:=HZ _ D hi
     obtain⟨V,O,U⟩:=H0 J
     rw[N,U]
     exact Aj MM cs O C
 case agg vs=>
  have i:((iZ (fz false 7) vs).bind fun q=>Q.ret (T.agg q.1,q.2)).run h F=some (t,us):=i
  rw[Q.run_bind]at i
  cases D:(iZ (fz false 7) vs).run h F with
  |none=>simp[D]at i
  |some q=>
   simp only[D,Option.bind_some,Q.run,Option.some.injEq,Prod.mk.injEq]at i
   obtain⟨rfl,rfl⟩:=i
   exact Aj MM vs D C
 all_goals
  simp only[lj,Option.some.injEq]at C
  try (cases C;done)
 simp[iB,fz,Q.run]at i
 obtain⟨rfl,rfl⟩:=i
 rfl
theorem D2(hE:vI P E)(hm:P.follows .mixedOrders=true){m:Nat}(hO:Ag P E (jY E m)){f:Nat}{C:gU}{args:List T}{sh:List gR}{r:T}{W:List gR}(CP:E.fn f=some C)(i:jY E (m+1) f args sh=some (r,W))
  {w:World} {β:iJ} {M:im} {ji:Array Value} (B1:iP ⟨w,M,lv sh β⟩ (bare .nil sh) w β M) (X:gY β (bare .nil sh).gens w M args ji.toList) {Q:Ending→World→Prop}
  (hQ: ∀H D w' N M' v,iP ⟨w,M,lv sh β⟩ H w' N M'→uN C.own C.eff D H=some (r,W)→gW N H.gens w' M' (pack D) v→Tr (bare (pe args) sh) w β M H w' N M'→Q (.returned v) w'):Calls P f ji w Q:=by
  obtain⟨hs,fn,hf,Bn⟩:=hE.1 f C CP
  simp only[jY,CP]at i
  split at i
  ·cases i
  ·rename_i hlen
   unfold Ga at Bn
   split at Bn
   ·cases Bn
   ·split at Bn
    ·cases Bn
    ·rename_i code Y
     split at Bn
     ·rename_i ac U h1 h2
      simp at Bn
      have hV:gY β (bare (pe args) sh).gens w M args ji.toList:=X
      have lM:=gY.length _ _ hV
      have hn:fn.ntmps=C.n:=by rw[←Bn]
      have Z:C.code=ac:=by rw[←Bn]
      have z8:C.res=U:=by rw[←Bn]
      rw[Z]at i
      cases F:mT E (jY E m) m C.n ac {fr:=pe args,lh:= .nil,sh}with
      |none=>simp[F]at i
      |some p=>
       obtain⟨o,H⟩:=p
       have Rk:o≠ .nrm→o≠ .ret→False:=by
        intro n1 n2
        cases o with
        |nrm=>exact n1 rfl
        |ret=>exact n2 rfl
        |ext id=>simp[F]at i
       have wI: ∃D,nY H C.res=some D∧uN C.own C.eff D H=some (r,W):=by
        cases o with
        |nrm=>
         simp only[F]at i
         split at i
         ·rename_i D hv
          exact⟨D,hv,i⟩
         ·cases i
        |ret=>
         simp only[F]at i
         split at i
         ·rename_i D hv
          exact⟨D,hv,i⟩
         ·cases i
        |ext id=>exact(Rk (by simp) (by simp)).elim
       obtain⟨I,awD,wI⟩:=wI
       have hF:ou (bare (pe args) sh) {tmps:=ji++Array.replicate (fn.ntmps-ji.size) undef,defers:= []} w β M C.n:=by
        refine⟨by simp at lM ⊢; omega,rfl,fun t=>Rx hV _ t⟩
       refine calls_of_wp hf Y ?_
       refine aie (n:=C.n) hE hO hm m code ac h1 (B:=⟨w,M,lv sh β⟩) (st:=bare (pe args) sh) (aaR B1 (pe args)) hF F ?_
       intro a' w' N M' r1 r2 r3 r4
       have post:a'.defers= []∧ ∃v,(results fn a'.tmps).run P w'= .ok v w'∧Q (.returned v) w':=by
        refine⟨r2.defers, ?_⟩
        have V:=awD
        rw[z8]at V
        obtain⟨J,q1,O⟩:=yH (P:=P) r1 r2 fn.results.toList U I h2 V
        have aqG:(results fn a'.tmps).run P w'= .ok (if hh:J.toArray.size=1 then J.toArray[0]else .tuple J.toArray) w':=by
         rw[ML]
         simp only[Sem.run_bind,Sem.run_map,q1,Result.andThen_ok,Sem.run_pure]
        have Wl:gW N H.gens w' M' (pack I) (if hh:J.toArray.size=1 then J.toArray[0]else .tuple J.toArray):=by
         have Tn:=gY.length _ _ O
         cases I with
         |nil=>
          simp only[gY]at O;subst O
          simp[pack,gW,gY]
         |cons v D=>
          cases D with
          |nil=>
           simp only[gY]at O
           obtain⟨u,us,rfl,k1,rfl⟩:=O
           simpa[pack]using k1
          |cons v2 D=>
           have:J.toArray.size≠1:=by simp at Tn ⊢; omega
           rw[dif_neg this]
           simp only[pack,gW]
           exact⟨_,rfl,by simpa using O⟩
        exact⟨_,aqG,hQ H I w' N M' _ r1 wI Wl r3⟩
       cases o with
       |nrm=>exact post
       |ret=>exact post
       |ext id=>exact(Rk (by simp) (by simp)).elim
     ·cases Bn
theorem Ca(i:Bool)(r:List T)(st:St):answer i r st=match(fz i iB (pack r)).run st.get st.sh.length with
 |some p=>some (p.1,(st.ups p.2).sh)
 |none=>none:=by
 cases r with
 |nil=>rfl
 |cons v r=>cases r <;> rfl
theorem H2(j:Nat)(i:List T)(st:St):sA j i st=match lj (pack i) j with
 |some .nilsl=>answer false i st
 |some (.isl .L k g 0 len sz)=>
  (match(fz false iB (iE (pack i) j .nilsl)).run st.get st.sh.length with
  |some p=>(match(st.ups p.2).get .L k with
   |⟨r,.cells cs wm false⟩=>if r=g∧cs.length=len*sz∧len≠0∧(wm=0∨sy (iE p.1 j .nilsl)=true)then some (iE p.1 j (.sl cs len false),(st.ups p.2).sh)else none
   |_=>none)
  |none=>none)
 |_=>none:=by
 cases i with
 |nil=>rfl
 |cons v i=>cases i <;> rfl
theorem GC{B:lS}{i:St}{H:List T}{w':World}{D:iJ}{M':im}{v:Value}{C:Bool}{r:T}{I:List gR}(J:iP B i w' D M')(F:answer C H i=some (r,I))(Wl:gW D i.gens w' M' (pack H) v):
  ∃M2 us,iP B (i.ups us) w' D M2∧(i.ups us).gens=i.gens∧I=(i.ups us).sh∧uQ C D i.gens w' M2 r v:=by
 rw[Ca]at F
 split at F
 ·rename_i p N
  obtain⟨O,us⟩:=p
  simp at F
  obtain⟨rfl,rfl⟩:=F
  obtain⟨M2,U,V,X,W,Y⟩:=B2 C i iB _ _ i w' D M' _ O us _ (Fz.refl i) J Wl N
  exact⟨M2,us,U,V.gens,rfl,W⟩
 ·cases F
theorem Kl(hE:vI P E)(hm:P.follows .mixedOrders=true): ∀m,Ag P E (jY E m)
 |0=>by
  intro f af args sh r iw CP N
  simp[jY]at N
 |m+1=>by
  have hO:=Kl hE hm m
  intro f af args sh r iw CP gZ
  refine⟨fun yF=> ?_,fun j yF=> ?_⟩
  ·intro w β M ji B1 F
   refine D2 hE hm hO CP gZ B1 (ow.toV F) ?_
   intro D vs w' H M' v Y C Z r3
   rw[yF]at C
   obtain⟨M2,us,J,z2,rfl,I⟩:=GC Y C Z
   refine⟨v,H,M2,rfl,HS J .nil,fun k g hg=>r3.beta .S k g hg,fun k=> ?_, ?_⟩
   ·have e1:(jr (D.ups us).sh k).g=(D.ups us).gens .S k:=rfl
    rw[e1,z2]
    exact r3.gens .S k
   ·have O: ∀k,(bare .nil (D.ups us).sh).gens .S k=D.gens .S k:=by
     intro k
     have e1:(bare .nil (D.ups us).sh).gens .S k=(D.ups us).gens .S k:=rfl
     rw[e1,z2]
    cases U:af.eff with
    |false=>rw[U]at I;exact I
    |true=>
     rw[U]at I
     intro b g p q
     exact I b g (fun k x hx=>p k x (by rw[O];exact hx)) (fun k=>by rw[←O];exact q k)
  ·have U:af.eff=false:=by
    grind [jY,uN]
   refine⟨U, ?_⟩
   intro w β M ji B1 F
   refine D2 hE hm hO CP gZ B1 (ow.toV F) ?_
   intro D vs w' H M' v Y C Z r3
   rw[yF,U]at C
   have C:sA j vs D=some (r,iw):=by simpa[uN]using C
   rw[H2]at C
   split at C
   ·rename_i N
    obtain⟨M2,us,J,z2,rfl,I⟩:=GC Y C Z
    refine⟨v,H,M2,rfl,HS J .nil,.inl ⟨?_,I⟩⟩
    grind [Ca,aaX]
   ·rename_i k g len sz N
    split at C
    ·rename_i p hz
     obtain⟨t',us⟩:=p
     have hn:gW H D.gens w' M' .nilsl pj:=by simp only[gW]
     obtain⟨⟨x,hx,V⟩,JV⟩:=V3 Z N hn rfl
     obtain⟨M2,J,z2,z3,I,z5⟩:=B2 false D iB _ _ D w' H M' _ t' us _ (Fz.refl D) Y JV hz
     dsimp only at C
     split at C
     ·rename_i g' cs wm FA
      split at C
      ·rename_i OZ
       obtain⟨rfl,lM,CO,J4⟩:=OZ
       simp at C
       obtain⟨rfl,rfl⟩:=C
       simp only[gW]at V
       obtain⟨aBB,cap,rfl,hlc,hcx⟩:=V
       have ho:=J.obj .L k
       rw[FA]at ho
       unfold kQ at ho
       obtain⟨c,el,fzz,o1,o2,o3,o4,o5,o6,o7,o8⟩:=ho
       dsimp only at o1 o2 o3 o4 o5 o6
       subst o4
       have W:=fun(b:iJ) (G:Sp→Nat→Nat)=>V4 (cs:=cs) (len:=len) (ex:=false) (aii hz N) (PRel.toV b G _ _ I) hx
       have Gp:live ((D.ups us).get .L k):=by rw[FA];trivial
       have FD:(D.ups us).gens .L k=g':=by show((D.ups us).get .L k).g=g';rw[FA]
       have X:=J.lblk k Gp
       rw[FD]at X
       refine⟨v,H,M2,rfl,HS J .nil,.inr ⟨cs,len,(W H D.gens).1,H .L k g',sz,cap,c,el,X,o1,o2,o3,o5, ?_,o7,lM,CO,hlc,by simpa using hcx,hx,fun b G=>(W b G).2⟩⟩
       rcases J4 with rfl|J4
       ·exact .inr fun i hi=>o6 i (Nat.zero_le _) hi
       ·exact .inl (by rw[ME _ _ _ _ rfl];exact J4)
      ·cases C
     ·cases C
    ·cases C
   ·cases C
end
theorem pure_call{P:Program}{E:Env}(U:vI P E)(H:P.follows .mixedOrders=true){m f:Nat}{F:gU}(CP:E.fn f=some F)(V:F.eff=false)(W:F.own=none){args:List T}{r:T}{J:List gR}(X:jY E m f args []=some (r,J))(w:World)(I:Array Value)
  (C:PList w (fun _ _=>False) args I.toList):Calls P f I w fun e w'=> ∃cv,e= .returned cv∧RowKit.Below w.heap.size w w'∧PRel w' (fun _ _=>False) r cv:=by
 have N:=(Kl U H m f F args [] r J CP X).1 W
 rw[V]at N
 let β:iJ:=fun _ _ _=>⟨0,0,0⟩
 have Y: ∀b,¬lv [] β b:=by rintro b ⟨k,i,_⟩;simp[jr,iy]at i;exact i.elim
 have B1:iP ⟨w,fun _ _=>False,lv [] β⟩ (bare .nil []) w β (fun _ _=>False):=by
  have e: ∀sp k,(bare .nil []).get sp k=lA:=by intro sp k;cases sp <;> simp[bare,St.get,jr,iy,hJ.get_nil]
  refine⟨fun sp k=> ?_,fun sp k kE k' O _ _=> ?_,fun _ _ h=>h.elim,fun k i=> ?_,fun k i=> ?_,rfl,rfl,rfl,Nat.le_refl _,fun _ _ _=>rfl,kM.refl _ _,fun _ _ _ _ H=>H⟩
  ·grind [kQ,lA]
  ·rw[e]at O;exact O.elim
  ·rw[e]at i;exact i.elim
  ·rw[e]at i;exact i.elim
 refine(N w β _ I B1 C).mono ?_
 rintro e w' ⟨cv,iM,M',rfl,D,_,_,Z⟩
 refine⟨cv,rfl,⟨D.os,D.tape,D.output,D.size,fun b hb=>D.same b hb (Y b)⟩, ?_⟩
 exact PRel.mono (kl (fun _ _ h=>h.elim)) _ _ Z
end Go.Ev
namespace Go.Ev
open Go
inductive Gb where
 |nil
 |nd (l:Gb) (k:Nat) (v:gU) (r:Gb)
def Gb.find:Gb→Nat→Option gU
 | .nil,_=>none
 | .nd l k v r,f=>bif Nat.beq f k then some v else bif Nat.ble f k then l.find f else r.find f
def Gb.All(p:Nat→gU→Prop):Gb→Prop
 | .nil=>True
 | .nd l k v r=>Gb.All p l∧p k v∧Gb.All p r
theorem Gb.all_find{p:Nat→gU→Prop}{f:Nat}{v:gU}: ∀{t:Gb},Gb.All p t→t.find f=some v→p f v
 | .nil,_,h=>by simp[Gb.find]at h
 | .nd l k u r,D,h=>by
   obtain⟨F,H,I⟩:=D
   simp only[Gb.find]at h
   cases i:Nat.beq f k with
   |true=>
    rw[i,cond_true]at h
    have:f=k:=Nat.eq_of_beq_eq_true i
    subst this
    cases h;exact H
   |false=>
    rw[i,cond_false]at h
    cases C:Nat.ble f k with
    |true=>rw[C,cond_true]at h;exact Gb.all_find F h
    |false=>rw[C,cond_false]at h;exact Gb.all_find I h
def HE(P:Program)(f:Nat)(i:gU):Prop:= ∃hs r,P.funcs[f]? =some r∧Ga P hs i.eff r=some i
theorem codeOk{P:Program}{f:Nat}{i:gU}{hs:List Nat}{r:Func}(h:P.funcs[f]? =some r)(k:Ga P hs i.eff r=some i):HE P f i:=⟨hs,r,h,k⟩
def agh(P:Program)(f:Nat)(g:List T→Option T):Prop:=
 (∃i,P.funcs[f]? =some i∧(i.name== "runtime.NumGoroutine")=false∧i.body.isSome=true)∧
   ∀args r,g args=some r→ ∀(w:World) (M:im) (C:Array Value),(∀b o,M b o→b<w.heap.size)→PList w M args C.toList→
    Calls P f C w fun e w'=> ∃cv,e= .returned cv∧RowKit.Below w.heap.size w w'∧PRel w' (fun b _=>b<w.heap.size) r cv
theorem aoi{P:Program}{t:Gb}{x:Nat→Option (List T→Option T)}{y:Nat→Option (List T→Option (List T×Option Nat))}(h:Gb.All (HE P) t)(C: ∀f g,x f=some g→agh P f g)
  (D: ∀f g,y f=some g→(∃i,P.funcs[f]? =some i∧(i.name== "runtime.NumGoroutine")=false∧i.body.isSome=true)∧aaQ P f g):vI P ⟨t.find,x,y⟩:=
 ⟨fun f H F=>Gb.all_find h F,fun f g _ r=>C f g r,fun f g _ _ r=>D f g r⟩
noncomputable abbrev aqJ(E:Env)(m f:Nat)(args:List T)(sh:List gR):Option (T×List gR):=jY E m f args sh
theorem jd{E:Env}{m f:Nat}{args:List T}{sh:List gR}{r:Option (T×List gR)}(h:aqJ E m f args sh=r):jY E m f args sh=r:=h
end Go.Ev
