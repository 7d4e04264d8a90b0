/- A tree evaluator over the model, proved against it (part D): where it answers, the call returns that answer. Conditions: none beyond its theorems' own. -/
import Derived.Test.YtbdfboojnfinkaaGreatEvC
set_option linter.unusedSimpArgs false
set_option linter.unusedVariables false
namespace Go.Ev
open Go
def bare(fr:Fr)(sh:List ib):St:={fr,lh:= .nil,sh}
theorem Ca(fr:Fr)(sh:List ib)(k:Nat):(bare fr sh).get .L k=lI:=by simp[bare,St.get,jr,iC,iz.get_nil]
theorem kM.shared{β iO:iJ}{G G':Sp→Nat→Nat}{w:World}{M:MSet}{k:Nat}{e:ib}(Du: ∀n g,g≤G .S n→iO .S n g=β .S n g)(F: ∀n,G .S n≤G' .S n)(H:e.g≤G .S k)(h:kM β G w M .S k e):kM iO G' w M .S k e:=by
 unfold kM at h ⊢
 rw[Du k _ H]
 obtain⟨g,ob⟩:=e
 cases ob with
 |none=>trivial
 |cells cs W bx=>
  obtain⟨c,el,fz,I,J,N,O,D,U,V⟩:=h
  refine⟨c,el,fz,I,J,N,O, ?_,U,V⟩
  cases bx
  ·exact D
  ·exact xl.mono (kG.refl w M) Du F D
 |map ks X fz=>exact h
theorem FI{B:lL}{st:St}{w:World}{β:iJ}{M:MSet}(h:iU B st w β M)(fr:Fr):iU B (bare fr st.sh) w β M:=by
 refine⟨fun sp k=> ?_,fun sp k I k' F H J=> ?_,h.mlt,fun k D=> ?_,fun k D=>h.sblk k D,h.os,h.tape,h.output,h.size,h.same,h.keep,h.msup⟩
 ·cases sp with
  |L=>grind [kM,lI,Ca]
  |S=>exact kM.shared (G:=st.gens) (β:=β) (fun _ _ _=>rfl) (fun _=>Nat.le_refl _) (Nat.le_refl _) (h.obj .S k)
 ·cases sp with
  |L=>rw[Ca]at F;exact F.elim
  |S=>
   cases I with
   |L=>rw[Ca]at H;exact H.elim
   |S=>exact h.dist .S k .S k' F H J
 ·rw[Ca]at D;exact D.elim
def lj(sh:List ib)(β:iJ)(b:Nat):Prop:= ∃k,live (jr sh k)∧(β .S k (jr sh k).g).blk=b
theorem XB{B:lL}{st:St}{w:World}{β:iJ}{M:MSet}(h:iU B st w β M)(fr:Fr):iU ⟨w,M,lj st.sh β⟩ (bare fr st.sh) w β M:=by
 have F:=FI h fr
 refine⟨F.obj,F.dist,h.mlt,fun k D=> ?_,fun k D=> .inl ⟨k,D,rfl⟩,rfl,rfl,rfl,Nat.le_refl _,fun _ _ _=>rfl,kG.refl w M,fun _ _ _ _ H=>H⟩
 rw[Ca]at D;exact D.elim
theorem SS{B:lL}{st:St}{w:World}{β:iJ}{M:MSet}(h:iU B st w β M)(fr:Fr):iU ⟨w,M,fun _=>False⟩ (bare fr []) w β M:=by
 have e: ∀sp k,(bare fr []).get sp k=lI:=by intro sp k;cases sp <;> simp[bare,St.get,jr,iC,iz.get_nil]
 refine⟨fun sp k=> ?_,fun sp k I k' F _ _=> ?_,h.mlt,fun k D=> ?_,fun k D=> ?_,rfl,rfl,rfl,Nat.le_refl _,fun _ _ _=>rfl,kG.refl w M,fun _ _ _ _ H=>H⟩
 ·grind [kM,lI]
 ·rw[e]at F;exact F.elim
 ·rw[e]at D;exact D.elim
 ·rw[e]at D;exact D.elim
theorem Io{B:lL}{st:St}{w w':World}{β:iJ}{M:MSet}(h:iU B st w β M)(I:w'.os=w.os)(J:w'.tape=w.tape)(OM:w'.output=w.output)(D:w.heap.size≤w'.heap.size)(H: ∀b,b<w.heap.size→w'.heap[b]? =w.heap[b]?):
  iU B st w' β M∧Tr st w β M st w' β M:=by
 have N:kG w M w' M:=⟨fun b o v F _=>by rw[nW (w:=w) (H b (xk F))];exact F,fun b X c F _=>by rw[H b (qS F)];exact F,fun _ _ _ h=>h⟩
 refine⟨⟨fun sp k=> ?_,h.dist,fun b o O=>Nat.lt_of_lt_of_le (h.mlt b o O) D,h.lblk,h.sblk,I.trans h.os,J.trans h.tape,OM.trans h.output,Nat.le_trans h.size D,fun b U V=>(H b (Nat.lt_of_lt_of_le U h.size)).trans (h.same b U V),h.keep.trans N h.size,h.msup⟩,N,fun _ _ _ _=>rfl,fun _ _=>Nat.le_refl _⟩
 exact kM.mono N (fun _ _ _ _=>rfl) (fun _ _=>Nat.le_refl _) (Nat.le_refl _) (fun W=>H _ (h.lt W)) (fun _ _ O=>O) (h.obj sp k)
theorem aev{B:lL}{st:St}{w w':World}{β iO:iJ}{M M':MSet}{jb:List ib}(h:iU B st w β M)(D:iU ⟨w,M,lj st.sh β⟩ (bare .nil jb) w' iO M')(Du: ∀n g,g≤st.gens .S n→iO .S n g=β .S n g)(hG: ∀n,st.gens .S n≤(jr jb n).g):
  iU B {st with sh:=jb} w' (fun sp k g=>match sp with| .L=>β .L k g| .S=>iO .S k g) M'∧Tr st w β M {st with sh:=jb} w' (fun sp k g=>match sp with| .L=>β .L k g| .S=>iO .S k g) M':=by
 have Y: ∀k,({st with sh:=jb}:St).get .L k=st.get .L k:=fun k=>rfl
 have Z: ∀k,({st with sh:=jb}:St).get .S k=jr jb k:=fun k=>rfl
 have SN: ∀sp k g,g≤st.gens sp k→(fun(sp:Sp) k g=>match sp with| .L=>β .L k g| .S=>iO .S k g:iJ) sp k g=β sp k g:=by
  grind
 have Eo: ∀sp k,st.gens sp k≤({st with sh:=jb}:St).gens sp k:=by
  grind
 have notS: ∀k,live (st.get .L k)→ ¬lj st.sh β (β .L k (st.gens .L k)).blk:=by
  rintro k F ⟨k',O,H⟩
  have:=h.dist .S k' .L k O F H
  cases this.1
 have sB: ∀b,lj st.sh β b→B.SB b∨B.w.heap.size≤b:=by
  rintro b ⟨k,F,rfl⟩
  exact h.sblk k F
 have U: ∀k,live (jr jb k)→B.SB (iO .S k (jr jb k).g).blk∨B.w.heap.size≤(iO .S k (jr jb k).g).blk:=by
  intro k F
  rcases D.sblk k F with e|e
  ·exact sB _ e
  ·exact .inr (Nat.le_trans h.size e)
 refine⟨⟨fun sp k=> ?_,fun sp k X k' I J H=> ?_,D.mlt,fun k F=>h.lblk k F,fun k F=>U k F,D.os.trans h.os,D.tape.trans h.tape,D.output.trans h.output,Nat.le_trans h.size D.size,fun b N V=> ?_,h.keep.trans D.keep h.size,fun b o N V h3=> ?_⟩,D.keep,SN,Eo⟩
 ·cases sp with
  |L=>
   refine kM.mono D.keep SN Eo (Nat.le_refl _) (fun F=> ?_) (fun F o hm=> ?_) (h.obj .L k)
   ·exact D.same _ (h.lt F) (notS k F)
   ·exact D.msup _ o (h.lt F) (notS k F) hm
  |S=>exact kM.shared (G:=(bare .nil jb).gens) (β:=iO) (fun _ _ _=>rfl) (fun _=>Nat.le_refl _) (Nat.le_refl _) (D.obj .S k)
 ·cases sp with
  |L=>
   cases X with
   |L=>exact h.dist .L k .L k' I J H
   |S=>
    exfalso
    have Mt:(β .L k (st.gens .L k)).blk=(iO .S k' (jr jb k').g).blk:=H
    rcases D.sblk k' J with e|e
    ·exact notS k I (by rw[Mt];exact e)
    ·have:=h.lt (sp:= .L) (k:=k) I
     have e':w.heap.size≤(iO .S k' (jr jb k').g).blk:=e
     omega
  |S=>
   cases X with
   |L=>
    exfalso
    have Mt:(iO .S k (jr jb k).g).blk=(β .L k' (st.gens .L k')).blk:=H
    rcases D.sblk k I with e|e
    ·exact notS k' J (by rw[←Mt];exact e)
    ·have:=h.lt (sp:= .L) (k:=k') J
     have e':w.heap.size≤(iO .S k (jr jb k).g).blk:=e
     omega
   |S=>exact D.dist .S k .S k' I J H
 ·have W: ¬lj st.sh β b:=fun hs=>by
   grind
  exact(D.same b (Nat.lt_of_lt_of_le N h.size) W).trans (h.same b N V)
 ·have W: ¬lj st.sh β b:=fun hs=>by
   grind
  exact D.msup b o (Nat.lt_of_lt_of_le N h.size) W (h.msup b o N V h3)
def Ip(M:MSet)(S:H5):MSet:=fun b x=>M b x∨(b=S.blk∧S.off≤x∧x<S.off+S.ext)
theorem aew{B:lL}{st:St}{w w':World}{β:iJ}{M:MSet}(h:iU B st w β M)(Z:w'.os=w.os)(htp:w'.tape=w.tape)(OM:w'.output=w.output)(I:w.heap.size≤w'.heap.size)(F: ∀b,b<w.heap.size→w'.heap[b]? =w.heap[b]?)
  (k g:Nat) (hg:st.gens .L k<g) (S:H5) (hS:w.heap.size≤S.blk) (hS2:S.blk<w'.heap.size) (ob:Ob)
  (ho:kM (nv β .L k g S) (st.up (.L,k,⟨g,ob⟩)).gens w' (Ip M S) .L k ⟨g,ob⟩):
  iU B (st.up (.L,k,⟨g,ob⟩)) w' (nv β .L k g S) (Ip M S)∧Tr st w β M (st.up (.L,k,⟨g,ob⟩)) w' (nv β .L k g S) (Ip M S):=by
 have hk:kG w M w' (Ip M S):=⟨fun b o v J _=>by rw[nW (w:=w) (F b (xk J))];exact J,fun b es c J _=>by rw[F b (qS J)];exact J,fun b x N hm=>hm.resolve_right (fun e=>by have:=e.1;omega)⟩
 have N: ∀D k' g',g'≤st.gens D k'→nv β .L k g S D k' g'=β D k' g':=by
  grind [xm]
 have hG: ∀D k',st.gens D k'≤(st.up (.L,k,⟨g,ob⟩)).gens D k':=by
  intro D k'
  rw[lb]
  grind
 have Y: ∀D k',(nv β .L k g S D k' ((st.up (.L,k,⟨g,ob⟩)).gens D k'))=if D= .L∧k'=k then S else β D k' (st.gens D k'):=by
  grind [lb,jv]
 refine⟨⟨fun D k'=> ?_,fun sp1 k1 sp2 k2 O U V=> ?_,fun b x hm=> ?_,fun k' H=> ?_,fun k' H=> ?_,Z.trans h.os,htp.trans h.tape,OM.trans h.output,Nat.le_trans h.size I,fun b N hn=> ?_,h.keep.trans hk h.size,fun b x h1 h2 h3=> .inl (h.msup b x h1 h2 h3)⟩,hk,N,hG⟩
 ·rw[lR]
  split
  ·grind
  ·exact kM.mono hk N hG (Nat.le_refl _) (fun H=>F _ (h.lt H)) (fun _ _ hm=> .inl hm) (h.obj D k')
 ·rw[Y,Y]at V
  rw[lR]at O U
  by_cases W:sp1= .L∧k1=k <;> by_cases X:sp2= .L∧k2=k
  ·grind
  ·rw[if_pos W,if_neg X]at V;rw[if_neg X]at U
   have:=h.lt U;omega
  ·rw[if_neg W,if_pos X]at V;rw[if_neg W]at O
   have:=h.lt O;omega
  ·rw[if_neg W,if_neg X]at V;rw[if_neg W]at O;rw[if_neg X]at U
   exact h.dist _ _ _ _ O U V
 ·rcases hm with hm|hm
  ·exact Nat.lt_of_lt_of_le (h.mlt b x hm) I
  ·grind
 ·rw[Y];rw[lR]at H
  split
  ·exact Nat.le_trans h.size hS
  ·rename_i e;rw[if_neg e]at H;exact h.lblk k' H
 ·rw[Y];rw[lR]at H
  rw[if_neg (by rintro⟨e,_⟩;cases e)]at H ⊢
  exact h.sblk k' H
 ·have:=h.size
  rw[F b (by omega)];exact h.same b N hn
theorem vf{w w':World}{M M':MSet}: ∀{cs:List T} {D:List Value},cs.all nM=true→PList w M cs D→PList w' M' cs D
 | [],D,_,h=>by grind [PList]
 |t::ts,D,hs,h=>by
  simp only[List.all_cons,Bool.and_eq_true]at hs
  simp only[PList]at h ⊢
  obtain⟨u,us,rfl,F,H⟩:=h
  refine⟨u,us,rfl, ?_,vf hs.2 H⟩
  have I:=hs.1
  cases t <;> simp[nM]at I <;> simpa only[PRel]using F
def Mu:Value→Nat→Option Value
 | .tuple a,j=>if j<100 then a[j]? else match a[j/100-1]? with
   |some (.agg b)=>b[j%100]?
   |_=>none
 | .agg a,j=>a[j]?
 |v,_=>some v
def pt:Value→Nat→Value→Value
 | .tuple a,j,x=>if j<100 then .tuple (a.setIfInBounds j x)else match a[j/100-1]? with
   |some (.agg b)=> .tuple (a.setIfInBounds (j/100-1) (.agg (b.setIfInBounds (j%100) x)))
   |_=> .tuple a
 | .agg a,j,x=> .agg (a.setIfInBounds j x)
 |_,_,x=>x
abbrev oF:Value:= .slice none 0 0
section
variable{β:iJ}{G:Sp→Nat→Nat}{w:World}{M:MSet}
theorem iq.set: ∀{ts:List T} {D:List Value} (j:Nat) {t:T} {v:Value},iq β G w M ts D→il β G w M t v→iq β G w M (ts.set j t) (D.set j v)
 | [],D,j,t,v,h,_=>by grind [iq]
 |t::ts,D,0,H,I,h,F=>by
  grind [iq]
 |t::ts,D,j+1,H,I,h,F=>by
  simp only[iq]at h;obtain⟨u,us,rfl,J,N⟩:=h
  simp only[List.set_cons_succ,iq]
  exact⟨_,_,rfl,J,iq.set j N F⟩
theorem xF{cs:List T}{j:Nat}{t:T}(h:cs.all single=true)(D:single t=true):(cs.set j t).all single=true:=by
 grind
theorem Cb{cs:List T}{j:Nat}{t u:T}(h:(cs.set j u).all single=true)(D:single t=true):(cs.set j t).all single=true:=by
 have:=xF (j:=j) h D
 simp_all
theorem SU{r y t:T}{v u:Value}{j:Nat}(h:il β G w M r v)(D:kY r j=some y)(F:il β G w M t u)(hs:single t=true):
  (∃x,Mu v j=some x∧il β G w M y x)∧il β G w M (iF r j t) (pt v j u):=by
 cases r
 case tup vs=>
  simp only[il]at h;obtain⟨a,rfl,H⟩:=h
  simp only[kY]at D
  by_cases I:j<100
  ·rw[if_pos I]at D
   obtain⟨x,J,N⟩:=H.get D
   refine⟨⟨x,by simpa[Mu,I]using J,N⟩, ?_⟩
   simp only[iF,pt,il,I,if_true]
   exact⟨_,rfl,by simpa using iq.set j H F⟩
  ·rw[if_neg I]at D
   cases hi:vs[j/100-1]? with
   |none=>grind
   |some X=>
    rw[hi]at D
    cases X <;> try (simp only at D;cases D;done)
    rename_i cs
    simp only at D
    obtain⟨x0,Y,V⟩:=H.get hi
    simp only[il]at V;obtain⟨b,rfl,W,Z⟩:=V
    obtain⟨x,J,N⟩:=W.get D
    have O:a[j/100-1]? =some (.agg b):=by simpa using Y
    refine⟨⟨x,by simpa[Mu,I,O]using J,N⟩, ?_⟩
    simp only[iF,pt,I,if_false,hi,O,il]
    refine⟨_,rfl, ?_⟩
    rw[Array.toList_setIfInBounds]
    refine iq.set _ H ?_
    simp only[il]
    exact⟨_,rfl,by simpa using iq.set (j%100) W F,xF Z hs⟩
 case agg cs=>
  simp only[il]at h;obtain⟨a,rfl,H,U⟩:=h
  simp only[kY]at D
  obtain⟨x,J,N⟩:=H.get D
  refine⟨⟨x,by simpa[Mu]using J,N⟩, ?_⟩
  simp only[iF,pt,il]
  exact⟨_,rfl,by simpa using iq.set j H F,xF U hs⟩
 case any=>simp[kY]at D
 all_goals
  simp only[kY,Option.some.injEq]at D;subst D
  refine⟨⟨v, ?_,h⟩, ?_⟩
  ·simp only[il,PRel]at h
   first
    |(subst h;rfl)
    |(obtain⟨_,rfl,_⟩:=h;rfl)
    |(obtain⟨_,_,rfl,_⟩:=h;rfl)
    |(obtain⟨_,_,_,rfl,_⟩:=h;rfl)
    |(obtain⟨_,_,_,_,rfl,_⟩:=h;rfl)
    |(obtain⟨_,rfl⟩:=h;rfl)
  ·simp only[il,PRel]at h
   first
    |(subst h;exact F)
    |(obtain⟨_,rfl,_⟩:=h;exact F)
    |(obtain⟨_,_,rfl,_⟩:=h;exact F)
    |(obtain⟨_,_,_,rfl,_⟩:=h;exact F)
    |(obtain⟨_,_,_,_,rfl,_⟩:=h;exact F)
    |(obtain⟨_,rfl⟩:=h;exact F)
theorem ur{a:Array Value}{j:Nat}{x y:Value}(h:a[j]? =some x):(a.toList.set j y).set j x=a.toList:=by
 rw[List.set_set]
 have D:a.toList[j]? =some x:=by simpa using h
 grind [List.getElem?_eq_some_iff.1,List.set_getElem_self]
theorem Cc(a:Array Value)(j:Nat)(x:Value): ∃b,pt (.tuple a) j x= .tuple b:=by
 simp only[pt]
 split
 ·grind
 ·split <;> exact⟨_,rfl⟩
theorem Cd{v:Value}{j:Nat}(h: ∀a,pt v j oF≠ .tuple a)(D: ∀a,pt v j oF≠ .agg a):pt v j oF=oF∧Mu v j=some v:=by
 cases v
 case tuple a=>obtain⟨b,F⟩:=Cc a j oF;exact absurd F (h _)
 all_goals first|exact⟨rfl,rfl⟩|exact absurd rfl (D _)
theorem XC{r t:T}{cv x:Value}{j:Nat}(h:il β G w M (iF r j .nilsl) (pt cv j oF))(J:Mu cv j=some x)(N:il β G w M t x)(hs:single t=true):il β G w M (iF r j t) cv:=by
 cases r
 case tup vs=>
  by_cases H:j<100
  ·simp only[iF,H,if_true,il]at h ⊢
   obtain⟨a,D,F⟩:=h
   cases cv <;> simp[pt,H]at D
   rename_i a0
   subst D
   simp only[Mu,H,if_true]at J
   refine⟨a0,rfl, ?_⟩
   have:=iq.set j F N
   grind [List.set_set,Array.toList_setIfInBounds,ur]
  ·have U: ∃a0 b,cv= .tuple a0∧a0[j/100-1]? =some (.agg b)∧b[j%100]? =some x:=by
    cases cv
    case tuple a0=>
     grind [Mu,hi]
    all_goals
     exfalso
     simp only[iF,H,if_false]at h
     split at h <;> (simp only[pt,il]at h;obtain⟨_,h,_⟩:=h;cases h)
   obtain⟨a0,b,rfl,O,k2⟩:=U
   simp only[pt,H,if_false,O]at h
   simp only[iF,H,if_false]at h ⊢
   split at h
   ·rename_i cs hi
    simp only[il]at h ⊢
    obtain⟨a,D,F⟩:=h
    cases D
    refine⟨a0,rfl, ?_⟩
    have Y:j/100-1<vs.length:=(List.getElem?_eq_some_iff.1 hi).1
    have I:il β G w M (.agg (cs.set (j%100) .nilsl)) (.agg (b.setIfInBounds (j%100) oF)):=by
     obtain⟨x1,X,Z⟩:=F.get (List.getElem?_set_self Y)
     rw[Array.toList_setIfInBounds,List.getElem?_set_self (by have:=(Array.getElem?_eq_some_iff.1 O).1;simpa using this)]at X
     cases X;exact Z
    have V:il β G w M (.agg (cs.set (j%100) t)) (.agg b):=by
     simp only[il]at I ⊢
     obtain⟨b1,kg,J1,tG⟩:=I
     cases kg
     refine⟨b,rfl, ?_,Cb tG hs⟩
     have:=iq.set (j%100) J1 N
     rw[List.set_set,Array.toList_setIfInBounds,ur k2]at this
     exact this
    have:=iq.set (j/100-1) F V
    rw[List.set_set,Array.toList_setIfInBounds,ur O]at this
    exact this
   ·simp only[il]at h ⊢
    obtain⟨a,D,F⟩:=h
    cases D
    refine⟨a0,rfl, ?_⟩
    have:=iq.set (j/100-1) (t:= .any) (v:= .agg b) F (by simp only[il])
    rw[List.set_set,Array.toList_setIfInBounds,ur O]at this
    exact this
 case agg cs=>
  simp only[iF,il]at h ⊢
  obtain⟨a,D,F,W⟩:=h
  cases cv
  case tuple a'=>obtain⟨b,hb⟩:=Cc a' j oF;rw[hb]at D;cases D
  all_goals simp[pt]at D
  rename_i a0
  subst D
  simp only[Mu]at J
  refine⟨a0,rfl, ?_,Cb W hs⟩
  have:=iq.set j F N
  grind [List.set_set,Array.toList_setIfInBounds,ur]
 case any=>simp only[iF,il]
 all_goals
  simp only[iF,il]at h ⊢
  obtain⟨h1,h2⟩:=Cd (v:=cv) (j:=j) (fun a e=>by rw[e]at h;cases h) (fun a e=>by rw[e]at h;cases h)
  rw[h2]at J
  cases J
  exact N
def okC:T→Nat→Prop
 | .any,_=>False
 | .tup h,j=>j<100∨ ∃cs,h[j/100-1]? =some (.agg cs)
 |_,_=>True
theorem SV{p:T}{v x:Value}{j:Nat}{cs:List T}{len:Nat}{ex:Bool}(N:okC p j)(h:il β G w M p (pt v j oF))(F:Mu v j=some x):
  kY (iF p j (.sl cs len ex)) j=some (.sl cs len ex)∧il β G w M (iF (iF p j (.sl cs len ex)) j .nilsl) (pt v j oF):=by
 have O:il β G w M .nilsl oF:=by simp only[il]
 cases p
 case tup vs=>
  simp only[il]at h
  obtain⟨a,D,I⟩:=h
  by_cases H:j<100
  ·cases v <;> simp[pt,H]at D
   rename_i a0
   subst D
   simp only[Mu,H,if_true]at F
   have U:=iq.length _ _ I
   simp at U
   obtain⟨hj,_⟩:=Array.getElem?_eq_some_iff.1 F
   refine⟨by simp only[iF,kY,H,if_true];rw[List.getElem?_set_self (by omega)], ?_⟩
   simp only[iF,pt,il,List.set_set,H,if_true]
   refine⟨_,rfl, ?_⟩
   have:=iq.set j I O
   rw[Array.toList_setIfInBounds,List.set_set]at this
   rw[Array.toList_setIfInBounds];exact this
  ·have N:j<100∨ ∃cs,vs[j/100-1]? =some (.agg cs):=N
   obtain⟨ON,hi⟩:=N.resolve_left H
   cases v
   case tuple a0=>
    simp only[Mu,H,if_false]at F
    cases V:a0[j/100-1]? with
    |none=>grind
    |some y0=>
     rw[V]at F
     cases y0 <;> try (simp only at F;cases F;done)
     rename_i b
     simp only at F
     simp only[pt,H,if_false,V]at D ⊢
     cases D
     have Y:j/100-1<vs.length:=(List.getElem?_eq_some_iff.1 hi).1
     have J:il β G w M (.agg ON) (.agg (b.setIfInBounds (j%100) oF)):=by
      obtain⟨x1,Z,e2⟩:=I.get hi
      rw[Array.toList_setIfInBounds,List.getElem?_set_self (by have:=(Array.getElem?_eq_some_iff.1 V).1;simpa using this)]at Z
      cases Z;exact e2
     simp only[il]at J
     obtain⟨b1,kg,J1,tG⟩:=J
     cases kg
     have W:=iq.length _ _ J1
     simp at W
     obtain⟨hj2,_⟩:=Array.getElem?_eq_some_iff.1 F
     refine⟨?_, ?_⟩
     ·simp only[iF,kY,H,if_false,hi]
      rw[List.getElem?_set_self Y]
      simp only
      rw[List.getElem?_set_self (by omega)]
     ·simp only[iF,H,if_false,hi]
      rw[List.getElem?_set_self Y]
      simp only[List.set_set,il]
      refine⟨_,rfl, ?_⟩
      have h3:il β G w M (.agg (ON.set (j%100) .nilsl)) (.agg (b.setIfInBounds (j%100) oF)):=by
       simp only[il]
       refine⟨_,rfl, ?_,xF tG rfl⟩
       have:=iq.set (j%100) J1 O
       rw[Array.toList_setIfInBounds,List.set_set]at this
       rw[Array.toList_setIfInBounds];exact this
      have:=iq.set (j/100-1) I h3
      rw[Array.toList_setIfInBounds,List.set_set]at this
      rw[Array.toList_setIfInBounds];exact this
   all_goals (simp only[pt]at D;cases D)
 case agg vs=>
  simp only[il]at h
  obtain⟨a,D,I,X⟩:=h
  cases v
  case tuple a'=>obtain⟨b,hb⟩:=Cc a' j oF;rw[hb]at D;cases D
  all_goals simp[pt]at D
  rename_i a0
  subst D
  simp only[Mu]at F
  have U:=iq.length _ _ I
  simp at U
  obtain⟨hj,_⟩:=Array.getElem?_eq_some_iff.1 F
  refine⟨by simp only[iF,kY];rw[List.getElem?_set_self (by omega)], ?_⟩
  simp only[iF,pt,il,List.set_set]
  refine⟨_,rfl, ?_,xF X rfl⟩
  have:=iq.set j I O
  rw[Array.toList_setIfInBounds,List.set_set]at this
  rw[Array.toList_setIfInBounds];exact this
 case any=>exact N.elim
 all_goals
  refine⟨rfl, ?_⟩
  simp only[iF]
  have hp:pt v j oF=oF:=by
   grind [il,PRel,Cd]
  rw[hp];exact O
end
def SW(P:Program)(f:Nat)(D:Bool)(args:List T)(sh:List ib)(r:T)(F:List ib):Prop:=
 ∀(w:World) (β:iJ) (M:MSet) (h:Array Value),iU ⟨w,M,lj sh β⟩ (bare .nil sh) w β M→nX D β (bare .nil sh).gens w M args h.toList→
  Calls P f h w fun e w'=> ∃cv H M',e= .returned cv∧iU ⟨w,M,lj sh β⟩ (bare .nil F) w' H M'∧(∀n g,g≤(jr sh n).g→H .S n g=β .S n g)∧(∀n,(jr sh n).g≤(jr F n).g)∧sQ D H (bare .nil F).gens w' M' r cv
theorem Kz(p x y:T)(j:Nat)(h:single x=true):iF (iF p j x) j y=iF p j y:=by
 cases p
 case tup vs=>
  by_cases D:j<100
  ·grind [iF,List.set_set]
  grind [iF,List.set_eq_of_length_le,hi,List.getElem?_set_self,List.set_set,List.getElem?_eq_none_iff.1,List.getElem?_eq_some_iff.1]
 case agg vs=>simp only[iF,List.set_set]
 all_goals first|(simp only[iF];done)|(simp only[iF];cases x <;> first|rfl|cases h)
def am5(w w':World)(M:MSet)(r:T)(j:Nat)(cs:List T)(len:Nat)(cv:Value):Prop:=
 ∃(S:H5) (sz h:Nat) (c:Array Value) (el:TypeId),w.heap.size≤S.blk∧w'.heap[S.blk]? =some (.cells c el (0,0))∧S.off+S.ext≤c.size∧cs.length≤S.ext∧PList w' M cs ((c.toList.drop S.off).take cs.length)∧(p8 (iF r j .nilsl)=true∨ ∀i,i<S.ext→M S.blk (S.off+i))∧
  cs.all single=true∧cs.length=len*sz∧len≠0∧len≤h∧h*sz≤S.ext∧Mu cv j=some (.slice (some ⟨S.blk,S.off,none⟩) len h)∧ ∀β G,il β G w' M (iF r j .nilsl) (pt cv j oF)
def OO(P:Program)(f:Nat)(args:List T)(sh:List ib)(j:Nat)(r:T)(D:List ib):Prop:=
 ∀(w:World) (β:iJ) (M:MSet) (h:Array Value),iU ⟨w,M,lj sh β⟩ (bare .nil sh) w β M→nX false β (bare .nil sh).gens w M args h.toList→
  Calls P f h w fun e w'=> ∃cv F M',e= .returned cv∧iU ⟨w,M,lj sh β⟩ (bare .nil D) w' F M'∧
   ((kY r j=some .nilsl∧PRel w' M' r cv)∨ ∃cs len,kY r j=some (.sl cs len false)∧am5 w w' M' r j cs len cv)
def Mv(blk off h:Nat):Option Nat→Value
 |none=> .tuple #[]
 |some n=> .slice (some ⟨blk,off,none⟩) n h
def am6(P:Program)(f:Nat)(h:List T→Option (List T×Option Nat)):Prop:=
 (∀r,h []=some ([],r)→r.getD 0=0→ ∀w:World,Calls P f #[oF] w fun e w'=>e= .returned (match r with|none=> .tuple #[]|some _=>oF)∧RowKit.Below w.heap.size w w')∧
 ∀cs F r,h cs=some (F,r)→F.length=cs.length→ ∀(w:World) (M:MSet) (blk off D:Nat) (c:Array Value) (el:TypeId) (H:List Value),w.heap[blk]? =some (.cells c el (0,0))→off+cs.length≤c.size→cs.length≤D→(c.toList.drop off).take cs.length=H→PList w M cs H→
  Calls P f #[.slice (some ⟨blk,off,none⟩) cs.length D] w fun e w'=> ∃us,e= .returned (Mv blk off D r)∧PList w M F us∧RowKit.Below w.heap.size (setBlock w blk (.cells (splice c.toList off us).toArray el)) w'
def tB(P:Program)(E:Env):Prop:=
 (∀f af,E.fn f=some af→ ∃hs F,P.funcs[f]? =some F∧D9 P hs af.eff F=some af)∧
 (∀f g,E.fn f=none→E.ext f=some g→(∃F,P.funcs[f]? =some F∧(F.name== "runtime.NumGoroutine")=false∧F.body.isSome=true)∧
   ∀args r,g args=some r→ ∀(w:World) (M:MSet) (D:Array Value),(∀b o,M b o→b<w.heap.size)→PList w M args D.toList→
    Calls P f D w fun e w'=> ∃cv,e= .returned cv∧RowKit.Below w.heap.size w w'∧PRel w' (fun b _=>b<w.heap.size) r cv)∧
 (∀f h,E.fn f=none→E.ext f=none→E.wr f=some h→(∃F,P.funcs[f]? =some F∧(F.name== "runtime.NumGoroutine")=false∧F.body.isSome=true)∧
   am6 P f h)
def xH(P:Program)(E:Env)(call:p7):Prop:= ∀f af args sh r h,E.fn f=some af→call f args sh=some (r,h)→(af.own=none→SW P f af.eff args sh r h)∧(∀j,af.own=some j→af.eff=false∧OO P f args sh j r h)
theorem Ce{st iX:St}{a:Act}{w w':World}{β iO:iJ}{M M':MSet}{n:Nat}{d:Option Nat}{v:T}{cv:Value}{fr:Fr}(h:nV st a w β M n)(F:Tr st w β M iX w' iO M')(AR:nj st.fr n d v=some fr)(H:il iO iX.gens w' M' v cv):
  nV {iX with fr} (a.put d cv) w' iO M' n:=by
 cases d with
 |none=>
  simp[nj]at AR;subst AR
  exact⟨h.size,h.defers,fun t=>F.val (h.slot t)⟩
 |some d=>
  simp only[nj]at AR
  split at AR
  ·rename_i I
   simp at AR;subst AR
   refine⟨by simp[Act.put,h.size],h.defers,fun t=> ?_⟩
   have J:an (j3 st.fr d v) t=if t=d then v else an st.fr t:=pS st.fr d v t
   have N:(a.put (some d) cv).tmps.getD t undef=if t=d then cv else a.tmps.getD t undef:=by
    simp only[Act.put,Array.getD_eq_getD_getElem?,Array.getElem?_setIfInBounds]
    by_cases D:d=t
    ·subst D;rw[if_pos rfl,if_pos (by rw[h.size];exact I),if_pos rfl];rfl
    ·grind
   show il iO iX.gens w' M' (an (j3 st.fr d v) t) _
   rw[J,N]
   split
   ·exact H
   ·exact F.val (h.slot t)
  ·cases AR
end Go.Ev
namespace Go.Ev
open Go
theorem XD{B:lL}{st:St}{w:World}{β:iJ}{M:MSet}(h:iU B st w β M)(fr:Fr):iU B {st with fr} w β M:=
 ⟨h.obj,h.dist,h.mlt,h.lblk,h.sblk,h.os,h.tape,h.output,h.size,h.same,h.keep,h.msup⟩
theorem Tr.fr{st iX:St}{w w':World}{β iO:iJ}{M M':MSet}(h:Tr st w β M iX w' iO M')(fr:Fr):Tr st w β M {iX with fr} w' iO M':=⟨h.keep,h.beta,h.gens⟩
theorem KA{w w':World}{M M':MSet}{r:T}{cv:Value}(hs:scalar r=true)(h:PRel w M r cv):PRel w' M' r cv:=by
 cases r <;> simp[scalar]at hs
 case tup vs=>
  simp only[PRel]at h ⊢
  obtain⟨a,rfl,D⟩:=h
  refine⟨a,rfl, ?_⟩
  generalize a.toList=l at D
  induction vs generalizing l with
  |nil=>grind [PList]
  |cons t ts ih=>
   simp only[PList]at D ⊢
   obtain⟨u,us,rfl,F,H⟩:=D
   have I:=hs t (by simp)
   grind [PRel]
 all_goals simpa only[PRel]using h
theorem wz{β iO:iJ}{G G':Sp→Nat→Nat}{w w':World}{M M':MSet}: ∀{cs:List T} {D:List Value},cs.all nM=true→iq β G w M cs D→iq iO G' w' M' cs D
 | [],D,_,h=>by grind [iq]
 |t::ts,D,hs,h=>by
  simp only[List.all_cons,Bool.and_eq_true]at hs
  simp only[iq]at h ⊢
  obtain⟨u,us,rfl,F,H⟩:=h
  refine⟨u,us,rfl, ?_,wz hs.2 H⟩
  have I:=hs.1
  cases t <;> simp[nM]at I <;> simpa only[il]using F
theorem OP{w w':World}{M M':MSet}{r:T}{cv:Value}(hs:p8 r=true)(h:PRel w M r cv):PRel w' M' r cv:=by
 cases r <;> simp[p8,nM]at hs
 case tup vs=>
  simp only[PRel]at h ⊢
  obtain⟨a,rfl,D⟩:=h
  refine⟨a,rfl, ?_⟩
  generalize a.toList=l at D
  induction vs generalizing l with
  |nil=>grind [PList]
  |cons t ts ih=>
   simp only[PList]at D ⊢
   obtain⟨u,us,rfl,H,N⟩:=D
   have J:=hs t (by simp)
   refine⟨u,us,rfl, ?_,ih (fun x F=>hs x (by simp[F])) us N⟩
   cases t <;> simp[nM]at J <;> try (simpa only[PRel]using H;done)
   simp only[PRel]at H ⊢
   obtain⟨b,rfl,O,I⟩:=H
   exact⟨b,rfl,vf (List.all_eq_true.2 fun x F=>J x F) O,I⟩
 case agg vs=>
  simp only[PRel]at h ⊢
  obtain⟨a,rfl,D,I⟩:=h
  exact⟨a,rfl,vf (List.all_eq_true.2 fun x F=>hs x F) D,I⟩
 all_goals simpa only[PRel]using h
theorem KB{β iO:iJ}{G G':Sp→Nat→Nat}{w w':World}{M M':MSet}{r:T}{cv:Value}(hs:p8 r=true)(h:il β G w M r cv):il iO G' w' M' r cv:=by
 cases r <;> simp[p8,nM]at hs
 case tup vs=>
  simp only[il]at h ⊢
  obtain⟨a,rfl,D⟩:=h
  refine⟨a,rfl, ?_⟩
  generalize a.toList=l at D
  induction vs generalizing l with
  |nil=>grind [iq]
  |cons t ts ih=>
   simp only[iq]at D ⊢
   obtain⟨u,us,rfl,H,N⟩:=D
   have J:=hs t (by simp)
   refine⟨u,us,rfl, ?_,ih (fun x F=>hs x (by simp[F])) us N⟩
   cases t <;> simp[nM]at J <;> try (simpa only[il]using H;done)
   simp only[il]at H ⊢
   obtain⟨b,rfl,O,I⟩:=H
   exact⟨b,rfl,wz (List.all_eq_true.2 fun x F=>J x F) O,I⟩
 case agg vs=>
  simp only[il]at h ⊢
  obtain⟨a,rfl,D,I⟩:=h
  exact⟨a,rfl,wz (List.all_eq_true.2 fun x F=>hs x F) D,I⟩
 all_goals simpa only[il]using h
section
variable{P:Program}{E:Env}{call:p7}{B:lL}{st:St}{a:Act}{w:World}{β:iJ}{M:MSet}{o:Oper}
theorem sW{f:Nat}{D:Func}(H:P.funcs[f]? =some D)(I:(D.name== "runtime.NumGoroutine")=false)(F:D.body.isSome=true)(h:Array Value)(w:World):(callFunc f h).run P w= .ok (.enter f h) w:=by
 have J: ¬D.name= "runtime.NumGoroutine" :=by simpa using I
 have N: ¬D.body=none:=by intro e;rw[e]at F;simp at F
 simp[callFunc,H,J,N]
theorem OQ(N:pC β st.gens w M st.rho a.eval){c:Call}(U:o.op= .call c){sh:Nat}{J3:lH}(h:rS P sh c=some J3){f:Nat}{D:List T}(H:jq st.rho J3=some (some (f,D))):
  ∃F:Array Value,(execOp a.eval o).run P w=(callFunc f F).run P w∧iq β st.gens w M D F.toList:=by
 unfold rS at h
 split at h
 ·rename_i V I
  simp only[Option.map_eq_some_iff]at h
  obtain⟨as,J,rfl⟩:=h
  simp[jq]at H
  obtain⟨rfl,rfl⟩:=H
  refine⟨c.args.map a.eval, ?_,by simpa using vb N J⟩
  simp[execOp,U,resolve,I,Deferred.ofValue,Act.eval,invoke]
 ·rename_i x lM I
  split at h
  ·rename_i y as J W
   simp at h;subst h
   simp only[jq,Option.some.injEq]at H
   split at H
   ·rename_i V fa fc e
    simp at H
    obtain⟨rfl,rfl⟩:=H
    have O:=N x y J
    rw[e]at O
    simp only[il]at O
    obtain⟨X,Y,Z,l1,l2⟩:=O
    refine⟨X++c.args.map a.eval++Y, ?_, ?_⟩
    ·simp[execOp,U,resolve,I,Z,Deferred.ofValue,invoke]
    ·have:=iq.append (iq.append l1 (vb N W)) l2
     simpa using this
   ·simp at H
  ·cases h
 all_goals
  exfalso
  revert H
  try (simp only[Option.map_eq_some_iff]at h;obtain⟨as,J,rfl⟩:=h;simp[jq];done)
  try (cases h;done)
 ·grind [jq]
 ·split at h
  ·grind [jq]
  ·cases h
theorem OR{sh:Nat}{op:Op}{J3:lH}{ρ:iD→T}{x:Option (Nat×List T)}(h:jL P sh op=some J3)(H:jq ρ J3=some x): ∃c,op= .call c∧rS P sh c=some J3:=by
 cases op with
 |call c=>exact⟨c,rfl,h⟩
 |makeFunc D first F=>
  exfalso
  cases D <;> simp only[jL]at h <;> try (cases h;done)
  grind [jq]
 |makeMap t r=>
  exfalso
  cases r <;> simp only[jL]at h
  ·grind [jq]
  ·cases h
 |_=>
  grind [jL,Option.map_eq_some_iff,jq]
theorem am7(h:iU B st w β M){f:Nat}{g:List T→Option (List T×Option Nat)}
  (hnil: ∀r,g []=some ([],r)→r.getD 0=0→ ∀w:World,Calls P f #[oF] w fun e w'=>e= .returned (match r with|none=> .tuple #[]|some _=>oF)∧RowKit.Below w.heap.size w w')
  (uu: ∀cs Z r,g cs=some (Z,r)→Z.length=cs.length→ ∀(w:World) (M:MSet) (blk off J:Nat) (c:Array Value) (el:TypeId) (vs:List Value),w.heap[blk]? =some (.cells c el (0,0))→off+cs.length≤c.size→cs.length≤J→(c.toList.drop off).take cs.length=vs→PList w M cs vs→
    Calls P f #[.slice (some ⟨blk,off,none⟩) cs.length J] w fun e w'=> ∃us,e= .returned (Mv blk off J r)∧PList w M Z us∧RowKit.Below w.heap.size (setBlock w blk (.cells (splice c.toList off us).toArray el)) w')
  {N:List T} {H:Array Value} (hv:iq β st.gens w M N H.toList) {r:T} {O:St} (F:SA g st N=some (r,O)):
  O.fr=st.fr∧Calls P f H w fun e w'=> ∃cv V M',e= .returned cv∧iU B O w' V M'∧Tr st w β M O w' V M'∧w.heap.size≤w'.heap.size∧il V O.gens w' M' r cv:=by
 unfold SA at F
 split at F
 ·have hc:H= #[oF]:=by
   grind [iq,il,Array.toList_inj.1]
  subst hc
  have fin: ∀W:Option Nat,g []=some ([],W)→W.getD 0=0→O=st→(∀V M' w',il V st.gens w' M' r (match W with|none=> .tuple #[]|some _=>oF))→
    O.fr=st.fr∧Calls P f #[oF] w fun e w'=> ∃cv V M',e= .returned cv∧iU B O w' V M'∧Tr st w β M O w' V M'∧w.heap.size≤w'.heap.size∧il V O.gens w' M' r cv:=by
   rintro W hg h0 rfl hr
   refine⟨rfl,(hnil W hg h0 w).mono ?_⟩
   rintro e w' ⟨rfl,D⟩
   obtain⟨o1,o2⟩:=Io h D.os D.tape D.output D.size D.block
   exact⟨_,β,M,rfl,o1,o2,D.size,hr _ _ _⟩
  split at F
  ·grind [Option.some.injEq,Prod.mk.injEq,il,iq]
  ·rename_i hg
   simp only[Option.some.injEq,Prod.mk.injEq]at F
   obtain⟨rfl,rfl⟩:=F
   simp_all[il,oF]
  ·cases F
 ·rename_i sp k g0 off len
  simp only[iq,il]at hv
  obtain⟨u,us,h1,⟨azx,J,rfl,hlc,hce⟩,rfl⟩:=hv
  have hc:H= #[.slice (some ⟨(β sp k g0).blk,(β sp k g0).off+off,none⟩) len J]:=Array.toList_inj.1 h1
  subst hc
  generalize he:st.get sp k=e0 at F
  obtain⟨U,ob⟩:=e0
  cases ob with
  |none=>cases F
  |map _ _ _=>cases F
  |cells cs wm bx=>
  cases bx with
  |true=>cases F
  |false=>
  dsimp only at F
  split at F
  ·rename_i am8
   obtain⟨rfl,Ih,Dz⟩:=am8
   split at F
   ·rename_i Z W hg
    split at F
    ·rename_i WI
     obtain⟨Mo,hy2,hy3⟩:=WI
     simp only[Option.some.injEq,Prod.mk.injEq]at F
     obtain⟨rfl,rfl⟩:=F
     have AF:=h.obj sp k
     rw[he]at AF
     unfold kM at AF
     obtain⟨c,el,fz,ve,h2,h3,h4,h5,h6,h7,h8⟩:=AF
     dsimp only at ve h2 h3 h4 h5 h6
     subst h4
     have I:((cs.drop off).take len).length=len:=by rw[List.length_take,List.length_drop];omega
     have l9:c.toList.length=c.size:=by simp
     have hpl:PList w M ((cs.drop off).take len) ((c.toList.drop ((β sp k U).off+off)).take len):=by
      have q:=PList.take len (PList.drop off (show PList w M cs ((c.toList.drop (β sp k U).off).take cs.length)from h5))
      rw[List.drop_take,List.take_take,List.drop_drop,Nat.min_eq_left (by omega)]at q
      exact q
     have iu:=uu _ Z W hg (by rw[I];exact Mo) w M (β sp k U).blk ((β sp k U).off+off) J c el _ ve (by rw[I];omega) (by rw[I];exact hlc) (by rw[I]) hpl
     rw[I]at iu
     refine⟨aca _ _,iu.mono ?_⟩
     rintro e w' ⟨us,rfl,hpu,D⟩
     have hul:us.length=len:=by rw[←PList.length _ _ hpu];exact Mo
     have X:=xz h he U (Nat.le_refl _) ve off us (splice cs off Z) Ih (by omega) (by rw[jW];omega) (by rw[jW];exact h3) (sV h7 hy2) (by
      rw[jW]
      have SP:(splice (c.toList.drop (β sp k U).off) off us).take cs.length=splice ((c.toList.drop (β sp k U).off).take cs.length) off us:=by
       apply List.ext_getElem?
       intro j
       rw[List.getElem?_take,lF,lF,List.getElem?_take,List.length_take]
       by_cases hj:j<cs.length
       ·rw[if_pos hj,if_pos hj]
        by_cases hc:off≤j∧j<off+us.length∧j<(c.toList.drop (β sp k U).off).length
        ·rw[if_pos hc,if_pos (by omega)]
        ·rw[if_neg hc,if_neg (by omega)]
       ·rw[if_neg hj,if_neg hj,if_neg (by omega)]
      rw[SP]
      exact PList.splice h5 hpu)
     rw[rV]at X
     have Y:=kS w (β sp k U).blk (.cells (splice c.toList ((β sp k U).off+off) us).toArray el)
     obtain⟨o1,o2⟩:=Io X.1 D.os D.tape D.output D.size fun b hb=>D.block b (by rw[Y]at hb;exact hb)
     refine⟨_,β,M,rfl,o1,X.2.trans o2 (by rw[Y];exact Nat.le_refl _),by rw[←Y];exact D.size, ?_⟩
     cases W with
     |none=>simp[ad6,Mv,il,iq]
     |some n=>
      simp only[ad6,Mv,il]
      refine⟨?_,J,rfl, ?_,hce⟩
      ·rw[lb,if_pos ⟨rfl,rfl⟩];exact Nat.le_refl _
      ·simp at hy3;omega
    ·cases F
   ·cases F
  ·cases F
 ·cases F
theorem OS(hE:tB P E)(hO:xH P E call)(h:iU B st w β M){f:Nat}{O:List T}{F:Array Value}(hv:iq β st.gens w M O F.toList){r:T}{W:St}{d:Nat}(D:je E call d st f O=some (r,W)):
  (callFunc f F).run P w= .ok (.enter f F) w∧W.fr=st.fr∧
  Calls P f F w fun e w'=> ∃cv I M',e= .returned cv∧iU B W w' I M'∧Tr st w β M W w' I M'∧w.heap.size≤w'.heap.size∧il I W.gens w' M' r cv:=by
 unfold je at D
 split at D
 ·rename_i af AS
  obtain⟨hs,fn,hf,zj⟩:=hE.1 f af AS
  have hnb:(fn.name== "runtime.NumGoroutine")=false∧fn.body.isSome=true:=by
   grind [D9]
  refine⟨sW hf hnb.1 hnb.2 _ _, ?_⟩
  split at D
  ·rename_i q hq
   obtain⟨ts,us⟩:=q
   obtain⟨M1,q1,q2,q3,q4,q5,q6⟩:=oO (fun t=>Aa af.eff st iE t) O B st w β M _ ts us _ (Fz.refl st) h hv hq
   split at D
   ·rename_i sX
    simp only[Option.map_eq_some_iff]at D
    obtain⟨⟨U,jb⟩,iu,D⟩:=D
    simp at D
    obtain⟨rfl,rfl⟩:=D
    refine⟨FE st us, ?_⟩
    have J:af.own=none:=by
     cases ho:af.own with
     |none=>rfl
     |some j=>rw[((hO f af ts (st.ups us).sh U jb AS iu).2 j ho).1]at sX;cases sX
    have Z:=(hO f af ts (st.ups us).sh U jb AS iu).1 J
    rw[sX]at q4 Z
    have hx:nX true β (bare .nil (st.ups us).sh).gens w M1 ts F.toList:=by
     intro I G' p1 p2
     refine q4 I G' (fun k g hg=>p1 k g ?_) (fun k=>Nat.le_trans (Nat.le_of_eq ?_) (p2 k))
     ·have:(bare .nil (st.ups us).sh).gens .S k=(st.ups us).gens .S k:=rfl
      rw[this,q2.gens];exact hg
     ·have:(bare .nil (st.ups us).sh).gens .S k=(st.ups us).gens .S k:=rfl
      rw[this,q2.gens]
    refine(Z w β M1 F (XB q1 .nil) hx).mono ?_
    rintro e w' ⟨cv,I,M',rfl,H,Du,hG,hr⟩
    obtain⟨b1,b2⟩:=aev q1 H Du hG
    refine⟨cv,_,M',rfl,b1,(Tr.fz q2 q3).trans b2 (Nat.le_refl _),H.size, ?_⟩
    exact hr _ _ (fun _ _ _=>rfl) (fun _=>Nat.le_refl _)
   ·rename_i sX
    simp at sX
    split at D
    ·rename_i r0 iu
     obtain⟨U,jb⟩:=r0
     rw[sX]at q4
     have tT: ∀b,¬lj [] β b:=by rintro b ⟨k,hl,_⟩;simp[jr,iC]at hl;exact hl.elim
     have DD:iU ⟨w,M1,lj [] β⟩ (bare .nil []) w β M1:=by
      have h0:=SS q1 .nil
      exact⟨h0.obj,h0.dist,h0.mlt,fun k hl=>h0.lblk k hl,fun k hl=>(h0.sblk k hl).imp (fun e=>e.elim) id,rfl,rfl,rfl,Nat.le_refl _,fun _ _ _=>rfl,kG.refl w M1,fun _ _ _ _ hm=>hm⟩
     have X: ∀(c:Bool),(c=true→ ∀{w1 M1 w2 M2 cv},PRel w1 M1 U cv→PRel w2 M2 U cv)→ ∀(w':World) (cv:Value) (I:iJ) (M':MSet) (OT:St),OT=(if c=true then st else st.ups us)→iU ⟨w,M1,lj [] β⟩ (bare .nil jb) w' I M'→PRel w' M' U cv→
       ∃Y I M',Ending.returned cv= .returned Y∧iU B OT w' I M'∧Tr st w β M OT w' I M'∧w.heap.size≤w'.heap.size∧il I OT.gens w' M' U Y:=by
      intro c XE w' cv I M' OT FJ H hr'
      have V:=fun b (hb:b<w.heap.size)=>H.same b hb (tT b)
      by_cases nQ:c=true
      ·rw[if_pos nQ]at FJ;subst FJ
       obtain⟨o1,o2⟩:=Io h H.os H.tape H.output H.size V
       exact⟨cv,β,M,rfl,o1,o2,H.size,PRel.toV _ _ _ _ (XE nQ hr')⟩
      ·rw[if_neg nQ]at FJ;subst FJ
       obtain⟨o1,o2⟩:=Io q1 H.os H.tape H.output H.size V
       refine⟨cv,β,M1,rfl,o1,(Tr.fz q2 q3).trans o2 (Nat.le_refl _),H.size,PRel.toV _ _ _ _ (PRel.mono (kf ?_) _ _ hr')⟩
       intro b x hm
       have hb:=q1.mlt b x hm
       exact H.msup b x hb (tT b) hm
     cases J:af.own with
     |none=>
      simp only[J]at D
      simp at D
      obtain⟨rfl,FJ⟩:=D
      have Z:=(hO f af ts [] U jb AS iu).1 J
      rw[sX]at Z
      have aey:W.fr=st.fr:=by rw[←FJ];split;rfl;exact FE st us
      refine⟨aey,(Z w β M1 F DD q4).mono ?_⟩
      rintro e w' ⟨cv,I,M',rfl,H,Du,hG,hr⟩
      exact X (scalar U) (fun h=>KA h) w' cv I M' W FJ.symm H hr
     |some j=>
      simp only[J]at D
      have Z:=((hO f af ts [] U jb AS iu).2 j J).2
      unfold rn at D
      have aey:W.fr=st.fr:=by
       split at D
       ·simp at D;obtain⟨_,rfl⟩:=D;split;rfl;exact FE st us
       ·split at D
        ·simp at D;obtain⟨_,rfl⟩:=D;show(ite _ _ _:St).fr=_;split;rfl;exact FE st us
        ·cases D
       ·cases D
      refine⟨aey,(Z w β M1 F DD q4).mono ?_⟩
      rintro e w' ⟨cv,I,M',rfl,H,hr⟩
      rcases hr with⟨hc,hr⟩|⟨cs,len,hc,S,sz,cap,c,el,s1,s2,s3,s4,s5,s6,s7,s8,s9,s10,s11,s12,s13⟩
      ·rw[hc]at D
       simp at D;obtain⟨rfl,FJ⟩:=D
       exact X (p8 U) (fun h=>OP h) w' cv I M' W FJ.symm H hr
      ·rw[hc]at D
       simp only at D
       split at D
       ·rename_i hcs
        have hsz:cs.length/len=sz:=by rw[s8];exact Nat.mul_div_cancel_left _ (Nat.pos_of_ne_zero s9)
        rw[hsz]at D
        have V:=fun b (hb:b<w.heap.size)=>H.same b hb (tT b)
        have fin: ∀(OT:St) (M3:MSet),iU B OT w β M3→Tr st w β M OT w β M3→(∀β G,il β G w' (Ip M3 S) (iF U j .nilsl) (pt cv j oF))→
          some (iF U j (.isl .L d ((OT.get .L d).g+1) 0 len sz),OT.up (.L,d,⟨(OT.get .L d).g+1,.cells cs 0 false⟩))=some (r,W)→
          ∃Y I M',Ending.returned cv= .returned Y∧iU B W w' I M'∧Tr st w β M W w' I M'∧w.heap.size≤w'.heap.size∧il I W.gens w' M' r Y:=by
         intro OT M3 h3 t3 hv3 D
         simp only[Option.some.injEq,Prod.mk.injEq]at D
         obtain⟨rfl,rfl⟩:=D
         obtain⟨o1,o2⟩:=aew h3 H.os H.tape H.output H.size V d ((OT.get .L d).g+1) (Nat.lt_succ_self _) S s1 (qS s2) (.cells cs 0 false) (by
          unfold kM
          simp only[jv]
          exact⟨c,el,(0,0),s2,s3,s4,rfl,vf hcs.1 s5,fun i _ hi=> .inr ⟨rfl,by omega,by omega⟩,s7,Nat.zero_le _⟩)
         refine⟨cv,_,_,rfl,o1,t3.trans o2 (Nat.le_refl _),H.size,XC (hv3 _ _) s12 ?_ rfl⟩
         simp only[il]
         rw[jv]
         exact⟨by simp[lb],cap,rfl,s10,by simpa using s11⟩
        by_cases nQ:p8 (iF U j .nilsl)=true
        ·simp only[nQ,if_true]at D
         exact fin st M h (Tr.refl _ _ _ _) (fun β G=>KB nQ (s13 β G)) D
        ·simp only[nQ,Bool.false_eq_true,if_false]at D
         refine fin (st.ups us) M1 q1 (Tr.fz q2 q3) (fun β G=>il.mono (kf ?_) (fun _ _ _ _=>rfl) (fun _ _=>Nat.le_refl _) _ _ (s13 β G)) D
         rintro b x (hm|⟨rfl,h1,h2⟩)
         ·exact H.msup b x (q1.mlt b x hm) (tT b) hm
         ·have:=(s6.resolve_left nQ) (x-S.off) (by omega)
          rwa [show S.off+(x-S.off)=x by omega]at this
       ·cases D
    ·cases D
  ·cases D
 ·rename_i g AS Ii
  split at D
  ·rename_i q hq
   obtain⟨ts,us⟩:=q
   simp only[Option.map_eq_some_iff]at D
   obtain⟨U,hg,D⟩:=D
   simp at D
   obtain⟨rfl,rfl⟩:=D
   obtain⟨⟨fn,hf,hn,hb⟩,Z⟩:=hE.2.1 f g AS Ii
   obtain⟨M1,q1,q2,q3,q4,q5,q6⟩:=oO (fun t=>Aa false st iE t) O B st w β M _ ts us _ (Fz.refl st) h hv hq
   refine⟨sW hf hn hb _ _,rfl,(Z ts U hg w M1 F q1.mlt q4).mono ?_⟩
   rintro e w' ⟨cv,rfl,N,hr⟩
   obtain⟨o1,o2⟩:=Io h N.os N.tape N.output N.size N.block
   exact⟨cv,β,M,rfl,o1,o2,N.size,PRel.toV _ _ _ _ (PRel.mono (kf (fun b x hm=>h.mlt b x hm)) _ _ hr)⟩
  ·cases D
 ·rename_i AS Ii
  split at D
  ·rename_i g hwr
   obtain⟨⟨fn,hf,hn,hb⟩,hnil,Z⟩:=hE.2.2 f g AS Ii hwr
   refine⟨sW hf hn hb _ _, ?_⟩
   grind [am7]
  ·cases D
variable{ops:Array Oper}{Q:Exit→Act→World→Prop}{n:Nat}{K:Act→World→Prop}
theorem KC(D:nV st a w β M n){j d:Nat}(F:(ops[j]?).bind (·.dst)=some d)(H:an st.fr d≠ .any):yielded ops a.tmps j=match an st.fr d with| .b x=>some x|_=>none:=by
 unfold yielded
 rw[F]
 simp only[Option.bind_some]
 have hs:=D.slot d
 rw[Array.getD_eq_getD_getElem?]at hs
 cases h:a.tmps[d]? with
 |none=>
  rw[h]at hs
  simp only[Option.getD_none]at hs
  generalize an st.fr d=t at*
  cases t
  case any=>grind
  all_goals (simp only[il,PRel,undef]at hs;simp_all)
 |some cv=>
  rw[h]at hs
  simp only[Option.getD_some]at hs
  generalize an st.fr d=t at*
  cases t <;> simp only[il,PRel]at hs
  case b x=>subst hs;rfl
  case any=>grind
  all_goals first
   |(subst hs;rfl)
   |(obtain⟨_,rfl,_⟩:=hs;rfl)
   |(obtain⟨_,_,rfl,_⟩:=hs;rfl)
   |(obtain⟨_,_,_,rfl,_⟩:=hs;rfl)
   |(obtain⟨_,_,_,_,rfl,_⟩:=hs;rfl)
   |(obtain⟨_,rfl⟩:=hs;rfl)
theorem qV(hE:tB P E)(hO:xH P E call){hs:List Nat}{O:be}{i:Nat}(hi:ops[i]? =some o)(D:ui P hs ops o=some O)(h:iU B st w β M)(J:nV st a w β M n){I:St}(N:ja E call n O st=some I)
  (U: ∀Z w' F M',iU B I w' F M'→nV I Z w' F M' n→Tr st w β M I w' F M'→w.heap.size≤w'.heap.size→K Z w'):wpOp P ops Q i K a w:=by
 have kP:=SD J
 unfold wpOp
 rw[hi]
 simp only
 unfold ui at D
 split at D
 ·rename_i J3 DB
  have core: ∀gd,O=⟨o.dst,J3,gd⟩→(match jq st.rho J3 with
    |some (some c)=>match je E call (o.dst.getD 0) st c.1 c.2 with
     |some r=>(nj st.fr n o.dst r.1).map fun fr=>({r.2 with fr}:St)
     |none=>none
    |some none=>none
    |none=>match(jk (o.dst.getD 0) st.rho J3).run st.get st.sh.length with
     |some (.val v ups)=>(nj st.fr n o.dst v).map fun fr=>({st.ups ups with fr}:St)
     |none=>none)=some I→o.wp P a w K Q:=by
   intro gd _ AH
   unfold Oper.wp
   split at AH
   ·rename_i c iu
    obtain⟨f,V⟩:=c
    split at AH
    ·rename_i r W
     obtain⟨r,zi⟩:=r
     simp only[Option.map_eq_some_iff]at AH
     obtain⟨fr,AR,rfl⟩:=AH
     have H:=OR DB iu
     obtain⟨c,ho,H⟩:=H
     obtain⟨X,hx,wN⟩:=OQ kP ho H iu
     obtain⟨d1,d2,d3⟩:=OS hE hO h wN W
     rw[hx,d1,Oper.upon_enter]
     refine d3.mono ?_
     rintro e w' ⟨cv,F,M',rfl,k1,k2,k3,k4⟩
     refine U _ _ F M' (XD k1 fr) ?_ (k2.fr fr) k3
     exact Ce J k2 AR k4
    ·cases AH
   ·cases AH
   ·split at AH
    ·rename_i v ups hq
     simp only[Option.map_eq_some_iff]at AH
     obtain⟨fr,AR,rfl⟩:=AH
     obtain⟨nx,cv,w',F,M',r1,r2,r3,r4,r5,r6⟩:=am1 (P:=P) kP h DB hq
     rw[r1]
     have:=U (a.put o.dst cv) w' F M' (XD r3 fr) (Ce J r4 AR r6) (r4.fr fr) r5
     rcases r2 with rfl|⟨rfl,rfl⟩
     ·exact this
     ·exact this
    ·cases AH
  split at D
  ·grind [Region.wanted,ja]
  ·rename_i j want hg
   split at D
   ·rename_i d W
    simp at D;subst D
    unfold ja at N
    simp only at N
    have Y:an st.fr d≠ .any:=by intro e;rw[e]at N;cases N
    have hy:=KC (ops:=ops) J W Y
    have aub:(nj st.fr n o.dst iI).map (fun fr=>({st with fr}:St))=some I→K (a.put o.dst undef) w:=by
     intro hp
     simp only[Option.map_eq_some_iff]at hp
     obtain⟨fr,AR,rfl⟩:=hp
     exact U _ _ β M (XD h fr) (Ce J (Tr.refl _ _ _ _) AR (by simp[il,iI,undef,iq])) ((Tr.refl _ _ _ _).fr fr) (Nat.le_refl _)
    grind [Region.wanted]
   ·cases D
 ·cases D
end
end Go.Ev
namespace Go.Ev
open Go
theorem Q.run_congr{α:Type}{h I:Sp→Nat→ib}{F D:Nat}: ∀(q:Q α),(∀κ∈q.log h F,I κ.1 κ.2=h κ.1 κ.2)→(q.asks h F=true→D=F)→q.run I D=q.run h F
 | .ret a,_,_=>rfl
 | .fail,_,_=>rfl
 | .rd sp k f,H,J=>by
   have e:I sp k=h sp k:=H (sp,k) (by simp[Q.log])
   simp only[Q.run,e]
   exact Q.run_congr (f (h sp k)) (fun κ N=>H κ (by simp[Q.log,N])) (fun O=>J (by simp[Q.asks,O]))
 | .new f,H,J=>by
   have e:D=F:=J rfl
   subst e
   simp only[Q.run]
   exact Q.run_congr (f D) (fun κ N=>H κ (by simp[Q.log,N])) (fun _=>rfl)
theorem nO(f:T→Q (T×List Up))(h:Sp→Nat→ib)(D:Nat)(H: ∀t,(f t).asks h D=false): ∀ts,(jd f ts).asks h D=false:=by
 have F: ∀{α γ:Type} (q:Q α) (g:α→Q γ),q.asks h D=false→(∀a,(g a).asks h D=false)→(q.bind g).asks h D=false:=by
  intro α γ q g I J
  induction q with
  |ret a=>exact J a
  |fail=>rfl
  |rd sp k f ih=>grind [Q.bind,Q.asks]
  |new f ih=>simp[Q.asks]at I
 intro ts
 induction ts with
 |nil=>rfl
 |cons t ts ih=>
  simp only[jd]
  refine F _ _ (H t) (fun p=>F _ _ ih (fun q=>rfl))
theorem Mw(h:Sp→Nat→ib)(F:Nat): ∀(keep:Bool) (n:Nat) (t:T),(fz keep n t).asks h F=false:=by
 have D: ∀{α γ:Type} (q:Q α) (g:α→Q γ),q.asks h F=false→(∀a,(g a).asks h F=false)→(q.bind g).asks h F=false:=by
  intro α γ q g H I
  induction q with
  |ret a=>exact I a
  |fail=>rfl
  |rd sp k f ih=>grind [Q.bind,Q.asks]
  |new f ih=>simp[Q.asks]at H
 intro keep n
 induction n generalizing keep with
 |zero=>intro t;rfl
 |succ n ih=>
  intro t
  cases t <;> simp only[fz] <;> try rfl
  ·split
   ·rfl
   ·simp only[Q.asks];split
    ·split
     ·split <;> rfl
     ·split
      ·exact D _ _ (nO _ _ _ (fun t=>ih false t) _) (fun _=>rfl)
      ·rfl
     ·rfl
    ·rfl
  ·split
   ·rfl
   ·simp only[Q.asks];split
    ·split
     ·exact D _ _ (nO _ _ _ (fun t=>ih false t) _) (fun _=>rfl)
     ·rfl
    ·rfl
  ·grind [Q.asks]
  ·exact D _ _ (nO _ _ _ (fun t=>ih keep t) _) (fun _=>D _ _ (nO _ _ _ (fun t=>ih keep t) _) (fun _=>rfl))
  ·exact D _ _ (nO _ _ _ (fun t=>ih keep t) _) (fun _=>rfl)
  ·exact D _ _ (nO _ _ _ (fun t=>ih keep t) _) (fun _=>rfl)
theorem oP{ρ Mx:iD→T}{l:List iD}(h: ∀x∈l,Mx x=ρ x):l.map Mx=l.map ρ:=List.map_congr_left h
theorem pN{ρ Mx:iD→T}{d:Nat}{x:Option iD}(h: ∀y∈x.toList,Mx y=ρ y):ky Mx d x=ky ρ d x:=by
 cases x with
 |none=>rfl
 |some y=>grind [ky]
theorem OU{ρ Mx:iD→T}(d:Nat)(op:lH)(h: ∀x∈yY op,Mx x=ρ x):jk d Mx op=jk d ρ op:=by
 cases op <;> simp only[yY]at h <;> simp only[jk]
 case mv x=>grind
 case pick c a b=>grind
 case box x sh=>grind
 case build z ps=>
  have e: ∀p∈ps,Mx p.2.2=ρ p.2.2:=fun p H=>h _ (List.mem_map.2 ⟨p,H,rfl⟩)
  have I:(ps.all fun p=>decide ((cellsOf (Mx p.2.2)).length=p.2.1)&&noTup (Mx p.2.2))=(ps.all fun p=>decide ((cellsOf (ρ p.2.2)).length=p.2.1)&&noTup (ρ p.2.2)):=by
   grind
  grind [List.map_congr_left]
 case bsl z len ps=>
  grind [List.map_congr_left]
 case ld x n ag=>grind
 case st x v n=>grind
 case nck x=>grind
 case bin o x y=>grind
 case eq n k x y=>grind
 case un o x=>grind
 case cvi k x=>grind
 case mkfn f a c=>rw[oP (fun x F=>h x (by simp[F])),oP (fun x F=>h x (by simp[F]))]
 case mksl z b x sh=>rw[h x (by simp)]
 case slS x l hh=>
  rw[h x (by simp),pN (x:=l) (fun y D=>h y (by simp at D;simp[D]))]
  split
  ·rw[pN (x:=hh) (fun y D=>h y (by simp at D;simp[D]))]
  ·rfl
 case slV sz x l hh m=>
  rw[h x (by simp),pN (x:=l) (fun y D=>h y (by simp at D;simp[D]))]
  split
  ·rfl
  ·rw[pN (x:=hh) (fun y D=>h y (by simp at D;simp[D]))]
   split
   ·rfl
   ·rename_i mm _ _;rw[h mm (by simp)]
   ·rfl
 case fa x o=>rw[h x (by simp)]
 case fld x o n ag=>rw[h x (by simp)]
 case ia x y n=>rw[h x (by simp),h y (by simp)]
 case iaA x y l n=>rw[h x (by simp),h y (by simp)]
 case ixS x y=>rw[h x (by simp),h y (by simp)]
 case ixA x y l n ag=>rw[h x (by simp),h y (by simp)]
 case lk k x y z ok=>rw[h x (by simp),h y (by simp)]
 case mu k x y z=>rw[h x (by simp),h y (by simp),h z (by simp)]
 case ext x j=>rw[h x (by simp)]
 case lenS x=>rw[h x (by simp)]
 case lenV x=>rw[h x (by simp)]
 case lenM x=>rw[h x (by simp)]
 case app s b x y sh nm=>rw[h x (by simp),h y (by simp)]
 case mm b as=>rw[oP h]
theorem FL{ρ Mx:iD→T}(op:lH)(h: ∀x∈yY op,Mx x=ρ x):jq Mx op=jq ρ op:=by
 cases op <;> simp only[yY]at h <;> simp only[jq]
 case callf f as=>simp_all
 case callv f as=>rw[h f (by simp),oP (fun x D=>h x (by simp[D]))]
theorem SX{ρ:iD→T}{op:lH}(I:quiet op=true)(d:Nat)(h:Sp→Nat→ib)(H:Nat):jq ρ op=none∧(jk d ρ op).log h H= []∧(jk d ρ op).asks h H=false∧ ∀v D,(jk d ρ op).run h H=some (.val v D)→D= []:=by
 have F: ∀x:Option T,(Ev.val x).log h H= []∧(Ev.val x).asks h H=false∧ ∀v D,(Ev.val x).run h H=some (.val v D)→D= []:=by
  intro x;cases x <;> simp[Ev.val,Q.log,Q.asks,Q.run]
 cases op <;> simp[quiet]at I <;> refine⟨rfl, ?_⟩ <;> simp only[jk]
 case slV sz x l hh m=>
  split
  ·simp[Q.log,Q.asks,Q.run]
  ·split
   ·unfold z7
    grind [Q.bind,Q.log,Q.asks,Q.run]
   ·grind [Q.log,Q.asks,Q.run]
   ·simp[Q.log,Q.asks,Q.run]
 all_goals first
  |exact F _
  |(simp[Q.log,Q.asks,Q.run];done)
  |(repeat' split
    all_goals first
     |exact F _
     |(simp[Q.log,Q.asks,Q.run];done))
end Go.Ev
namespace Go.Ev
open Go
theorem Iq{us:List Up}{sp:Sp}{k:Nat}:oC us sp k=true↔(sp,k)∈j4 us:=by
 grind [oC,j4]
theorem Ir(s p:St): ∀(us:List Up) (sp:Sp) (k:Nat),oC us sp k=true→(s.ups us).get sp k=(p.ups us).get sp k:=by
 intro us
 induction us generalizing s p with
 |nil=>grind [oC]
 |cons u us ih=>
  grind [St.ups,pM,oC,lR]
theorem AT(s p:St)(us:List Up)(sp:Sp)(k:Nat):(s.ups us).get sp k=if(sp,k)∈j4 us then(p.ups us).get sp k else s.get sp k:=by
 split
 ·rename_i h;exact Ir s p us sp k (Iq.2 h)
 ·rename_i h
  refine pM s us sp k ?_
  cases D:oC us sp k with
  |false=>rfl
  |true=>exact absurd (Iq.1 D) h
theorem KD(s p:St)(hs:s.sh=p.sh): ∀us,(s.ups us).sh=(p.ups us).sh:=by
 intro us
 induction us generalizing s p with
 |nil=>exact hs
 |cons u us ih=>
  simp only[St.ups]
  refine ih _ _ ?_
  obtain⟨a,b,c⟩:=u
  cases a
  ·exact hs
  ·simp[St.up,hs]
theorem FM(s:St): ∀us,(∀u∈us,u.1= .S→u.2.1<s.sh.length)→(s.ups us).sh.length=s.sh.length:=by
 intro us
 induction us generalizing s with
 |nil=>intro _;rfl
 |cons u us ih=>
  intro h
  obtain⟨a,b,c⟩:=u
  simp only[St.ups]
  have D:(s.up (a,b,c)).sh.length=s.sh.length:=by
   cases a with
   |L=>rfl
   |S=>simp_all[St.up,uk]
  grind
theorem KE{s p:St}{us:List Up}(h:vW p us=true)(F: ∀sp k,(sp,k)∈j4 us→s.get sp k=p.get sp k): ∀u∈us,u.1= .S→u.2.1<s.sh.length:=by
 intro u D e
 unfold vW at h
 rw[List.all_eq_true]at h
 have H:=h u D
 obtain⟨a,b,c⟩:=u
 dsimp only at e;subst e
 simp at H
 have I:=F .S b (by unfold j4;exact List.mem_map.2 ⟨_,D,rfl⟩)
 refine Mk (st:=s) ?_
 grind [BT,live]
theorem FN{fr fr2:Fr}{n:Nat}{d:Option Nat}{v:T}{g:Fr}(h:nj fr n d v=some g): ∃D,nj fr2 n d v=some D∧ ∀t,an D t=if d=some t then an g t else an fr2 t:=by
 cases d with
 |none=>exact⟨fr2,rfl,fun t=>by simp⟩
 |some d=>
  grind [nj,pS]
def wrote(fp:FP)(sp:Sp)(k:Nat):Prop:=(sp,k)∈fp.w∨(fp.all=true∧sp= .S)
structure XF (ao:be) (fp:FP) (s s' p':St):Prop where
 slot: ∀t,an s'.fr t=if ao.d=some t then an p'.fr t else an s.fr t
 key: ∀sp k,(wrote fp sp k→s'.get sp k=p'.get sp k)∧(¬wrote fp sp k→s'.get sp k=s.get sp k)
 len:(fp.all=true→s'.sh.length=p'.sh.length)∧(fp.all=false→s'.sh.length=s.sh.length)
variable{E:Env}{call:p7}{n:Nat}
theorem OV{s p:St}{D:be}(h: ∀t∈looks D,an s.fr t=an p.fr t): ∀x∈yY D.op,s.rho x=p.rho x:=by
 intro x F
 cases x with
 |t m=>
  refine h m ?_
  grind [looks,tmpsOf]
 |c v=>rfl
theorem XG{s p:St}{d j:Nat}{r J:T}{us:List Up}{N:St}(D:rn d j r p us=some (J,N))(h: ∀sp k,(sp,k)∈(Sp.L,d)::j4 us→s.get sp k=p.get sp k)(V:(s.ups us).sh.length=s.sh.length):
  ∃F,rn d j r s us=some (J,F)∧(∀sp k,((sp,k)∈(Sp.L,d)::j4 us→F.get sp k=N.get sp k)∧((sp,k)∉(Sp.L,d)::j4 us→F.get sp k=s.get sp k))∧F.sh.length=s.sh.length:=by
 have base: ∀(c:Bool) (sp:Sp) (k:Nat),((sp,k)∈(Sp.L,d)::j4 us→(if c=true then s else s.ups us).get sp k=(if c=true then p else p.ups us).get sp k)∧((sp,k)∉(Sp.L,d)::j4 us→(if c=true then s else s.ups us).get sp k=s.get sp k):=by
  grind [Bool.false_eq_true,AT]
 have len: ∀c:Bool,(if c=true then s else s.ups us).sh.length=s.sh.length:=by
  grind
 unfold rn at D ⊢
 split at D
 ·rename_i O
  simp only[Option.some.injEq,Prod.mk.injEq]at D ⊢
  obtain⟨rfl,rfl⟩:=D
  exact⟨_,⟨rfl,rfl⟩,base _,len _⟩
 ·rename_i cs SE ex O
  split at D
  ·rename_i I
   rw[if_pos I]
   simp only[Option.some.injEq,Prod.mk.injEq]at D ⊢
   obtain⟨rfl,rfl⟩:=D
   have U:=(base (p8 (iF r j .nilsl)) .L d).1 (List.mem_cons_self ..)
   rw[U]
   refine⟨_,⟨rfl,rfl⟩,fun sp k=>⟨fun H=> ?_,fun H=> ?_⟩, ?_⟩
   ·rw[lR,lR]
    split
    ·rfl
    ·exact(base _ sp k).1 H
   ·rw[lR,if_neg (by rintro⟨rfl,rfl⟩;exact H (List.mem_cons_self ..))]
    exact(base _ sp k).2 H
   ·exact len _
  ·cases D
 ·cases D
theorem Is{h:be}{fp:FP}{s p U:St}(he:ja E call n h p=some U)(kW:jC E call h p=some fp)(h1: ∀t∈looks h,an s.fr t=an p.fr t)(V: ∀sp k,(sp,k)∈fp.r∨(sp,k)∈fp.w→s.get sp k=p.get sp k)(h3:fp.all=true→s.sh=p.sh):
  ∃N,ja E call n h s=some N∧XF h fp s N U:=by
 have W:=OV h1
 have aub:(nj p.fr n h.d iI).map (fun fr=>({p with fr}:St))=some U→fp=oB→ ∃N,(nj s.fr n h.d iI).map (fun fr=>({s with fr}:St))=some N∧XF h fp s N U:=by
  intro hp hn
  subst hn
  simp only[Option.map_eq_some_iff]at hp
  obtain⟨g,X,rfl⟩:=hp
  obtain⟨g2,Y,Z⟩:=FN (fr2:=s.fr) X
  refine⟨{s with fr:=g2},by rw[Y];rfl,Z,fun sp k=>⟨fun hw=> ?_,fun _=>rfl⟩,⟨(fun H=>by cases H),fun _=>rfl⟩⟩
  rcases hw with hw|hw
  ·simp[oB]at hw
  ·cases hw.1
 have core:(match jq p.rho h.op with
       |some (some c)=>match je E call (h.d.getD 0) p c.1 c.2 with
        |some r=>(nj p.fr n h.d r.1).map fun fr=>({r.2 with fr}:St)
        |none=>none
       |some none=>none
       |none=>match(jk (h.d.getD 0) p.rho h.op).run p.get p.sh.length with
        |some (.val v ups)=>(nj p.fr n h.d v).map fun fr=>({p.ups ups with fr}:St)
        |none=>none)=some U→(match jq p.rho h.op with
       |some (some c)=>lE E call (h.d.getD 0) p c.1 c.2
       |some none=>none
       |none=>
        let q:=jk (h.d.getD 0) p.rho h.op
        match q.run p.get p.sh.length with
        |some (.val _ ups)=>if q.asks p.get p.sh.length||vW p ups then some (⟨q.asks p.get p.sh.length,q.log p.get p.sh.length,j4 ups⟩:FP)else none
        |none=>none)=some fp→
   ∃N,(match jq s.rho h.op with
    |some (some c)=>match je E call (h.d.getD 0) s c.1 c.2 with
     |some r=>(nj s.fr n h.d r.1).map fun fr=>({r.2 with fr}:St)
     |none=>none
    |some none=>none
    |none=>match(jk (h.d.getD 0) s.rho h.op).run s.get s.sh.length with
     |some (.val v ups)=>(nj s.fr n h.d v).map fun fr=>({s.ups ups with fr}:St)
     |none=>none)=some N∧XF h fp s N U:=by
  intro AH D
  rw[FL h.op W]
  split at AH
  ·rename_i c hc
   obtain⟨f,args⟩:=c
   rw[hc]at D
   simp only[hc]at D ⊢
   split at AH
   ·rename_i r F
    obtain⟨r,p2⟩:=r
    simp only[Option.map_eq_some_iff]at AH
    obtain⟨g,X,rfl⟩:=AH
    obtain⟨g2,Y,Z⟩:=FN (fr2:=s.fr) X
    suffices hs: ∃s2,je E call (h.d.getD 0) s f args=some (r,s2)∧(∀sp k,(wrote fp sp k→s2.get sp k=p2.get sp k)∧(¬wrote fp sp k→s2.get sp k=s.get sp k))∧(fp.all=true→s2.sh.length=p2.sh.length)∧(fp.all=false→s2.sh.length=s.sh.length)by
     obtain⟨s2,d1,d2,d3⟩:=hs
     refine⟨{s2 with fr:=g2},by rw[d1];simp[Y],Z,d2,d3⟩
    unfold lE at D
    unfold je at F ⊢
    split at F
    ·rename_i af AS
     simp only[AS]at D ⊢
     cases J:(jd (fz af.eff iE) args).run p.get p.sh.length with
     |none=>simp[J]at F
     |some q=>
      obtain⟨ts,us⟩:=q
      simp only[J]at F D
      split at D
      ·cases D
      ·rename_i OW
       simp at OW
       have FB: ∀κ∈(jd (fz af.eff iE) args).log p.get p.sh.length,κ∈fp.r:=by
        grind
       have xE:(jd (fz af.eff iE) args).run s.get s.sh.length=some (ts,us):=by
        rw[←J]
        refine Q.run_congr _ (fun κ I=>V _ _ (.inl (FB κ I))) (fun H=> ?_)
        rw[nO _ _ _ (fun t=>Mw _ _ _ _ t)]at H;cases H
       rw[xE]
       simp only
       split at F
       ·rename_i sX
        simp only[sX,if_true]at D ⊢
        simp at D;subst D
        simp only[Option.map_eq_some_iff]at F
        obtain⟨⟨r',jb⟩,iu,F⟩:=F
        simp at F;obtain⟨rfl,rfl⟩:=F
        have lC:=h3 rfl
        have auc:=KD s p lC us
        refine⟨{s.ups us with sh:=jb},by rw[auc,iu];rfl,fun sp k=> ?_,fun _=>rfl,(fun H=>by cases H)⟩
        cases sp with
        |S=>exact⟨fun _=>rfl,fun hw=>absurd (.inr ⟨rfl,rfl⟩) hw⟩
        |L=>
         have:=AT s p us .L k
         refine⟨fun hw=> ?_,fun hw=> ?_⟩
         ·rcases hw with hw|hw
          ·rw[if_pos hw]at this;exact this
          ·cases hw.2
         ·rw[if_neg (fun e=>hw (.inl e))]at this;exact this
       ·rename_i sX
        simp only[sX,Bool.false_eq_true,if_false]at D ⊢
        split at F
        ·rename_i r0 iu
         simp only[iu]at D ⊢
         cases O:af.own with
         |some j=>
          simp only[O]at D F ⊢
          simp at D;subst D
          obtain⟨s2,g1,g2,g3⟩:=XG (s:=s) F (fun sp k I=>V sp k (.inr I)) (FM s us (KE OW (fun sp k I=>V sp k (.inr (List.mem_cons_of_mem _ I)))))
          refine⟨s2,g1,fun sp k=>⟨fun hw=> ?_,fun hw=>(g2 sp k).2 (fun e=>hw (.inl e))⟩,(fun H=>by cases H),fun _=>g3⟩
          rcases hw with hw|hw
          ·exact(g2 sp k).1 hw
          ·cases hw.1
         |none=>
         simp only[O]at D F ⊢
         simp at D;subst D
         simp at F;obtain⟨rfl,rfl⟩:=F
         by_cases nQ:scalar r0.1=true
         ·simp only[nQ,if_true]
          refine⟨s,rfl,fun sp k=>⟨fun hw=> ?_,fun _=>rfl⟩,(fun H=>by cases H),fun _=>rfl⟩
          rcases hw with hw|hw
          ·simp at hw
          ·cases hw.1
         ·simp only[nQ,Bool.false_eq_true,if_false]
          refine⟨s.ups us,rfl,fun sp k=> ?_,(fun H=>by cases H),fun _=> ?_⟩
          ·have:=AT s p us sp k
           refine⟨fun hw=> ?_,fun hw=> ?_⟩
           ·rcases hw with hw|hw
            ·rw[if_pos hw]at this;exact this
            ·cases hw.1
           ·rw[if_neg (fun e=>hw (.inl e))]at this;exact this
          ·exact FM s us (KE OW (fun sp k I=>V sp k (.inr (by simpa[nQ]using I))))
        ·cases F
    ·rename_i g' AS Ii
     simp only[AS,Ii]at D ⊢
     simp at D;subst D
     cases J:(jd (fz false iE) args).run p.get p.sh.length with
     |none=>simp[J]at F
     |some q=>
      simp only[J]at F
      have xE:(jd (fz false iE) args).run s.get s.sh.length=some q:=by
       rw[←J]
       refine Q.run_congr _ (fun κ I=>V _ _ (.inl I)) (fun H=> ?_)
       rw[nO _ _ _ (fun t=>Mw _ _ _ _ t)]at H;cases H
      rw[xE]
      simp only[Option.map_eq_some_iff]at F ⊢
      obtain⟨r',hg',F⟩:=F
      simp at F;obtain⟨rfl,rfl⟩:=F
      refine⟨s,⟨r',hg',rfl⟩,fun sp k=>⟨fun hw=> ?_,fun _=>rfl⟩,(fun H=>by cases H),fun _=>rfl⟩
      rcases hw with hw|hw
      ·simp at hw
      ·cases hw.1
    ·rename_i AS Ii
     simp only[AS,Ii]at D
     cases D
   ·cases AH
  ·cases AH
  ·rename_i hc
   simp only[hc]at D ⊢
   rw[OU _ h.op W]
   split at AH
   ·rename_i v ups J
    simp only[J]at D
    split at D
    ·rename_i OW
     simp at D;subst D
     simp only[Option.map_eq_some_iff]at AH
     obtain⟨g,X,rfl⟩:=AH
     obtain⟨g2,Y,Z⟩:=FN (fr2:=s.fr) X
     have xE:(jk (h.d.getD 0) p.rho h.op).run s.get s.sh.length=some (.val v ups):=by
      grind [Q.run_congr]
     rw[xE]
     refine⟨{s.ups ups with fr:=g2},by simp[Y],Z,fun sp k=> ?_, ?_⟩
     ·have:=AT s p ups sp k
      refine⟨fun hw=> ?_,fun hw=> ?_⟩
      ·by_cases hm:(sp,k)∈j4 ups
       ·rw[if_pos hm]at this;exact this
       ·rcases hw with hw|hw
        ·exact absurd hw hm
        ·obtain⟨ha,rfl⟩:=hw
         have lC:=KD s p (h3 ha) ups
         show jr (s.ups ups).sh k=jr (p.ups ups).sh k
         rw[lC]
      ·rw[if_neg (fun e=>hw (.inl e))]at this;exact this
     ·refine⟨fun ha=> ?_,fun ha=> ?_⟩
      ·have lC:=KD s p (h3 ha) ups
       show(s.ups ups).sh.length=(p.ups ups).sh.length
       rw[lC]
      ·rw[show(jk (h.d.getD 0) p.rho h.op).asks p.get p.sh.length=false from ha,Bool.false_or]at OW
       exact FM s ups (KE OW (fun sp k I=>V sp k (.inr I)))
    ·cases D
   ·cases AH
 unfold ja at he ⊢
 unfold jC at kW
 cases hgd:h.gd with
 |none=>
  grind
 |some g=>
  obtain⟨j,want⟩:=g
  simp only[hgd]at he kW ⊢
  grind [looks]
end Go.Ev
namespace Go.Ev
open Go
theorem It(h:List Nat): ∀(D:List Nat) (F i:Nat),(D.foldl (fun m p=>m ||| 2 ^ p ||| iC 0 h p) F).testBit i=true↔F.testBit i=true∨ ∃p∈D,p=i∨(iC 0 h p).testBit i=true
 | [],F,i=>by simp
 |p::D,F,i=>by
  simp only[List.foldl_cons]
  rw[It h D]
  grind
theorem KF(h D:List Nat)(i:Nat):(Fx h D).testBit i=true↔ ∃p∈D,p=i∨(iC 0 h p).testBit i=true:=by
 unfold Fx;rw[It];simp
theorem oZ{α:Type}(d:α): ∀(l D:List α) (k:Nat),k<l.length→iC d (l++D) k=iC d l k
 | [],D,k,h=>by simp at h
 |x::xs,D,0,h=>rfl
 |x::xs,D,k+1,h=>by simp_all[List.cons_append,iC,oZ]
theorem vg{α:Type}(d:α): ∀(l:List α) (x:α),iC d (l++ [x]) l.length=x
 | [],x=>rfl
 |y::h,x=>by simp_all[List.cons_append,List.length_cons,iC,vg]
theorem Cf: ∀(rA:List (List Nat)) (h:List Nat),(p9 rA h).length=h.length+rA.length∧(∀k,k<h.length→iC 0 (p9 rA h) k=iC 0 h k)∧
  ∀j ps,rA[j]? =some ps→ ∀i,(iC 0 (p9 rA h) (h.length+j)).testBit i=true↔ ∃p∈ps,p=i∨((if p<h.length+j then iC 0 (p9 rA h) p else 0).testBit i=true)
 | [],h=>by simp[p9]
 |ps::rA,h=>by
  obtain⟨H,I,J⟩:=Cf rA (h++ [Fx h ps])
  simp only[p9]
  refine⟨by rw[H];simp;omega,fun k D=> ?_,fun j N F i=> ?_⟩
  ·grind [oZ]
  ·cases j with
   |zero=>
    simp at F;subst F
    rw[Nat.add_zero,I h.length (by simp),vg,KF]
    constructor
    ·rintro⟨p,O,e⟩
     refine⟨p,O,e.imp id fun e=> ?_⟩
     by_cases U:p<h.length
     ·grind [oZ]
     ·exfalso
      have: ∀(l:List Nat) (k:Nat),l.length≤k→iC 0 l k=0:=by
       intro l
       induction l with
       |nil=>intro k _;rfl
       |cons x xs ih=>intro k D;cases k with|zero=>simp at D|succ k=>exact ih k (by simpa using D)
      grind
    grind [oZ]
   |succ j=>
    have:=J j N (by simpa using F) i
    grind
theorem xI: ∀(rA:List (List Nat)) (D:Nat),xi D rA=true→ ∀j F,rA[j]? =some F→ ∀p∈F,p<D+j
 | [],D,h,j,F,H,p,I=>by simp at H
 |q::rA,D,h,j,F,H,p,I=>by
  simp only[xi,Bool.and_eq_true,List.all_eq_true]at h
  cases j with
  |zero=>grind
  |succ j=>
   have:=xI rA (D+1) h.2 j F (by simpa using H) p I
   omega
theorem Cg{m:Nat}{as:List be}{k:Nat}{a:be}:(k,a)∈BY m as↔as[k]? =some a∧m.testBit k=false:=by
 unfold BY
 rw[List.mem_filter,List.mem_map]
 constructor
 ·grind
 ·rintro⟨h,D⟩
  exact⟨⟨(a,k),List.mem_zipIdx_iff_getElem?.2 h,rfl⟩,by simpa using D⟩
theorem xJ: ∀(F D:List be) (N:List Nat),xj N D F=true→ ∀j a,F[j]? =some a→ ∀m,N[j]? =some m→ ∀k H,k<D.length+j→(D++F)[k]? =some H→m.testBit k=false→mF H a=true
 | [],D,N,h,j,a,I,m,J,k,H,V,O,U=>by simp at I
 |r::F,D,[],h,j,a,I,m,J,k,H,V,O,U=>by simp at J
 |r::F,D,W::N,h,j,a,I,m,J,k,H,V,O,U=>by
  simp only[xj,Bool.and_eq_true,List.all_eq_true]at h
  cases j with
  |zero=>
   simp at I J;subst I;subst J
   have:D[k]? =some H:=by rw[List.getElem?_append_left (by omega)]at O;exact O
   exact h.1 (k,H) (Cg.2 ⟨this,U⟩)
  |succ j=>
   exact xJ F (D++ [r]) N h.2 j a (by simpa using I) m (by simpa using J) k H (by simp;omega) (by simpa using O) U
variable{E:Env}{call:p7}{n:Nat}
theorem Ch: ∀(F D:List be) (J:List Nat) (N:List FP) (st H:St),N.length=D.length→J.length=F.length→iQ E call n (rU J D F) N st=some H→
  ∃(pre:Nat→St) (fp:Nat→FP),pre 0=st∧pre F.length=H∧ ∀j a m,F[j]? =some a→J[j]? =some m→ja E call n a (pre j)=some (pre (j+1))∧jC E call a (pre j)=some (fp j)∧
   ∀k O,k<D.length+j→(D++F)[k]? =some O→m.testBit k=false→quiet a.op=false→quiet O.op=false→apart (if k<D.length then iC ⟨true,[],[]⟩ N k else fp (k-D.length)) (fp j)=true
 | [],D,J,N,st,H,hl,X,h=>by
   cases J with
   |cons _ _=>simp at X
   |nil=>simp[rU,iQ]at h;subst h;exact⟨fun _=>st,fun _=>oB,rfl,rfl,by simp⟩
 |r::F,D,[],N,st,H,hl,X,h=>by simp at X
 |r::F,D,m0::J,N,st,H,hl,X,h=>by
  simp only[rU,iQ]at h
  cases hf:jC E call r st with
  |none=>simp[hf]at h
  |some Y=>
   simp only[hf]at h
   generalize hu:(if quiet r.op=true then []else((BY m0 D).filter fun p=> !quiet p.2.op).map (·.1))=uno at h
   split at h
   ·rename_i I
    cases he:ja E call n r st with
    |none=>simp[he]at h
    |some lP=>
     simp only[he]at h
     obtain⟨pre,fp,p1,p2,p3⟩:=Ch F (D++ [r]) J (N++ [Y]) lP H (by simp[hl]) (by simpa using X) h
     refine⟨fun j=>match j with|0=>st|j+1=>pre j,fun j=>match j with|0=>Y|j+1=>fp j,rfl,p2,fun j a m hj U=> ?_⟩
     cases j with
     |zero=>
      simp at hj U;subst hj;subst U
      refine⟨by simp only;rw[he,p1],hf,fun k O hk ha hb V W=> ?_⟩
      have Z:k<D.length:=by omega
      rw[if_pos Z]
      have ha':D[k]? =some O:=by rw[List.getElem?_append_left Z]at ha;exact ha
      rw[List.all_eq_true]at I
      refine I k ?_
      rw[←hu,if_neg (by rw[V];simp)]
      exact List.mem_map.2 ⟨(k,O),List.mem_filter.2 ⟨Cg.2 ⟨ha',hb⟩,by simp[W]⟩,rfl⟩
     |succ j=>
      obtain⟨e1,e2,e3⟩:=p3 j a m (by simpa using hj) (by simpa using U)
      refine⟨e1,e2,fun k O hk ha hb V W=> ?_⟩
      have:=e3 k O (by simp;omega) (by simpa using ha) hb V W
      by_cases h1:k<D.length
      ·grind [oZ]
      ·rw[if_neg h1]
       by_cases h2:k=D.length
       ·subst h2
        rw[if_pos (by simp),←hl,vg]at this
        simpa using this
       ·rw[if_neg (by simp;omega)]at this
        obtain⟨x,hx⟩: ∃x,k-D.length=x+1:=⟨k-D.length-1,by omega⟩
        rw[hx]
        simp only
        have hx2:k-(D++ [r]).length=x:=by simp;omega
        rw[hx2]at this
        exact this
   ·cases h
theorem Iu{a:be}{p:St}{fp:FP}(I:quiet a.op=true)(h:jC E call a p=some fp):fp.all=false∧fp.r= []∧fp.w= []:=by
 obtain⟨J,N,O,U⟩:=SX (ρ:=p.rho) I (a.d.getD 0) p.get p.sh.length
 have H:(match jq p.rho a.op with
       |some (some c)=>lE E call (a.d.getD 0) p c.1 c.2
       |some none=>none
       |none=>
        let q:=jk (a.d.getD 0) p.rho a.op
        match q.run p.get p.sh.length with
        |some (.val _ D)=>if q.asks p.get p.sh.length||vW p D then some (⟨q.asks p.get p.sh.length,q.log p.get p.sh.length,j4 D⟩:FP)else none
        |none=>none)=some fp→fp.all=false∧fp.r= []∧fp.w= []:=by
  intro F
  rw[J]at F
  simp only at F
  split at F
  ·rename_i v D V
   have:=U v D V;subst this
   split at F
   ·simp at F;subst F;exact⟨O,N,rfl⟩
   ·cases F
  ·cases F
 unfold jC at h
 cases W:a.gd with
 |none=>grind
 |some g=>
  simp only[W]at h
  split at h
  ·split at h
   ·exact H h
   ·simp at h;subst h;exact⟨rfl,rfl,rfl⟩
  ·simp at h;subst h;exact⟨rfl,rfl,rfl⟩
theorem SY: ∀(a b:List ib),(∀k,jr a k=jr b k)→a.length=b.length→a=b
 | [],[],_,_=>rfl
 | [],y::D,_,h=>by simp at h
 |x::xs,[],_,h=>by simp at h
 |x::xs,y::D,h,F=>by
  have H:x=y:=h 0
  rw[H,SY xs D (fun k=>h (k+1)) (by simpa using F)]
end Go.Ev
namespace Go.Ev
open Go
variable{E:Env}{call:p7}{n:Nat}
structure oQ (E:Env) (call:p7) (n:Nat) (as:List be) (rA:List (List Nat)) (bit:Nat→Nat→Bool) (pre:Nat→St) (fp:Nat→FP):Prop where
 len:rA.length=as.length
 edges: ∀(j:Nat) (ps:List Nat),rA[j]? =some ps→ ∀p∈ps,p<j
 bits: ∀(j:Nat) (ps:List Nat),rA[j]? =some ps→ ∀i,bit j i=true↔ ∃p∈ps,p=i∨bit p i=true
 run: ∀(j:Nat) (a:be),as[j]? =some a→ja E call n a (pre j)=some (pre (j+1))∧jC E call a (pre j)=some (fp j)
 slots: ∀(j:Nat) (a:be) (k:Nat) (a':be),as[j]? =some a→as[k]? =some a'→k<j→bit j k=false→mF a' a=true
 apart: ∀(j:Nat) (a:be) (k:Nat) (a':be),as[j]? =some a→as[k]? =some a'→k<j→bit j k=false→quiet a.op=false→quiet a'.op=false→Ev.apart (fp k) (fp j)=true
variable{as:List be}{rA:List (List Nat)}{bit:Nat→Nat→Bool}{pre:Nat→St}{fp:Nat→FP}
def Ci(rA:List (List Nat))(L:Nat→Prop):Prop:= ∀(j:Nat) (h:List Nat),rA[j]? =some h→L j→ ∀p∈h,L p
theorem Ah(R:oQ E call n as rA bit pre fp){L:Nat→Prop}(O:Ci rA L): ∀(j:Nat) (h:List Nat),rA[j]? =some h→(∀p∈h,L p)→ ∀i,bit j i=true→L i:=by
 intro j
 induction j using Nat.strongRecOn with
 |_ j ih=>
  intro h F J i U
  obtain⟨p,H,h2⟩:=(R.bits j h F i).1 U
  rcases h2 with rfl|h2
  ·exact J p H
  ·have D:=R.edges j h F p H
   have I:p<rA.length:=Nat.lt_trans D (List.getElem?_eq_some_iff.1 F).1
   have N:rA[p]? =some rA[p]:=List.getElem?_eq_getElem I
   exact ih p D _ N (O p _ N (J p H)) i h2
theorem uv(R:oQ E call n as rA bit pre fp){L:Nat→Prop}(F:Ci rA L){i j:Nat}(hi:i<as.length)(U:j<as.length)(H: ¬L i)(I: ∀N,rA[i]? =some N→ ∀p∈N,L p)(V:i=j∨(j<i∧bit i j=true)∨(i<j∧bit j i=true)):L j↔j<i:=by
 rcases V with rfl|⟨O,J⟩|⟨O,J⟩
 ·grind
 ·refine⟨fun _=>O,fun _=> ?_⟩
  have W:i<rA.length:=by rw[R.len];exact hi
  have D:rA[i]? =some rA[i]:=List.getElem?_eq_getElem W
  exact Ah R F i _ D (I _ D) j J
 ·refine⟨fun X=>absurd ?_ H,fun h=>by omega⟩
  have DE:j<rA.length:=by rw[R.len];exact U
  have D:rA[j]? =some rA[j]:=List.getElem?_eq_getElem DE
  exact Ah R F j _ D (F j _ D X) i J
structure Inv (as:List be) (pre:Nat→St) (fp:Nat→FP) (L:Nat→Prop) (s:St):Prop where
 slot: ∀t i,i≤as.length→(∀(j:Nat) (a:be),as[j]? =some a→a.d=some t→(L j↔j<i))→an s.fr t=an (pre i).fr t
 key: ∀sp k i,i≤as.length→(∀j,j<as.length→wrote (fp j) sp k→(L j↔j<i))→s.get sp k=(pre i).get sp k
 len: ∀i,i≤as.length→(∀j,j<as.length→(fp j).all=true→(L j↔j<i))→s.sh.length=(pre i).sh.length
theorem Cj(R:oQ E call n as rA bit pre fp){j:Nat}{a:be}(h:as[j]? =some a):XF a (fp j) (pre j) (pre (j+1)) (pre (j+1)):=by
 obtain⟨D,F⟩:=R.run j a h
 obtain⟨H,I,J⟩:=Is (s:=pre j) D F (fun _ _=>rfl) (fun _ _ _=>rfl) (fun _=>rfl)
 grind
theorem Iv(R:oQ E call n as rA bit pre fp)(t i:Nat): ∀h,i≤h→h≤as.length→(∀(j:Nat) (a:be),as[j]? =some a→i≤j→j<h→a.d≠some t)→an (pre h).fr t=an (pre i).fr t:=by
 intro h I
 induction h with
 |zero=>grind
 |succ m ih=>
  intro J N
  by_cases F:i=m+1
  ·subst F;rfl
  ·have D:m<as.length:=by omega
   have H:as[m]? =some as[m]:=List.getElem?_eq_getElem D
   have O:=(Cj R H).slot t
   grind
theorem My(R:oQ E call n as rA bit pre fp)(sp:Sp)(k i:Nat): ∀h,i≤h→h≤as.length→(∀j,i≤j→j<h→ ¬wrote (fp j) sp k)→(pre h).get sp k=(pre i).get sp k:=by
 intro h J
 induction h with
 |zero=>grind
 |succ m ih=>
  intro N F
  by_cases H:i=m+1
  ·subst H;rfl
  ·have D:m<as.length:=by omega
   have I:as[m]? =some as[m]:=List.getElem?_eq_getElem D
   have O:=((Cj R I).key sp k).2 (F m (by omega) (by omega))
   grind
theorem Mz(R:oQ E call n as rA bit pre fp)(i:Nat): ∀h,i≤h→h≤as.length→(∀j,i≤j→j<h→(fp j).all=false)→(pre h).sh.length=(pre i).sh.length:=by
 intro h J
 induction h with
 |zero=>grind
 |succ m ih=>
  intro N F
  by_cases H:i=m+1
  ·subst H;rfl
  ·have D:m<as.length:=by omega
   have I:as[m]? =some as[m]:=List.getElem?_eq_getElem D
   have O:=(Cj R I).len.2 (F m (by omega) (by omega))
   grind
theorem either(R:oQ E call n as rA bit pre fp){i j:Nat}{a D:be}(hi:as[i]? =some a)(H:as[j]? =some D)(N:i≠j):
  ((j<i∧bit i j=true)∨(i<j∧bit j i=true))∨((mF a D=true∨mF D a=true)∧(quiet a.op=true∨quiet D.op=true∨Ev.apart (fp i) (fp j)=true∨Ev.apart (fp j) (fp i)=true)):=by
 rcases Nat.lt_or_gt_of_ne N with h|h
 ·cases F:bit j i with
  |true=>grind
  |false=>
   refine .inr ⟨.inl (R.slots j D i a H hi h F), ?_⟩
   cases I:quiet a.op
   ·cases J:quiet D.op
    ·exact .inr (.inr (.inl (R.apart j D i a H hi h F J I)))
    ·grind
   ·exact .inl rfl
 ·cases F:bit i j with
  |true=>grind
  |false=>
   refine .inr ⟨.inr (R.slots i a j D hi H h F), ?_⟩
   cases I:quiet a.op
   ·cases J:quiet D.op
    ·exact .inr (.inr (.inr (R.apart i a j D hi H h F I J)))
    ·grind
   ·exact .inl rfl
theorem DF{x y:be}(h:mF x y=true∨mF y x=true){t:Nat}:(x.d=some t→t∉looks y∧y.d≠some t):=by
 grind [mF]
theorem vh{xs D:List (Sp×Nat)}(h:mD xs D=true){κ:Sp×Nat}(F:κ∈xs)(H:κ∈D):False:=by
 grind [mD]
theorem zk{xs:List (Sp×Nat)}(h:J0 xs=true){k:Nat}(D:(Sp.S,k)∈xs):False:=by
 grind [J0]
theorem SZ{x y:FP}(h:Ev.apart x y=true∨Ev.apart y x=true){sp:Sp}{k:Nat}(D:wrote y sp k):(sp,k)∉x.r∧(sp,k)∉x.w∧ ¬(x.all=true∧sp= .S):=by
 rcases h with h|h <;> unfold Ev.apart at h <;> simp only[Bool.and_eq_true,Bool.or_eq_true,Bool.not_eq_true']at h <;> obtain⟨⟨⟨⟨a1,a2⟩,F⟩,a4⟩,a5⟩:=h
 ·rcases D with D|⟨D,rfl⟩
  ·refine⟨fun e=>vh F e D,fun e=>vh a2 e D,fun e=> ?_⟩
   grind [zk]
  ·rcases a5 with a5|a5
   ·grind
   ·refine⟨fun e=>zk a5.1 e,fun e=>zk a5.2 e,fun e=> ?_⟩
    grind
 ·rcases D with D|⟨D,rfl⟩
  ·refine⟨fun e=>vh a1 D e,fun e=>vh a2 D e,fun e=> ?_⟩
   grind [zk]
  ·rcases a4 with a4|a4
   ·grind
   ·refine⟨fun e=>zk a4.1.2 e,fun e=>zk a4.2 e,fun e=> ?_⟩
    grind
theorem S0(R:oQ E call n as rA bit pre fp){L:Nat→Prop}(hc:Ci rA L){s:St}(I:Inv as pre fp L s){i:Nat}{a:be}(hi:as[i]? =some a)(hni: ¬L i)(hpi: ∀ps,rA[i]? =some ps→ ∀p∈ps,L p):
  ∃s',ja E call n a s=some s'∧Inv as pre fp (fun j=>L j∨j=i) s':=by
 have X:i<as.length:=(List.getElem?_eq_some_iff.1 hi).1
 obtain⟨r1,r2⟩:=R.run i a hi
 have MA: ∀t,(t∈looks a∨a.d=some t)→ ∀(j:Nat) (U:be),as[j]? =some U→U.d=some t→(L j↔j<i):=by
  intro t ht j U F Y
  have DE:=(List.getElem?_eq_some_iff.1 F).1
  by_cases W:i=j
  ·subst W;exact uv R hc X DE hni hpi (.inl rfl)
  ·rcases either R hi F W with h|⟨h,_⟩
   ·grind [uv]
   grind [DF]
 have FO: ∀sp k,((sp,k)∈(fp i).r∨(sp,k)∈(fp i).w∨((fp i).all=true∧sp= .S))→ ∀j,j<as.length→wrote (fp j) sp k→(L j↔j<i):=by
  intro sp k ht j DE hw
  have F:as[j]? =some as[j]:=List.getElem?_eq_getElem DE
  by_cases W:i=j
  ·grind
  ·rcases either R hi F W with h|⟨_,h⟩
   ·grind [uv]
   ·exfalso
    rcases h with h|h|h
    ·obtain⟨q1,q2,q3⟩:=Iu h r2
     rcases ht with ht|ht|ht
     ·rw[q2]at ht;simp at ht
     ·rw[q3]at ht;simp at ht
     ·rw[q1]at ht;cases ht.1
    ·obtain⟨q1,q2,q3⟩:=Iu h (R.run j _ F).2
     rcases hw with hw|hw
     ·rw[q3]at hw;simp at hw
     ·rw[q1]at hw;cases hw.1
    ·obtain⟨z1,z2,z3⟩:=SZ h hw
     rcases ht with ht|ht|ht
     ·exact z1 ht
     ·exact z2 ht
     ·exact z3 ht
 have S1:(fp i).all=true→ ∀j,j<as.length→(fp j).all=true→(L j↔j<i):=by
  intro V j DE D
  exact FO .S 0 (.inr (.inr ⟨V,rfl⟩)) j DE (.inr ⟨D,rfl⟩)
 obtain⟨s',e1,Z⟩:=Is (s:=s) r1 r2 (fun t ht=>I.slot t i (Nat.le_of_lt X) (fun j U F Y=>MA t (.inl ht) j U F Y))
  (fun sp k ht=>I.key sp k i (Nat.le_of_lt X) (fun j DE hw=>FO sp k (ht.elim .inl fun h=> .inr (.inl h)) j DE hw))
  (fun V=>SY _ _ (fun k=>I.key .S k i (Nat.le_of_lt X) (fun j DE hw=>FO .S k (.inr (.inr ⟨V,rfl⟩)) j DE hw)) (I.len i (Nat.le_of_lt X) (S1 V)))
 refine⟨s',e1,fun t H Dx J=> ?_,fun sp k H Dx J=> ?_,fun H Dx J=> ?_⟩
 ·rw[Z.slot t]
  split
  ·rename_i Y
   have N:i<H:=(J i a hi Y).1 (.inr rfl)
   rw[Iv R t (i+1) H N Dx]
   intro j U F h1 h2 OX
   have hL:=(J j U F OX).2 h2
   have:=MA t (.inr Y) j U F OX
   rcases hL with hL|hL
   ·have:=this.1 hL;omega
   ·omega
  ·rename_i Y
   exact I.slot t H Dx (fun j U F OX=>by
    have:=J j U F OX
    constructor
    ·exact fun hL=>this.1 (.inl hL)
    ·intro O
     rcases this.2 O with hL|hL
     ·exact hL
     ·subst hL;rw[hi]at F;simp at F;subst F;exact absurd OX Y)
 ·by_cases hw:wrote (fp i) sp k
  ·have N:i<H:=(J i X hw).1 (.inr rfl)
   rw[(Z.key sp k).1 hw,My R sp k (i+1) H N Dx]
   intro j h1 h2 WJ
   have DE:j<as.length:=by omega
   have hL:=(J j DE WJ).2 h2
   have:=FO sp k (hw.elim (fun e=> .inr (.inl e)) fun e=> .inr (.inr e)) j DE WJ
   rcases hL with hL|hL
   ·have:=this.1 hL;omega
   ·omega
  ·rw[(Z.key sp k).2 hw]
   exact I.key sp k H Dx (fun j DE WJ=>by
    have:=J j DE WJ
    constructor
    ·exact fun hL=>this.1 (.inl hL)
    ·intro O
     rcases this.2 O with hL|hL
     ·exact hL
     ·subst hL;exact absurd WJ hw)
 ·cases V:(fp i).all with
  |true=>
   have N:i<H:=(J i X V).1 (.inr rfl)
   rw[Z.len.1 V,Mz R (i+1) H N Dx]
   intro j h1 h2
   cases D:(fp j).all with
   |false=>rfl
   |true=>
    have DE:j<as.length:=by omega
    have hL:=(J j DE D).2 h2
    have:=S1 V j DE D
    rcases hL with hL|hL
    ·have:=this.1 hL;omega
    ·omega
  |false=>
   rw[Z.len.2 V]
   exact I.len H Dx (fun j DE D=>by
    have:=J j DE D
    constructor
    ·exact fun hL=>this.1 (.inl hL)
    ·intro O
     rcases this.2 O with hL|hL
     ·exact hL
     ·subst hL;rw[V]at D;cases D)
end Go.Ev
namespace Go.Ev
open Go
section
variable{P:Program}{E:Env}{call:p7}{n:Nat}{hs:List Nat}{ops:Array Oper}
theorem oR: ∀{D:List Oper} {as:List be},kF P hs ops D=some as→as.length=D.length∧ ∀(j:Nat) (o:Oper),D[j]? =some o→ ∃a,as[j]? =some a∧ui P hs ops o=some a
 | [],as,h=>by grind [kF]
 |o::D,as,h=>by
  simp only[kF]at h
  split at h
  ·rename_i a F I H
   simp at h;subst h
   obtain⟨J,N⟩:=oR H
   grind
  ·cases h
theorem S2(V:tB P E)(W:xH P E call){Q:Exit→Act→World→Prop}: ∀(k i:Nat) (as:List be),i+k=ops.size→kF P hs ops (ops.toList.drop i)=some as→
  ∀{B:lL} {st H:St} {a:Act} {w:World} {β:iJ} {M:MSet},iU B st w β M→nV st a w β M n→ij E call n as st=some H→
  (∀J w' I M',iU B H w' I M'→nV H J w' I M' n→Tr st w β M H w' I M'→w.heap.size≤w'.heap.size→Q .normal J w')→wpOps P ops Q (List.range' i k) a w
 |0,i,as,Mr,D,B,st,H,a,w,β,M,h,N,F,O=>by
  have Y:ops.toList.drop i= []:=List.drop_eq_nil_of_le (by simp;omega)
  rw[Y]at D
  simp[kF]at D;subst D
  simp[ij]at F;subst F
  simp only[List.range',wpOps]
  exact O a w β M h N (Tr.refl _ _ _ _) (Nat.le_refl _)
 |k+1,i,as,Mr,D,B,st,H,a,w,β,M,h,N,F,O=>by
  have hi:i<ops.toList.length:=by simp;omega
  rw[List.drop_eq_getElem_cons hi]at D
  simp only[kF]at D
  split at D
  ·rename_i ao U Z h2
   simp at D;subst D
   simp only[ij]at F
   split at F
   ·rename_i lP Dv
    rw[List.range'_succ,wpOps_cons]
    refine qV V W (o:=ops.toList[i]) (by simp at hi ⊢) Z h N Dv ?_
    intro J w' I M' r1 r2 r3 X
    exact S2 V W k (i+1) U (by omega) h2 r1 r2 F (fun a2 w2 S3 M2 s1 s2 s3 s4=>O a2 w2 S3 M2 s1 s2 (r3.trans s3 X) (Nat.le_trans X s4))
   ·cases F
  ·cases D
theorem aci{B:lL}{s H:St}{w:World}{β:iJ}{M:MSet}(D: ∀sp k,H.get sp k=s.get sp k)(h:iU B s w β M):iU B H w β M:=by
 have DG:H.gens=s.gens:=by funext sp k;show(H.get sp k).g=_;rw[D]
 refine⟨fun sp k=>by rw[D,DG];exact h.obj sp k,fun sp k N k' I J e=> ?_,h.mlt,fun k F=> ?_,fun k F=> ?_,h.os,h.tape,h.output,h.size,h.same,h.keep,h.msup⟩
 ·rw[D]at I J;rw[DG]at e;exact h.dist sp k N k' I J e
 ·rw[D]at F;rw[DG];exact h.lblk k F
 ·rw[D]at F;rw[DG];exact h.sblk k F
theorem acj{s D:St}{a:Act}{w:World}{β:iJ}{M:MSet}(F: ∀sp k,D.get sp k=s.get sp k)(H: ∀t,an D.fr t=an s.fr t)(h:nV s a w β M n):nV D a w β M n:=by
 have DG:D.gens=s.gens:=by funext sp k;show(D.get sp k).g=_;rw[F]
 exact⟨h.size,h.defers,fun t=>by rw[DG,H];exact h.slot t⟩
theorem S4{st s D:St}{w w':World}{β iO:iJ}{M M':MSet}(F: ∀sp k,D.get sp k=s.get sp k)(h:Tr st w β M s w' iO M'):Tr st w β M D w' iO M':=by
 have DG:D.gens=s.gens:=by funext sp k;show(D.get sp k).g=_;rw[F]
 exact⟨h.keep,h.beta,by rw[DG];exact h.gens⟩
theorem aeA(hE:tB P E)(hO:xH P E call){Q:Exit→Act→World→Prop}{as:List be}{bit:Nat→Nat→Bool}{pre:Nat→St}{fp:Nat→FP}(hc:kF P hs ops ops.toList=some as)
  (R:oQ E call n as (ops.toList.map jJ) bit pre fp) {B:lL} {st:St} {w:World} {β:iJ} {M:MSet}:
  ∀(F:Nat) (D:Array Bool) (s:St) (a:Act) (H:World) (G9:iJ) (M1:MSet),D.size=ops.size→((List.range ops.size).filter fun i=> !D.getD i true).length≤F→Ci (ops.toList.map jJ) (fun j=>D.getD j false=true)→
   Inv as pre fp (fun j=>D.getD j false=true) s→iU B s H G9 M1→nV s a H G9 M1 n→Tr st w β M s H G9 M1→w.heap.size≤H.heap.size→
   (∀U w' O M',iU B (pre as.length) w' O M'→nV (pre as.length) U w' O M' n→Tr st w β M (pre as.length) w' O M'→w.heap.size≤w'.heap.size→Q .normal U w')→
   wpAny P .any ops Q F D a H:=by
 obtain⟨hlen,OY⟩:=oR hc
 have hlen':as.length=ops.size:=by simpa using hlen
 have done: ∀(D:Array Bool) (s:St) (a:Act) (H:World) (G9:iJ) (M1:MSet),D.size=ops.size→Ci (ops.toList.map jJ) (fun j=>D.getD j false=true)→Inv as pre fp (fun j=>D.getD j false=true) s→iU B s H G9 M1→nV s a H G9 M1 n→Tr st w β M s H G9 M1→w.heap.size≤H.heap.size→
   (∀U w' O M',iU B (pre as.length) w' O M'→nV (pre as.length) U w' O M' n→Tr st w β M (pre as.length) w' O M'→w.heap.size≤w'.heap.size→Q .normal U w')→Region.ready .any ops D= []→Q .normal a H:=by
  intro D s a H G9 M1 N X I h Y Z J hq hr
  have all: ∀j,j<ops.size→D.getD j false=true:=by
   intro j
   induction j using Nat.strongRecOn with
   |_ j ih=>
    intro hj
    cases hb:D.getD j false with
    |true=>rfl
    |false=>
     exfalso
     have:j∈Region.ready .any ops D:=by
      unfold Region.ready
      rw[List.mem_filter]
      refine⟨List.mem_range.2 hj, ?_⟩
      have h1:D.getD j true=false:=by
       grind
      rw[h1]
      simp only[Bool.not_false,Bool.true_and]
      have ho:ops[j]? =some ops[j]:=Array.getElem?_eq_getElem hj
      rw[ho]
      simp only[Option.map_some,Option.getD_some]
      rw[←Array.all_toList,List.all_eq_true]
      intro e he
      cases tU:Region.binds .any e with
      |false=>rfl
      |true=>
       simp only[Bool.not_true,Bool.false_or]
       have aue:e.on∈jJ ops[j]:=by
        unfold jJ
        exact List.mem_map.2 ⟨e,List.mem_filter.2 ⟨he,tU⟩,rfl⟩
       have hpj:(ops.toList.map jJ)[j]? =some (jJ ops[j]):=by simp[ho]
       have hlt:=R.edges j _ hpj e.on aue
       exact ih e.on hlt (by omega)
     grind
  have cond: ∀j,j<as.length→(D.getD j false=true↔j<as.length):=fun j hj=>⟨fun _=>hj,fun _=>all j (by omega)⟩
  have g1: ∀sp k,(pre as.length).get sp k=s.get sp k:=fun sp k=>(I.key sp k as.length (Nat.le_refl _) (fun j hj _=>cond j hj)).symm
  have g2: ∀t,an (pre as.length).fr t=an s.fr t:=fun t=>(I.slot t as.length (Nat.le_refl _) (fun j a hj _=>cond j (List.getElem?_eq_some_iff.1 hj).1)).symm
  exact hq a H G9 M1 (aci g1 h) (acj g1 g2 Y) (S4 g1 Z) J
 intro F
 induction F with
 |zero=>
  intro D s a H G9 M1 N XH X I h Y Z J hq
  have hr:Region.ready .any ops D= []:=by
   simp_all[Region.ready,List.filter_eq_nil_iff,Bool.and_eq_true,List.eq_nil_of_length_eq_zero]
  exact⟨hr,done D s a H G9 M1 N X I h Y Z J hq hr⟩
 |succ F ih=>
  intro D s a H G9 M1 N XH X I h Y Z J hq
  refine⟨done D s a H G9 M1 N X I h Y Z J hq,fun i hi=> ?_⟩
  unfold Region.ready at hi
  rw[List.mem_filter]at hi
  obtain⟨hir,OZ⟩:=hi
  have qh:i<ops.size:=List.mem_range.1 hir
  have ho:ops[i]? =some ops[i]:=Array.getElem?_eq_getElem qh
  rw[ho]at OZ
  simp only[Bool.and_eq_true,Bool.not_eq_true',Option.map_some,Option.getD_some]at OZ
  obtain⟨FQ,KG⟩:=OZ
  have V:i<D.size:=by omega
  have En: ¬(D.getD i false=true):=by
   simp[Array.getD_eq_getD_getElem?,Array.getElem?_eq_getElem V]at FQ ⊢; exact FQ
  have ang: ∀ps,(ops.toList.map jJ)[i]? =some ps→ ∀p∈ps,D.getD p false=true:=by
   intro ps vN p hp
   simp[ho]at vN;subst vN
   unfold jJ at hp
   obtain⟨e,he,rfl⟩:=List.mem_map.1 hp
   obtain⟨Dv,WA⟩:=List.mem_filter.1 he
   rw[←Array.all_toList,List.all_eq_true]at KG
   have:=KG e Dv
   simpa[WA]using this
  obtain⟨ao,hao,Ck⟩:=OY i ops[i] (by simp)
  obtain⟨s',he,I'⟩:=S0 R X I hao En ang
  refine qV hE hO ho Ck h Y he ?_
  intro U w' O M' r1 r2 r3 r4
  have Il: ∀j,(D.setIfInBounds i true).getD j false=true↔(D.getD j false=true∨j=i):=by
   intro j
   simp only[Array.getD_eq_getD_getElem?,Array.getElem?_setIfInBounds]
   by_cases hj:i=j
   ·subst hj;simp[V]
   ·rw[if_neg hj]
    exact⟨.inl,fun e=>e.resolve_right (fun e=>hj e.symm)⟩
  refine ih (D.setIfInBounds i true) s' U w' O M' (by simp[N]) ?_ ?_ ?_ r1 r2 (Z.trans r3 J) (Nat.le_trans J r4) hq
  ·have hfe:(List.range ops.size).filter (fun j=> !(D.setIfInBounds i true).getD j true)=((List.range ops.size).filter (fun j=> !D.getD j true)).filter (fun j=>decide (j≠i)):=by
    rw[List.filter_filter]
    apply List.filter_congr
    intro j hj
    simp only[Array.getD_eq_getD_getElem?,Array.getElem?_setIfInBounds]
    by_cases W:i=j
    ·subst W;simp[V]
    ·have: ¬j=i:=fun e=>W e.symm
     rw[if_neg W];simp[this]
   rw[hfe]
   have hlt:(((List.range ops.size).filter (fun j=> !D.getD j true)).filter (fun j=>decide (j≠i))).length<((List.range ops.size).filter (fun j=> !D.getD j true)).length:=by
    rw[List.length_filter_lt_length_iff_exists]
    exact⟨i,List.mem_filter.2 ⟨hir,by rw[FQ];rfl⟩,by simp⟩
   omega
  ·intro j ps vN hj p hp
   rw[Il]at hj ⊢
   rcases hj with hj|hj
   ·exact .inl (X j ps vN hj p hp)
   ·subst hj;exact .inl (ang ps vN p hp)
  ·have:(fun j=>(D.setIfInBounds i true).getD j false=true)=(fun j=>D.getD j false=true∨j=i):=by funext j;exact propext (Il j)
   rw[this];exact I'
end
end Go.Ev
namespace Go.Ev
open Go
def aeC:Out→Exit
 | .nrm=> .normal
 | .ext id=> .exit id
 | .ret=> .ret
section
variable{P:Program}{E:Env}{call:p7}{n:Nat}{hs:List Nat}
theorem S5{l:List Nat}{j:Nat}(h:j<l.length):l[j]? =some (iC 0 l j):=by
 induction l generalizing j with
 |nil=>simp at h
 |cons x xs ih=>
  cases j with
  |zero=>rfl
  |succ j=>grind [iC]
theorem S6(hE:tB P E)(hO:xH P E call)(hm:P.follows .mixedOrders=true){id:Nat}{ops:Array Oper}{as:List be}(hc:kF P hs ops ops.toList=some as)(Dv:xi 0 (ops.toList.map jJ)=true)(WA:xj (p9 (ops.toList.map jJ) []) [] as=true)
  {B:lL} {st N:St} {a:Act} {w:World} {β:iJ} {M:MSet} (h:iU B st w β M) (X:nV st a w β M n) (Y:iQ E call n (rU (p9 (ops.toList.map jJ) []) [] as) [] st=some N) {Q:Exit→Act→World→Prop}
  (hq: ∀J w' Z M',iU B N w' Z M'→nV N J w' Z M' n→Tr st w β M N w' Z M'→w.heap.size≤w'.heap.size→Q .normal J w'):(Code.region id ops true).wp P Q a w:=by
 obtain⟨H,OY⟩:=oR hc
 obtain⟨m1,m2,m3⟩:=Cf (ops.toList.map jJ) []
 have O:(p9 (ops.toList.map jJ) []).length=as.length:=by rw[m1,H];simp
 obtain⟨pre,fp,p1,p2,p3⟩:=Ch as [] _ [] st N rfl O Y
 have I: ∀j,j<as.length→(p9 (ops.toList.map jJ) [])[j]? =some (iC 0 (p9 (ops.toList.map jJ) []) j):=fun j D=>S5 (by rw[O];exact D)
 have hed:=xI _ 0 Dv
 have R:oQ E call n as (ops.toList.map jJ) (fun j i=>(iC 0 (p9 (ops.toList.map jJ) []) j).testBit i) pre fp:=by
  refine⟨by rw[H];simp,fun j W D p hp=>by have:=hed j W D p hp;omega,fun j W D i=> ?_,fun j J D=> ?_,fun j a1 k a2 D hk F hb=> ?_,fun j a1 k a2 D hk F hb hq1 hq2=> ?_⟩
  ·have:=m3 j W D i
   simp only[List.length_nil,Nat.zero_add]at this
   grind
  ·obtain⟨e1,e2,_⟩:=p3 j J _ D (I j (List.getElem?_eq_some_iff.1 D).1)
   grind
  ·exact xJ as [] _ WA j a1 D _ (I j (List.getElem?_eq_some_iff.1 D).1) k a2 (by simpa using F) (by simpa using hk) hb
  ·obtain⟨_,_,e3⟩:=p3 j a1 _ D (I j (List.getElem?_eq_some_iff.1 D).1)
   simp_all
 obtain⟨d1,d2⟩:=FA h (w.drawn+1)
 refine wp_region_any hm ?_
 have U: ∀j,((Array.replicate ops.size false).getD j false=true)↔False:=by
  intro j
  simp only[Array.getD_eq_getD_getElem?,Array.getElem?_replicate]
  split <;> simp
 have hI:Inv as pre fp (fun j=>(Array.replicate ops.size false).getD j false=true) st:=by
  have auh:(fun j=>(Array.replicate ops.size false).getD j false=true)=fun _=>False:=by funext j;exact propext (U j)
  rw[auh]
  refine⟨fun t i hi V=> ?_,fun sp k i hi V=> ?_,fun i hi V=> ?_⟩
  ·rw[Iv R t 0 i (Nat.zero_le _) hi (fun j J D _ F hd=>(V j J D hd).2 F),p1]
  ·rw[My R sp k 0 i (Nat.zero_le _) hi (fun j _ F hw=>(V j (by omega) hw).2 F),p1]
  ·rw[Mz R 0 i (Nat.zero_le _) hi (fun j _ F=>by
    cases hal:(fp j).all with
    |false=>rfl
    |true=>exact((V j (by omega) hal).2 F).elim),p1]
 refine aeA (st:=st) (w:=w) (β:=β) (M:=M) hE hO hc R ops.size _ st a _ β M (by simp) ?_ ?_ hI d1 ⟨X.size,X.defers,fun t=>d2.val (X.slot t)⟩ d2 (Nat.le_refl _) ?_
 ·exact Nat.le_trans (List.length_filter_le _ _) (by simp)
 ·intro j W _ D
  exact((U j).1 D).elim
 grind
theorem lU{ops:Array Oper}{L:Array Bool}{i:Nat}(hi:i<ops.size):i∈Region.ready .any ops L↔L.getD i true=false∧ ∀p∈jJ ops[i],L.getD p false=true:=by
 have h:ops[i]? =some ops[i]:=Array.getElem?_eq_getElem hi
 unfold Region.ready
 rw[List.mem_filter,List.mem_range,h]
 simp only[Bool.and_eq_true,Bool.not_eq_true',Option.map_some,Option.getD_some,hi,true_and]
 refine and_congr_right fun _=> ?_
 rw[←Array.all_toList,List.all_eq_true]
 grind [jJ]
theorem rW{ops:Array Oper}{L:Array Bool}{i:Nat}(h:i∈Region.ready .any ops L):i<ops.size:=by
 grind [Region.ready]
theorem l6{o:be}{D:List be}{st s:St}(h:ij E call n (o::D) st=some s): ∃t,ja E call n o st=some t∧ij E call n D t=some s:=by
 grind [ij]
theorem XI(hE:tB P E)(hO:xH P E call)(hm:P.follows .mixedOrders=true){id:Nat}{ops:Array Oper}{o0 o1 o2 o3:be}(hc:kF P hs ops ops.toList=some [o0,o1,o2,o3])(F:Fy (ops.toList.map jJ)=true)
  {B:lL} {st s1 s2:St} {a:Act} {w:World} {β:iJ} {M:MSet} (h:iU B st w β M) (hf:nV st a w β M n) (V:ij E call n [o0,o1,o2,o3] st=some s1) (W:ij E call n [o0,o2,o1,o3] st=some s2) {Q:Exit→Act→World→Prop}
  (q1: ∀I w' D M',iU B s1 w' D M'→nV s1 I w' D M' n→Tr st w β M s1 w' D M'→w.heap.size≤w'.heap.size→Q .normal I w')
  (q2: ∀I w' D M',iU B s2 w' D M'→nV s2 I w' D M' n→Tr st w β M s2 w' D M'→w.heap.size≤w'.heap.size→Q .normal I w'):(Code.region id ops true).wp P Q a w:=by
 obtain⟨hlen,OY⟩:=oR hc
 have hsz:ops.size=4:=by simpa using hlen.symm
 obtain⟨t0,f0,V⟩:=l6 V
 obtain⟨t1,f1,V⟩:=l6 V
 obtain⟨t2,f2,V⟩:=l6 V
 obtain⟨t3,f3,V⟩:=l6 V
 simp only[ij,Option.some.injEq]at V
 subst V
 obtain⟨t0',g0,W⟩:=l6 W
 obtain⟨u1,g1,W⟩:=l6 W
 obtain⟨u2,g2,W⟩:=l6 W
 obtain⟨u3,g3,W⟩:=l6 W
 simp only[ij,Option.some.injEq]at W
 subst W
 rw[f0]at g0
 injection g0 with g0
 subst g0
 have N: ∀j (hj:j<ops.size) (ao:be),[o0,o1,o2,o3][j]? =some ao→ui P hs ops ops[j]=some ao:=by
  intro j hj ao hao
  obtain⟨x,hx,hy⟩:=OY j ops[j] (by simp)
  grind
 have vN: ∃p1 p2 p3,ops.toList.map jJ= [[],p1,p2,p3]∧0∈p1∧0∈p2∧(∀x∈p1,x<1)∧(∀x∈p2,x<1)∧1∈p3∧2∈p3∧ ∀x∈p3,x<3:=by
  unfold Fy at F
  grind
 obtain⟨p1,p2,p3,azH,a1,a2,b1,b2,c1,c2,c3⟩:=vN
 have X: ∀j (hj:j<ops.size) (ps:List Nat),[[],p1,p2,p3][j]? =some ps→jJ ops[j]=ps:=by
  grind
 have Y:0<ops.size:=by omega
 have H:1<ops.size:=by omega
 have O:2<ops.size:=by omega
 have Z:3<ops.size:=by omega
 have r0:=X 0 Y [] rfl
 have r1:=X 1 H p1 rfl
 have r2:=X 2 O p2 rfl
 have r3:=X 3 Z p3 rfl
 obtain⟨d1,d2⟩:=FA h (w.drawn+1)
 refine wp_region_any hm ?_
 rw[hsz]
 have base:nV st a {w with drawn:=w.drawn+1} β M n:=⟨hf.size,hf.defers,fun t=>d2.val (hf.slot t)⟩
 have sz0:w.heap.size≤{w with drawn:=w.drawn+1}.heap.size:=Nat.le_refl _
 have last: ∀(t s:St),ja E call n o3 t=some s→(∀I w' D M',iU B s w' D M'→nV s I w' D M' n→Tr st w β M s w' D M'→w.heap.size≤w'.heap.size→Q .normal I w')→
   ∀I w' D M',iU B t w' D M'→nV t I w' D M' n→Tr st w β M t w' D M'→w.heap.size≤w'.heap.size→wpAny P .any ops Q 1 #[true,true,true,false] I w':=by
  intro t s he hq I w' D M' x1 x2 x3 x4
  refine⟨fun hr=> ?_,fun i hi=> ?_⟩
  ·have:3∈Region.ready .any ops #[true,true,true,false]:=(lU Z).2 ⟨rfl,fun p F=>by
    rw[r3]at F
    have:=c3 p F
    have:p=0∨p=1∨p=2:=by omega
    rcases this with rfl|rfl|rfl <;> rfl⟩
   rw[hr]at this;cases this
  ·have U:=rW hi
   obtain⟨J,_⟩:=(lU U).1 hi
   have:i=0∨i=1∨i=2∨i=3:=by omega
   rcases this with rfl|rfl|rfl|rfl
   ·cases J
   ·cases J
   ·cases J
   ·refine qV hE hO (o:=ops[3]) (Array.getElem?_eq_getElem Z) (N 3 Z o3 rfl) x1 x2 he ?_
    intro a2 w2 S3 M2 z1 z2 z3 z4
    have hr0:Region.ready .any ops (#[true,true,true,false].setIfInBounds 3 true)= []:=by
     rw[List.eq_nil_iff_forall_not_mem]
     intro i hi
     have U:=rW hi
     obtain⟨J,_⟩:=(lU U).1 hi
     have:i=0∨i=1∨i=2∨i=3:=by omega
     rcases this with rfl|rfl|rfl|rfl <;> cases J
    exact⟨hr0,hq a2 w2 S3 M2 z1 z2 (x3.trans z3 x4) (Nat.le_trans x4 z4)⟩
 refine⟨fun hr=> ?_,fun i hi=> ?_⟩
 ·have:0∈Region.ready .any ops (Array.replicate 4 false):=(lU Y).2 ⟨rfl,fun p F=>by rw[r0]at F;cases F⟩
  rw[hr]at this;cases this
 ·have U:=rW hi
  obtain⟨J,y2⟩:=(lU U).1 hi
  have:i=0∨i=1∨i=2∨i=3:=by omega
  rcases this with rfl|rfl|rfl|rfl
  ·refine qV hE hO (o:=ops[0]) (Array.getElem?_eq_getElem Y) (N 0 Y o0 rfl) d1 base f0 ?_
   intro I w' D M' x1 x2 x3 x4
   have x3':Tr st w β M t0 w' D M':=d2.trans x3 sz0
   show wpAny P .any ops Q 3 #[true,false,false,false] I w'
   refine⟨fun hr=> ?_,fun i hi=> ?_⟩
   ·have:1∈Region.ready .any ops #[true,false,false,false]:=(lU H).2 ⟨rfl,fun p F=>by
     rw[r1]at F
     have:=b1 p F
     have:p=0:=by omega
     subst this;rfl⟩
    rw[hr]at this;cases this
   ·have U:=rW hi
    obtain⟨J,y2⟩:=(lU U).1 hi
    have:i=0∨i=1∨i=2∨i=3:=by omega
    rcases this with rfl|rfl|rfl|rfl
    ·cases J
    ·refine qV hE hO (o:=ops[1]) (Array.getElem?_eq_getElem H) (N 1 H o1 rfl) x1 x2 f1 ?_
     intro a2 w2 S3 M2 z1 z2 z3 z4
     have z3':=x3'.trans z3 x4
     show wpAny P .any ops Q 2 #[true,true,false,false] a2 w2
     refine⟨fun hr=> ?_,fun i hi=> ?_⟩
     ·have:2∈Region.ready .any ops #[true,true,false,false]:=(lU O).2 ⟨rfl,fun p F=>by
       rw[r2]at F
       have:=b2 p F
       have:p=0:=by omega
       subst this;rfl⟩
      rw[hr]at this;cases this
     ·have U:=rW hi
      obtain⟨J,y2⟩:=(lU U).1 hi
      have:i=0∨i=1∨i=2∨i=3:=by omega
      rcases this with rfl|rfl|rfl|rfl
      ·cases J
      ·cases J
      ·refine qV hE hO (o:=ops[2]) (Array.getElem?_eq_getElem O) (N 2 O o2 rfl) z1 z2 f2 ?_
       intro a3 w3 β3 M3 v1 v2 v3 v4
       exact last t2 t3 f3 q1 a3 w3 β3 M3 v1 v2 (z3'.trans v3 (Nat.le_trans x4 z4)) (Nat.le_trans x4 (Nat.le_trans z4 v4))
      ·have:=y2 2 (by rw[r3];exact c2);cases this
    ·refine qV hE hO (o:=ops[2]) (Array.getElem?_eq_getElem O) (N 2 O o2 rfl) x1 x2 g1 ?_
     intro a2 w2 S3 M2 z1 z2 z3 z4
     have z3':=x3'.trans z3 x4
     show wpAny P .any ops Q 2 #[true,false,true,false] a2 w2
     refine⟨fun hr=> ?_,fun i hi=> ?_⟩
     ·have:1∈Region.ready .any ops #[true,false,true,false]:=(lU H).2 ⟨rfl,fun p F=>by
       rw[r1]at F
       have:=b1 p F
       have:p=0:=by omega
       subst this;rfl⟩
      rw[hr]at this;cases this
     ·have U:=rW hi
      obtain⟨J,y2⟩:=(lU U).1 hi
      have:i=0∨i=1∨i=2∨i=3:=by omega
      rcases this with rfl|rfl|rfl|rfl
      ·cases J
      ·refine qV hE hO (o:=ops[1]) (Array.getElem?_eq_getElem H) (N 1 H o1 rfl) z1 z2 g2 ?_
       intro a3 w3 β3 M3 v1 v2 v3 v4
       exact last u2 u3 g3 q2 a3 w3 β3 M3 v1 v2 (z3'.trans v3 (Nat.le_trans x4 z4)) (Nat.le_trans x4 (Nat.le_trans z4 v4))
      ·cases J
      ·have:=y2 1 (by rw[r3];exact c1);cases this
    ·have:=y2 1 (by rw[r3];exact c1);cases this
  ·have:=y2 0 (by rw[r1];exact a1);cases this
  ·have:=y2 0 (by rw[r2];exact a2);cases this
  ·have:=y2 1 (by rw[r3];exact c1);cases this
theorem rX(ks:List Nat)(f:Fr)(j:Nat):an (xh ks f) j=if j∈ks then .any else an f j:=by
 induction ks with
 |nil=>simp[xh]
 |cons k ks ih=>
  grind [xh,pS]
theorem Ep(ks:List Nat)(l h:iz ib)(j:Nat):iz.get lI (BU ks l h) j=if j∈ks then⟨max (iz.get lI l j).g (iz.get lI h j).g,.none⟩else iz.get lI l j:=by
 induction ks with
 |nil=>simp[BU]
 |cons k ks ih=>
  grind [BU,iz.get_set]
theorem uw(ks:List Nat)(s t:St)(sp:Sp)(k:Nat):(rQ ks s t).get sp k=if sp= .L∧k∈ks then⟨max (s.get sp k).g (t.get sp k).g,.none⟩else s.get sp k:=by
 cases sp with
 |S=>rw[if_neg (by simp)];rfl
 |L=>
  show iz.get lI (BU ks s.lh t.lh) k=_
  rw[Ep]
  by_cases h:k∈ks
  ·rw[if_pos h,if_pos ⟨rfl,h⟩];rfl
  ·rw[if_neg h,if_neg (by simp[h])];rfl
theorem zl(ks:List Nat)(s t:St)(sp:Sp)(k:Nat):s.gens sp k≤(rQ ks s t).gens sp k:=by
 show(s.get sp k).g≤((rQ ks s t).get sp k).g
 rw[uw]
 grind
theorem rY{ks:List Nat}{s t:St}{sp:Sp}{k:Nat}(h:live ((rQ ks s t).get sp k)):(rQ ks s t).get sp k=s.get sp k∧live (s.get sp k):=by
 rw[uw]at h ⊢
 split at h
 ·exact h.elim
 ·grind
theorem sY{ks:List Nat}{s t:St}{sp:Sp}{k:Nat}(h:live ((rQ ks s t).get sp k)):(rQ ks s t).gens sp k=s.gens sp k:=by
 show((rQ ks s t).get sp k).g=(s.get sp k).g
 rw[(rY h).1]
theorem S7(ks:List Nat)(t:St){B:lL}{s:St}{w:World}{β:iJ}{M:MSet}(h:iU B s w β M):iU B (rQ ks s t) w β M:=by
 refine⟨fun sp k=> ?_,fun sp k I k' F H e=> ?_,h.mlt,fun k D=> ?_,fun k D=> ?_,h.os,h.tape,h.output,h.size,h.same,h.keep,h.msup⟩
 ·rw[uw]
  split
  ·unfold kM;trivial
  ·exact kM.mono (kG.refl w M) (fun _ _ _ _=>rfl) (zl ks s t) (Nat.le_refl _) (fun _=>rfl) (fun _ _ h=>h) (h.obj sp k)
 ·rw[sY F,sY H]at e;exact h.dist sp k I k' (rY F).2 (rY H).2 e
 ·rw[sY D];exact h.lblk k (rY D).2
 ·rw[sY D];exact h.sblk k (rY D).2
theorem S8(ks:List Nat)(t:St){s:St}{a:Act}{w:World}{β:iJ}{M:MSet}(h:nV s a w β M n):nV (rQ ks s t) a w β M n:=by
 refine⟨h.size,h.defers,fun i=> ?_⟩
 show il β (rQ ks s t).gens w M (an (xh ks s.fr) i) _
 rw[rX]
 split
 ·simp only[il]
 ·exact il.mono (kG.refl w M) (fun _ _ _ _=>rfl) (zl ks s t) _ _ (h.slot i)
theorem S9(ks:List Nat)(t:St){st s:St}{w w':World}{β iO:iJ}{M M':MSet}(h:Tr st w β M s w' iO M'):Tr st w β M (rQ ks s t) w' iO M':=⟨h.keep,h.beta,fun sp k=>Nat.le_trans (h.gens sp k) (zl ks s t sp k)⟩
theorem Cl{ks:List Nat}{s t:St}(h:BV ks s t)(sp:Sp)(k:Nat):(rQ ks s t).get sp k=(rQ ks t s).get sp k:=by
 obtain⟨F,_,H⟩:=h
 cases sp with
 |S=>show jr s.sh k=jr t.sh k;rw[F]
 |L=>
  rw[uw,uw]
  by_cases D:k∈ks
  ·grind
  ·rw[if_neg (by simp[D]),if_neg (by simp[D])]
   exact H k D
theorem XJ{ks:List Nat}{s t:St}(h:BV ks s t)(k:Nat):an (rQ ks s t).fr k=an (rQ ks t s).fr k:=by
 show an (xh ks s.fr) k=an (xh ks t.fr) k
 rw[rX,rX]
 split
 ·rfl
 ·rename_i D;exact h.2.1 k D
theorem wA{ks:List Nat}{H I:Option (Out×St)}{o:Out}{s:St}(h:Mf ks H I=some (o,s)): ∃D F,H=some (o,D)∧I=some (o,F)∧BV ks D F∧s=rQ ks D F:=by
 unfold Mf at h
 grind
theorem Iw(a:Code)(D h:ic):Mg P hs a D h= .seq D h∨ ∃id ops F H I J,a= .region id ops true∧kF P hs ops ops.toList=some [F,H,I,J]∧Fy (ops.toList.map jJ)=true∧Mg P hs a D h= .fork [F,H,I,J] [F,I,H,J] h:=by
 unfold Mg
 grind
theorem aeF(hE:tB P E)(hO:xH P E call)(hm:P.follows .mixedOrders=true)(fl:Nat): ∀(c:Code) (ac:ic),na P hs c=some ac→
  ∀{B:lL} {st iX:St} {a:Act} {w:World} {β:iJ} {M:MSet} {o:Out},iU B st w β M→nV st a w β M n→mE E call fl n ac st=some (o,iX)→ ∀{Q:Exit→Act→World→Prop},
  (∀V w' W M',iU B iX w' W M'→nV iX V w' W M' n→Tr st w β M iX w' W M'→w.heap.size≤w'.heap.size→Q (aeC o) V w')→c.wp P Q a w:=by
 intro c
 induction c with
 |skip=>
  intro ac F B st iX a w β M o h I D Q H
  simp[na]at F;subst F
  simp[mE]at D;obtain⟨rfl,rfl⟩:=D
  exact wp_skip (H a w β M h I (Tr.refl _ _ _ _) (Nat.le_refl _))
 |region id ops draw=>
  intro ac F B st iX a w β M o h I D Q H
  cases draw with
  |false=>
   simp only[na,Option.map_eq_some_iff]at F
   obtain⟨as,O,rfl⟩:=F
   simp only[mE,Option.map_eq_some_iff]at D
   obtain⟨lP,h2,h3⟩:=D
   simp at h3;obtain⟨rfl,rfl⟩:=h3
   refine wp_region ?_
   rw[List.range_eq_range']
   exact S2 hE hO ops.size 0 as (by omega) (by simpa using O) h I h2 H
  |true=>
   simp only[na]at F
   split at F
   ·rename_i as O
    split at F
    ·rename_i hcc
     simp only[Bool.and_eq_true]at hcc
     simp at F;subst F
     simp only[mE,Option.map_eq_some_iff]at D
     obtain⟨lP,h2,h3⟩:=D
     simp at h3;obtain⟨rfl,rfl⟩:=h3
     exact S6 hE hO hm O hcc.1 hcc.2 h I h2 H
    ·cases F
   ·cases F
 |seq x y ihx Ta=>
  intro ac F B st iX a w β M o h I D Q H
  simp only[na]at F
  split at F
  ·rename_i N ay O h2
   simp only[Option.some.injEq]at F
   rcases Iw (P:=P) (hs:=hs) x N ay with hj|⟨id,ops,o0,o1,o2,o3,rfl,Ck,MB,hj⟩
   rotate_left
   ·rw[hj]at F
    subst F
    simp only[mE]at D
    split at D
    ·rename_i s1 s2 e1 e2
     obtain⟨t1,t2,g1,g2,qW,rfl⟩:=wA D
     refine wp_seq ?_
     refine XI hE hO hm Ck MB h I e1 e2 ?_ ?_
     ·intro V w' W M' X Y Z U
      exact Ta ay h2 X Y g1 (fun a2 w2 S3 M2 z1 z2 z3 z4=>H a2 w2 S3 M2 (S7 _ _ z1) (S8 _ _ z2) (S9 _ _ (Z.trans z3 U)) (Nat.le_trans U z4))
     ·intro V w' W M' X Y Z U
      exact Ta ay h2 X Y g2 (fun a2 w2 S3 M2 z1 z2 z3 z4=>H a2 w2 S3 M2 (aci (Cl qW) (S7 _ _ z1)) (acj (Cl qW) (XJ qW) (S8 _ _ z2)) (S4 (Cl qW) (S9 _ _ (Z.trans z3 U))) (Nat.le_trans U z4))
    ·cases D
   rw[hj]at F
   subst F
   simp only[mE]at D
   refine wp_seq ?_
   cases J:mE E call fl n N st with
   |none=>simp[J]at D
   |some p=>
    obtain⟨ox,lP⟩:=p
    cases ox with
    |nrm=>
     simp only[J]at D
     refine ihx N O h I J ?_
     intro V w' W M' X Y Z U
     exact Ta ay h2 X Y D (fun a2 w2 S3 M2 s1 s2 s3 s4=>H a2 w2 S3 M2 s1 s2 (Z.trans s3 U) (Nat.le_trans U s4))
    |ext id=>
     simp[J]at D;obtain⟨rfl,rfl⟩:=D
     exact ihx N O h I J H
    |ret=>
     simp[J]at D;obtain⟨rfl,rfl⟩:=D
     exact ihx N O h I J H
  ·cases F
 |cond c x y ihx Ta=>
  intro ac F B st iX a w β M o h I D Q H
  simp only[na]at F
  split at F
  ·rename_i c' N ay h0 O h2
   simp at F;subst F
   simp only[mE]at D
   have vc:=SD I c c' h0
   split at D
   ·rename_i e
    rw[e]at vc
    exact wp_cond_true vc.bool (ihx N O h I D H)
   ·rename_i e
    rw[e]at vc
    exact wp_cond_false vc.bool (Ta ay h2 h I D H)
   ·cases D
  ·cases F
 |block id x ih=>
  intro ac F B st iX a w β M o h I D Q H
  simp only[na,Option.map_eq_some_iff]at F
  obtain⟨N,O,rfl⟩:=F
  simp only[mE]at D
  refine wp_block ?_
  cases J:mE E call fl n N st with
  |none=>simp[J]at D
  |some p=>
   obtain⟨ox,lP⟩:=p
   cases ox with
   |nrm=>simp[J]at D;obtain⟨rfl,rfl⟩:=D;exact ih N O h I J H
   |ret=>simp[J]at D;obtain⟨rfl,rfl⟩:=D;exact ih N O h I J H
   |ext OG=>
    simp only[J]at D
    by_cases hid:OG=id
    ·simp only[hid,if_true,Option.some.injEq,Prod.mk.injEq]at D
     obtain⟨rfl,rfl⟩:=D
     refine ih N O h I J ?_
     intro V w' W M' X Y Z U
     show Exit.inBlock id Q (.exit OG) V w'
     simp only[Exit.inBlock,hid,if_true]
     exact H V w' W M' X Y Z U
    ·simp only[hid,if_false,Option.some.injEq,Prod.mk.injEq]at D
     obtain⟨rfl,rfl⟩:=D
     refine ih N O h I J ?_
     intro V w' W M' X Y Z U
     show Exit.inBlock id Q (.exit OG) V w'
     simp only[Exit.inBlock,hid,if_false]
     exact H V w' W M' X Y Z U
 |loop x ih=>
  intro ac F B st iX a w β M o h I D Q H
  simp only[na,Option.map_eq_some_iff]at F
  obtain⟨N,O,rfl⟩:=F
  simp only[mE]at D
  have key: ∀(m:Nat) (lP:St) (a1:Act) (w1:World) (G9:iJ) (M1:MSet),iU B lP w1 G9 M1→nV lP a1 w1 G9 M1 n→Tr st w β M lP w1 G9 M1→w.heap.size≤w1.heap.size→iter (mE E call fl n N) m lP=some (o,iX)→Code.rounds P x Q m a1 w1:=by
   intro m
   induction m with
   |zero=>grind [iter]
   |succ m ihm=>
    intro lP a1 w1 G9 M1 g1 g2 g3 g4 hi
    rw[rounds_succ]
    simp only[iter]at hi
    cases J:mE E call fl n N lP with
    |none=>simp[J]at hi
    |some p=>
     obtain⟨ox,zi⟩:=p
     cases ox with
     |nrm=>
      simp only[J]at hi
      refine ih N O g1 g2 J ?_
      intro V w' W M' X Y Z U
      exact ihm zi V w' W M' X Y (g3.trans Z g4) (Nat.le_trans g4 U) hi
     |ext id=>
      simp[J]at hi;obtain⟨rfl,rfl⟩:=hi
      refine ih N O g1 g2 J ?_
      intro V w' W M' X Y Z U
      exact H V w' W M' X Y (g3.trans Z g4) (Nat.le_trans g4 U)
     |ret=>
      simp[J]at hi;obtain⟨rfl,rfl⟩:=hi
      refine ih N O g1 g2 J ?_
      intro V w' W M' X Y Z U
      exact H V w' W M' X Y (g3.trans Z g4) (Nat.le_trans g4 U)
  exact wp_loop_rounds fl (key fl st a w β M h I (Tr.refl _ _ _ _) (Nat.le_refl _) D)
 |exit id=>
  intro ac F B st iX a w β M o h I D Q H
  simp[na]at F;subst F
  simp[mE]at D;obtain⟨rfl,rfl⟩:=D
  exact wp_exit (H a w β M h I (Tr.refl _ _ _ _) (Nat.le_refl _))
 |ret=>
  intro ac F B st iX a w β M o h I D Q H
  simp[na]at F;subst F
  simp[mE]at D;obtain⟨rfl,rfl⟩:=D
  exact wp_ret (H a w β M h I (Tr.refl _ _ _ _) (Nat.le_refl _))
 |rangeFunc _ _ _ _=>grind [na]
 |scope _=>grind [na]
 |label _=>grind [na]
 |goto _=>grind [na]
 |refuse _=>grind [na]
end
end Go.Ev
namespace Go.Ev
open Go
section
variable{P:Program}{E:Env}{n:Nat}
def FR(ts:Array Value)(r:ResultVar):Sem Value:=
 match r with
 | .tmp t=>pure (ts.getD t undef)
 | .cell h t=>do loadVar t (←asAddr (ts.getD h undef))
theorem KH(F:Func)(ts:Array Value):results F ts=(do
  let D ←(List.toArray <$> F.results.toList.mapM (FR ts))
  pure (if h:D.size=1 then D[0]else .tuple D)):=by
 unfold results
 rw[Array.mapM_eq_mapM_toList]
 congr 2
theorem wB{B:lL}{st:St}{a:Act}{w:World}{β:iJ}{M:MSet}(h:iU B st w β M)(U:nV st a w β M n): ∀(J:List ResultVar) (F:List po) (O:List T),sO P J=some F→nH st F=some O→
  ∃N:List Value,(J.mapM (FR a.tmps)).run P w=Result.ok N w∧iq β st.gens w M O N
 | [],F,O,H,D=>by
   simp_all[sO,nH,iq]
 | .tmp t::J,F,O,H,D=>by
   simp only[sO,Option.map_eq_some_iff]at H
   obtain⟨I,W,rfl⟩:=H
   simp only[nH,H4]at D
   split at D
   ·rename_i v X V Y
    simp at D V;subst D;subst V
    obtain⟨N,Z,r2⟩:=wB h U J I X W Y
    refine⟨a.tmps.getD t undef::N, ?_, ?_⟩
    ·grind [FR,Sem.run_bind,Sem.run_pure,Result.andThen_ok]
    ·simp only[iq];exact⟨_,_,rfl,U.slot t,r2⟩
   ·cases D
 | .cell ad t::J,F,O,H,D=>by
   simp only[sO]at H
   split at H
   ·rename_i sz ag I W h2 h3
    simp at H;subst H
    simp only[nH,H4]at D
    split at D
    ·rename_i v X V Y
     simp at D;subst D
     obtain⟨N,Z,r2⟩:=wB h U J I X h3 Y
     obtain⟨ad',cv,q1,q2,q3⟩:=Ib (P:=P) h W h2 (U.slot ad) V
     refine⟨cv::N, ?_, ?_⟩
     ·rw[List.mapM_cons]
      simp only[FR,Sem.run_bind,q1,asAddr,Sem.run_pure,Result.andThen_ok,q2,Z]
     ·grind [iq]
    ·cases D
   ·cases H
theorem O0{β:iJ}{G:Sp→Nat→Nat}{w:World}{M:MSet}{args:List T}{h:Array Value}(H:iq β G w M args h.toList)(k:Nat)(t:Nat):il β G w M (an (oX args) t) ((h++Array.replicate k undef).getD t undef):=by
 have D:=iq.length _ _ H
 by_cases J:t<args.length
 ·have N:args[t]? =some args[t]:=List.getElem?_eq_getElem J
  obtain⟨cv,O,W⟩:=H.get N
  have I:an (oX args) t=args[t]:=by
   rw[Ed]
   have: ∀(l:List T) (j:Nat) (F:j<l.length),iC iI l j=l[j]:=by
    intro l
    induction l with
    |nil=>grind
    |cons x xs ih=>intro j F;cases j with|zero=>rfl|succ j=>exact ih j (by simpa using F)
   grind
  have U:h[t]? =some cv:=by simpa using O
  have X:t<h.size:=by simp at D;omega
  simp_all[Array.getD_eq_getD_getElem?,Array.getElem?_append_left]
 ·have I:an (oX args) t=iI:=by
   rw[Ed]
   have: ∀(l:List T) (j:Nat),l.length≤j→iC iI l j=iI:=by
    intro l
    induction l with
    |nil=>intro j _;rfl
    |cons x xs ih=>intro j F;cases j with|zero=>simp at F|succ j=>exact ih j (by simpa using F)
   grind
  have V:(h++Array.replicate k undef).getD t undef=undef:=by
   rw[Array.getD_eq_getD_getElem?,Array.getElem?_append_right (by simp at D;omega),Array.getElem?_replicate]
   split <;> rfl
  rw[I,V]
  simp[il,iI,undef,iq]
def pack:List T→T
 | [v]=>v
 |vs=> .tup vs
theorem KI{keep:Bool}{n:Nat}:fz keep (n+1) .nilsl= .ret (.nilsl,[]):=rfl
theorem xK{f:T→Q (T×List Up)}{h:Sp→Nat→ib}{F:Nat}(N:f .nilsl= .ret (.nilsl,[])): ∀(ts:List T) {j:Nat} {q:List T×List Up},(jd f ts).run h F=some q→ts[j]? =some .nilsl→q.1[j]? =some .nilsl
 | [],j,q,_,H=>by simp at H
 |t::ts,j,q,D,H=>by
  simp only[jd,Q.run_bind]at D
  cases J:(f t).run h F with
  |none=>simp[J]at D
  |some p=>
   simp only[J,Option.bind_some]at D
   cases I:(jd f ts).run h F with
   |none=>simp[I]at D
   |some O=>
    simp only[I,Option.bind_some,Q.run,Option.some.injEq]at D
    subst D
    cases j with
    |zero=>
     grind [Q.run]
    |succ j=>simpa using xK N ts I (by simpa using H)
theorem FT{f:T→Q (T×List Up)}{h:Sp→Nat→ib}{F:Nat}: ∀(ts:List T) {j:Nat} {q:List T×List Up} {x:T},(jd f ts).run h F=some q→ts[j]? =some x→ ∃p,(f x).run h F=some p∧q.1[j]? =some p.1
 | [],j,q,x,_,H=>by simp at H
 |t::ts,j,q,x,D,H=>by
  simp only[jd,Q.run_bind]at D
  cases J:(f t).run h F with
  |none=>simp[J]at D
  |some p=>
   simp only[J,Option.bind_some]at D
   cases I:(jd f ts).run h F with
   |none=>simp[I]at D
   |some N=>
    simp only[I,Option.bind_some,Q.run,Option.some.injEq]at D
    subst D
    cases j with
    |zero=>grind
    |succ j=>simpa using FT ts I (by simpa using H)
theorem FU{n:Nat}{cs:List T}{h:Sp→Nat→ib}{D:Nat}{p:T×List Up}(F:(fz false (n+1) (.agg cs)).run h D=some p): ∃q,(jd (fz false n) cs).run h D=some q∧p.1= .agg q.1:=by
 have F:((jd (fz false n) cs).bind fun q=>Q.ret (T.agg q.1,q.2)).run h D=some p:=F
 rw[Q.run_bind]at F
 cases H:(jd (fz false n) cs).run h D with
 |none=>simp[H]at F
 |some q=>
  grind [Q.run,Option.some.injEq]
theorem aeH{r t y:T}{us:List Up}{h:Sp→Nat→ib}{H j:Nat}(D:(fz false iE (iF r j .nilsl)).run h H=some (t,us))(I:kY r j=some y):okC t j:=by
 cases r
 case tup vs=>
  by_cases J:j<100
  ·simp only[iF,J,if_true]at D
   have D:((jd (fz false 7) (vs.set j .nilsl)).bind fun q=>Q.ret (T.tup q.1,q.2)).run h H=some (t,us):=D
   rw[Q.run_bind]at D
   cases F:(jd (fz false 7) (vs.set j .nilsl)).run h H with
   |none=>simp[F]at D
   |some q=>
    simp only[F,Option.bind_some,Q.run,Option.some.injEq,Prod.mk.injEq]at D
    obtain⟨rfl,rfl⟩:=D
    exact .inl J
  ·simp only[kY,J,if_false]at I
   cases hi:vs[j/100-1]? with
   |none=>grind
   |some N=>
    rw[hi]at I
    cases N <;> try (simp only at I;cases I;done)
    rename_i cs
    simp only[iF,J,if_false,hi]at D
    have D:((jd (fz false 7) (vs.set (j/100-1) (.agg (cs.set (j%100) .nilsl)))).bind fun q=>Q.ret (T.tup q.1,q.2)).run h H=some (t,us):=D
    rw[Q.run_bind]at D
    cases F:(jd (fz false 7) (vs.set (j/100-1) (.agg (cs.set (j%100) .nilsl)))).run h H with
    |none=>simp[F]at D
    |some q=>
     simp only[F,Option.bind_some,Q.run,Option.some.injEq,Prod.mk.injEq]at D
     obtain⟨rfl,rfl⟩:=D
     obtain⟨p,O,U⟩:=FT _ F (List.getElem?_set_self (List.getElem?_eq_some_iff.1 hi).1)
     obtain⟨V,_,e⟩:=FU O
     exact .inr ⟨V.1,by rw[U,e]⟩
 case agg vs=>
  simp only[iF]at D
  obtain⟨q,_,e⟩:=FU (n:=7) D
  rw[show t=_ from e]
  trivial
 case any=>simp[kY]at I
 all_goals
  simp[iF,iE,fz,Q.run]at D
  obtain⟨rfl,rfl⟩:=D
  trivial
theorem XK{r t:T}{us:List Up}{h:Sp→Nat→ib}{I j:Nat}(D:(fz false iE r).run h I=some (t,us))(F:kY r j=some .nilsl):kY t j=some .nilsl:=by
 cases r
 case tup vs=>
  have D:((jd (fz false 7) vs).bind fun q=>Q.ret (T.tup q.1,q.2)).run h I=some (t,us):=D
  rw[Q.run_bind]at D
  cases H:(jd (fz false 7) vs).run h I with
  |none=>simp[H]at D
  |some q=>
   simp only[H,Option.bind_some,Q.run,Option.some.injEq,Prod.mk.injEq]at D
   obtain⟨rfl,rfl⟩:=D
   simp only[kY]at F ⊢
   by_cases J:j<100
   ·rw[if_pos J]at F ⊢
    exact xK KI vs H F
   ·rw[if_neg J]at F ⊢
    cases hi:vs[j/100-1]? with
    |none=>grind
    |some N=>
     rw[hi]at F
     cases N <;> try (simp only at F;cases F;done)
     rename_i cs
     obtain⟨p,O,U⟩:=FT _ H hi
     obtain⟨X,V,W⟩:=FU O
     rw[U,W]
     exact xK KI cs V F
 case agg vs=>
  have D:((jd (fz false 7) vs).bind fun q=>Q.ret (T.agg q.1,q.2)).run h I=some (t,us):=D
  rw[Q.run_bind]at D
  cases H:(jd (fz false 7) vs).run h I with
  |none=>simp[H]at D
  |some q=>
   simp only[H,Option.bind_some,Q.run,Option.some.injEq,Prod.mk.injEq]at D
   obtain⟨rfl,rfl⟩:=D
   exact xK KI vs H F
 all_goals
  simp only[kY,Option.some.injEq]at F
  try (cases F;done)
 simp[iE,fz,Q.run]at D
 obtain⟨rfl,rfl⟩:=D
 rfl
theorem Cm(hE:tB P E)(hm:P.follows .mixedOrders=true){m:Nat}(hO:xH P E (jI E m)){f:Nat}{af:ig}{args:List T}{sh:List ib}{r:T}{X:List ib}(AS:E.fn f=some af)(h:jI E (m+1) f args sh=some (r,X))
  {w:World} {β:iJ} {M:MSet} {cargs:Array Value} (z8:iU ⟨w,M,lj sh β⟩ (bare .nil sh) w β M) (Y:iq β (bare .nil sh).gens w M args cargs.toList) {Q:Ending→World→Prop}
  (hQ: ∀I D w' O M' v,iU ⟨w,M,lj sh β⟩ I w' O M'→sN af.own af.eff D I=some (r,X)→il O I.gens w' M' (pack D) v→Tr (bare (oX args) sh) w β M I w' O M'→Q (.returned v) w'):Calls P f cargs w Q:=by
  obtain⟨hs,fn,hf,F⟩:=hE.1 f af AS
  simp only[jI,AS]at h
  split at h
  ·cases h
  ·rename_i hlen
   unfold D9 at F
   split at F
   ·cases F
   ·split at F
    ·cases F
    ·rename_i code Z
     split at F
     ·rename_i ac V h1 h2
      simp at F
      have hV:iq β (bare (oX args) sh).gens w M args cargs.toList:=Y
      have l9:=iq.length _ _ hV
      have hn:fn.ntmps=af.n:=by rw[←F]
      have ank:af.code=ac:=by rw[←F]
      have xA:af.res=V:=by rw[←F]
      rw[ank]at h
      cases H:mE E (jI E m) m af.n ac {fr:=oX args,lh:= .nil,sh}with
      |none=>simp[H]at h
      |some p=>
       obtain⟨o,I⟩:=p
       have OM:o≠ .nrm→o≠ .ret→False:=by
        intro n1 n2
        cases o with
        |nrm=>exact n1 rfl
        |ret=>exact n2 rfl
        |ext id=>simp[H]at h
       have zp: ∃D,nH I af.res=some D∧sN af.own af.eff D I=some (r,X):=by
        cases o with
        |nrm=>
         simp only[H]at h
         split at h
         ·rename_i D hv
          exact⟨D,hv,h⟩
         ·cases h
        |ret=>
         simp only[H]at h
         split at h
         ·rename_i D hv
          exact⟨D,hv,h⟩
         ·cases h
        |ext id=>exact(OM (by simp) (by simp)).elim
       obtain⟨J,aul,zp⟩:=zp
       have hF:nV (bare (oX args) sh) {tmps:=cargs++Array.replicate (fn.ntmps-cargs.size) undef,defers:= []} w β M af.n:=by
        refine⟨by simp at l9 ⊢; omega,rfl,fun t=>O0 hV _ t⟩
       refine calls_of_wp hf Z ?_
       refine aeF (n:=af.n) hE hO hm m code ac h1 (B:=⟨w,M,lj sh β⟩) (st:=bare (oX args) sh) (XD z8 (oX args)) hF H ?_
       intro a' w' O M' r1 r2 r3 r4
       have post:a'.defers= []∧ ∃v,(results fn a'.tmps).run P w'= .ok v w'∧Q (.returned v) w':=by
        refine⟨r2.defers, ?_⟩
        have W:=aul
        rw[xA]at W
        obtain⟨N,q1,U⟩:=wB (P:=P) r1 r2 fn.results.toList V J h2 W
        have anl:(results fn a'.tmps).run P w'= .ok (if hh:N.toArray.size=1 then N.toArray[0]else .tuple N.toArray) w':=by
         rw[KH]
         simp only[Sem.run_bind,Sem.run_map,q1,Result.andThen_ok,Sem.run_pure]
        have Tb:il O I.gens w' M' (pack J) (if hh:N.toArray.size=1 then N.toArray[0]else .tuple N.toArray):=by
         have Qu:=iq.length _ _ U
         cases J with
         |nil=>
          simp only[iq]at U;subst U
          simp[pack,il,iq]
         |cons v D=>
          cases D with
          |nil=>
           simp only[iq]at U
           obtain⟨u,us,rfl,k1,rfl⟩:=U
           simpa[pack]using k1
          |cons v2 D=>
           have:N.toArray.size≠1:=by simp at Qu ⊢; omega
           rw[dif_neg this]
           simp only[pack,il]
           exact⟨_,rfl,by simpa using U⟩
        exact⟨_,anl,hQ I J w' O M' _ r1 zp Tb r3⟩
       cases o with
       |nrm=>exact post
       |ret=>exact post
       |ext id=>exact(OM (by simp) (by simp)).elim
     ·cases F
theorem Ai(h:Bool)(D:List T)(st:St):answer h D st=match(fz h iE (pack D)).run st.get st.sh.length with
 |some p=>some (p.1,(st.ups p.2).sh)
 |none=>none:=by
 cases D with
 |nil=>rfl
 |cons v D=>cases D <;> rfl
theorem FV(j:Nat)(h:List T)(st:St):qR j h st=match kY (pack h) j with
 |some .nilsl=>answer false h st
 |some (.isl .L k g 0 len sz)=>
  (match(fz false iE (iF (pack h) j .nilsl)).run st.get st.sh.length with
  |some p=>(match(st.ups p.2).get .L k with
   |⟨D,.cells cs F false⟩=>if D=g∧cs.length=len*sz∧len≠0∧(F=0∨p8 (iF p.1 j .nilsl)=true)then some (iF p.1 j (.sl cs len false),(st.ups p.2).sh)else none
   |_=>none)
  |none=>none)
 |_=>none:=by
 cases h with
 |nil=>rfl
 |cons v h=>cases h <;> rfl
theorem Er{B:lL}{h:St}{I:List T}{w':World}{F:iJ}{M':MSet}{v:Value}{D:Bool}{r:T}{J:List ib}(N:iU B h w' F M')(H:answer D I h=some (r,J))(Tb:il F h.gens w' M' (pack I) v):
  ∃M2 us,iU B (h.ups us) w' F M2∧(h.ups us).gens=h.gens∧J=(h.ups us).sh∧sQ D F h.gens w' M2 r v:=by
 rw[Ai]at H
 split at H
 ·rename_i p O
  obtain⟨U,us⟩:=p
  simp at H
  obtain⟨rfl,rfl⟩:=H
  obtain⟨M2,V,W,Y,X,Z⟩:=Aa D h iE _ _ h w' F M' _ U us _ (Fz.refl h) N Tb O
  exact⟨M2,us,V,W.gens,rfl,X⟩
 ·cases H
theorem Ix(hE:tB P E)(hm:P.follows .mixedOrders=true): ∀m,xH P E (jI E m)
 |0=>by
  intro f af args sh r jb AS V
  simp[jI]at V
 |m+1=>by
  have hO:=Ix hE hm m
  intro f af args sh r jb AS iu
  refine⟨fun H=> ?_,fun j H=> ?_⟩
  ·intro w β M O z8 F
   refine Cm hE hm hO AS iu z8 (nX.toV F) ?_
   intro D vs w' I M' v r1 h hv r3
   rw[H]at h
   obtain⟨M2,us,U,z2,rfl,J⟩:=Er r1 h hv
   refine⟨v,I,M2,rfl,FI U .nil,fun k g hg=>r3.beta .S k g hg,fun k=> ?_, ?_⟩
   ·have e1:(jr (D.ups us).sh k).g=(D.ups us).gens .S k:=rfl
    rw[e1,z2]
    exact r3.gens .S k
   ·have W: ∀k,(bare .nil (D.ups us).sh).gens .S k=D.gens .S k:=by
     intro k
     have e1:(bare .nil (D.ups us).sh).gens .S k=(D.ups us).gens .S k:=rfl
     rw[e1,z2]
    cases X:af.eff with
    |false=>rw[X]at J;exact J
    |true=>
     rw[X]at J
     intro b g p q
     exact J b g (fun k x hx=>p k x (by rw[W];exact hx)) (fun k=>by rw[←W];exact q k)
  ·have X:af.eff=false:=by
    grind [jI,sN]
   refine⟨X, ?_⟩
   intro w β M O z8 F
   refine Cm hE hm hO AS iu z8 (nX.toV F) ?_
   intro D vs w' I M' v r1 h hv r3
   rw[H,X]at h
   have h:qR j vs D=some (r,jb):=by simpa[sN]using h
   rw[FV]at h
   split at h
   ·rename_i V
    obtain⟨M2,us,U,z2,rfl,J⟩:=Er r1 h hv
    refine⟨v,I,M2,rfl,FI U .nil,.inl ⟨?_,J⟩⟩
    grind [Ai,XK]
   ·rename_i k g len sz V
    split at h
    ·rename_i p hz
     obtain⟨t',us⟩:=p
     have hn:il I D.gens w' M' .nilsl oF:=by simp only[il]
     obtain⟨⟨x,hx,Y⟩,OH⟩:=SU hv V hn rfl
     obtain⟨M2,U,z2,z3,J,z5⟩:=Aa false D iE _ _ D w' I M' _ t' us _ (Fz.refl D) r1 OH hz
     dsimp only at h
     split at h
     ·rename_i g' cs wm DD
      split at h
      ·rename_i hcs
       obtain⟨rfl,l9,hl0,Ih⟩:=hcs
       simp at h
       obtain⟨rfl,rfl⟩:=h
       simp only[il]at Y
       obtain⟨azL,cap,rfl,hlc,hcx⟩:=Y
       have ho:=U.obj .L k
       rw[DD]at ho
       unfold kM at ho
       obtain⟨c,el,fzz,o1,o2,o3,o4,o5,o6,o7,o8⟩:=ho
       dsimp only at o1 o2 o3 o4 o5 o6
       subst o4
       have Z:=fun(b:iJ) (G:Sp→Nat→Nat)=>SV (cs:=cs) (len:=len) (ex:=false) (aeH hz V) (PRel.toV b G _ _ J) hx
       have Ee:live ((D.ups us).get .L k):=by rw[DD];trivial
       have DG:(D.ups us).gens .L k=g':=by show((D.ups us).get .L k).g=g';rw[DD]
       have N:=U.lblk k Ee
       rw[DG]at N
       refine⟨v,I,M2,rfl,FI U .nil,.inr ⟨cs,len,(Z I D.gens).1,I .L k g',sz,cap,c,el,N,o1,o2,o3,o5, ?_,o7,l9,hl0,hlc,by simpa using hcx,hx,fun b G=>(Z b G).2⟩⟩
       rcases Ih with rfl|Ih
       ·exact .inr fun i hi=>o6 i (Nat.zero_le _) hi
       ·exact .inl (by rw[Kz _ _ _ _ rfl];exact Ih)
      ·cases h
     ·cases h
    ·cases h
   ·cases h
end
theorem pure_call{P:Program}{E:Env}(W:tB P E)(N:P.follows .mixedOrders=true){m f:Nat}{af:ig}(AS:E.fn f=some af)(X:af.eff=false)(I:af.own=none){args:List T}{r:T}{O:List ib}(Y:jI E m f args []=some (r,O))(w:World)(D:Array Value)
  (H:PList w (fun _ _=>False) args D.toList):Calls P f D w fun e w'=> ∃cv,e= .returned cv∧RowKit.Below w.heap.size w w'∧PRel w' (fun _ _=>False) r cv:=by
 have U:=(Ix W N m f af args [] r O AS Y).1 I
 rw[X]at U
 let β:iJ:=fun _ _ _=>⟨0,0,0⟩
 have Z: ∀b,¬lj [] β b:=by rintro b ⟨k,F,_⟩;simp[jr,iC]at F;exact F.elim
 have z8:iU ⟨w,fun _ _=>False,lj [] β⟩ (bare .nil []) w β (fun _ _=>False):=by
  have e: ∀sp k,(bare .nil []).get sp k=lI:=by intro sp k;cases sp <;> simp[bare,St.get,jr,iC,iz.get_nil]
  refine⟨fun sp k=> ?_,fun sp k ku k' V _ _=> ?_,fun _ _ h=>h.elim,fun k F=> ?_,fun k F=> ?_,rfl,rfl,rfl,Nat.le_refl _,fun _ _ _=>rfl,kG.refl _ _,fun _ _ _ _ N=>N⟩
  ·grind [kM,lI]
  ·rw[e]at V;exact V.elim
  ·rw[e]at F;exact F.elim
  ·rw[e]at F;exact F.elim
 refine(U w β _ D z8 H).mono ?_
 rintro e w' ⟨cv,iO,M',rfl,J,_,_,hr⟩
 refine⟨cv,rfl,⟨J.os,J.tape,J.output,J.size,fun b hb=>J.same b hb (Z b)⟩, ?_⟩
 exact PRel.mono (kf (fun _ _ h=>h.elim)) _ _ hr
end Go.Ev
namespace Go.Ev
open Go
inductive Ea where
 |nil
 |nd (l:Ea) (k:Nat) (v:ig) (r:Ea)
def Ea.find:Ea→Nat→Option ig
 | .nil,_=>none
 | .nd l k v r,f=>bif Nat.beq f k then some v else bif Nat.ble f k then l.find f else r.find f
def Ea.All(p:Nat→ig→Prop):Ea→Prop
 | .nil=>True
 | .nd l k v r=>Ea.All p l∧p k v∧Ea.All p r
theorem Ea.all_find{p:Nat→ig→Prop}{f:Nat}{v:ig}: ∀{t:Ea},Ea.All p t→t.find f=some v→p f v
 | .nil,_,h=>by simp[Ea.find]at h
 | .nd l k u r,H,h=>by
   obtain⟨I,J,N⟩:=H
   simp only[Ea.find]at h
   cases D:Nat.beq f k with
   |true=>
    rw[D,cond_true]at h
    have:f=k:=Nat.eq_of_beq_eq_true D
    subst this
    cases h;exact J
   |false=>
    rw[D,cond_false]at h
    cases F:Nat.ble f k with
    |true=>rw[F,cond_true]at h;exact Ea.all_find I h
    |false=>rw[F,cond_false]at h;exact Ea.all_find N h
def Fs(P:Program)(f:Nat)(af:ig):Prop:= ∃hs h,P.funcs[f]? =some h∧D9 P hs af.eff h=some af
theorem codeOk{P:Program}{f:Nat}{af:ig}{hs:List Nat}{D:Func}(h:P.funcs[f]? =some D)(k:D9 P hs af.eff D=some af):Fs P f af:=⟨hs,D,h,k⟩
def ExtOk(P:Program)(f:Nat)(g:List T→Option T):Prop:=
 (∃D,P.funcs[f]? =some D∧(D.name== "runtime.NumGoroutine")=false∧D.body.isSome=true)∧
   ∀args r,g args=some r→ ∀(w:World) (M:MSet) (h:Array Value),(∀b o,M b o→b<w.heap.size)→PList w M args h.toList→
    Calls P f h w fun e w'=> ∃cv,e= .returned cv∧RowKit.Below w.heap.size w w'∧PRel w' (fun b _=>b<w.heap.size) r cv
theorem aku{P:Program}{t:Ea}{x:Nat→Option (List T→Option T)}{y:Nat→Option (List T→Option (List T×Option Nat))}(h:Ea.All (Fs P) t)(H: ∀f g,x f=some g→ExtOk P f g)
  (I: ∀f g,y f=some g→(∃D,P.funcs[f]? =some D∧(D.name== "runtime.NumGoroutine")=false∧D.body.isSome=true)∧am6 P f g):tB P ⟨t.find,x,y⟩:=
 ⟨fun f af J=>Ea.all_find h J,fun f g _ F=>H f g F,fun f g _ _ F=>I f g F⟩
noncomputable abbrev acm(E:Env)(m f:Nat)(args:List T)(sh:List ib):Option (T×List ib):=jI E m f args sh
theorem jX{E:Env}{m f:Nat}{args:List T}{sh:List ib}{r:Option (T×List ib)}(h:acm E m f args sh=r):jI E m f args sh=r:=h
theorem mc{E:Env}{m f:Nat}{args:List T}{sh:List ib}:acm E m f args sh=jI E m f args sh:=rfl
end Go.Ev
