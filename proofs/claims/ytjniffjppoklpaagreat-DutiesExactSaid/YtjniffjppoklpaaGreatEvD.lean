/- A tree evaluator over the model, proved against it (part D): where it answers, the call returns that answer. Conditions: none beyond its theorems' own. -/
import Derived.Test.YtjniffjppoklpaaGreatEvC
set_option linter.unusedSimpArgs false
set_option linter.unusedVariables false
namespace Go.Ev
open Go
def bare(fr:Fr)(sh:List iy):St:={fr,lh:= .nil,sh}
theorem E2(fr:Fr)(sh:List iy)(k:Nat):(bare fr sh).get .L k=mN:=by simp[bare,St.get,iM,iN,iL.get_nil]
theorem lM.shared{β jj:jf}{G G':Sp→Nat→Nat}{w:World}{M:iP}{k:Nat}{e:iy}(GD: ∀n g,g≤G .S n→jj .S n g=β .S n g)(D: ∀n,G .S n≤G' .S n)(F:e.g≤G .S k)(h:lM β G w M .S k e):lM jj G' w M .S k e:=by
 unfold lM at h ⊢
 rw[GD k _ F]
 obtain⟨g,ob⟩:=e
 cases ob with
 |none=>trivial
 |cells cs wm bx=>
  obtain⟨c,el,fz,H,I,J,N,r,O,U⟩:=h
  refine⟨c,el,fz,H,I,J,N, ?_,O,U⟩
  cases bx
  ·exact r
  ·exact zQ.mono (lG.refl w M) GD D r
 |map ks V fz=>exact h
theorem IX{B:mQ}{st:St}{w:World}{β:jf}{M:iP}(h:jo B st w β M)(fr:Fr):jo B (bare fr st.sh) w β M:=by
 refine⟨fun sp k=> ?_,fun sp k H k' D F I=> ?_,h.mlt,fun k r=> ?_,fun k r=>h.sblk k r,h.os,h.tape,h.output,h.size,h.same,h.keep,h.msup⟩
 ·cases sp with
  |L=>grind [lM,mN,E2]
  |S=>exact lM.shared (G:=st.gens) (β:=β) (fun _ _ _=>rfl) (fun _=>Nat.le_refl _) (Nat.le_refl _) (h.obj .S k)
 ·cases sp with
  |L=>rw[E2]at D;exact D.elim
  |S=>
   cases H with
   |L=>rw[E2]at F;exact F.elim
   |S=>exact h.dist .S k .S k' D F I
 ·rw[E2]at r;exact r.elim
def mn(sh:List iy)(β:jf)(b:Nat):Prop:= ∃k,live (iM sh k)∧(β .S k (iM sh k).g).blk=b
theorem ac6{B:mQ}{st:St}{w:World}{β:jf}{M:iP}(h:jo B st w β M)(fr:Fr):jo ⟨w,M,mn st.sh β⟩ (bare fr st.sh) w β M:=by
 have D:=IX h fr
 refine⟨D.obj,D.dist,h.mlt,fun k r=> ?_,fun k r=> .inl ⟨k,r,rfl⟩,rfl,rfl,rfl,Nat.le_refl _,fun _ _ _=>rfl,lG.refl w M,fun _ _ _ _ F=>F⟩
 rw[E2]at r;exact r.elim
theorem XM{B:mQ}{st:St}{w:World}{β:jf}{M:iP}(h:jo B st w β M)(fr:Fr):jo ⟨w,M,fun _=>False⟩ (bare fr []) w β M:=by
 have e: ∀sp k,(bare fr []).get sp k=mN:=by intro sp k;cases sp <;> simp[bare,St.get,iM,iN,iL.get_nil]
 refine⟨fun sp k=> ?_,fun sp k H k' D _ _=> ?_,h.mlt,fun k r=> ?_,fun k r=> ?_,rfl,rfl,rfl,Nat.le_refl _,fun _ _ _=>rfl,lG.refl w M,fun _ _ _ _ F=>F⟩
 ·grind [lM,mN]
 ·rw[e]at D;exact D.elim
 ·rw[e]at r;exact r.elim
 ·rw[e]at r;exact r.elim
theorem LY{B:mQ}{st:St}{w w':World}{β:jf}{M:iP}(h:jo B st w β M)(F:w'.os=w.os)(H:w'.tape=w.tape)(GK:w'.output=w.output)(N:w.heap.size≤w'.heap.size)(D: ∀b,b<w.heap.size→w'.heap[b]? =w.heap[b]?):
  jo B st w' β M∧Tr st w β M st w' β M:=by
 have I:lG w M w' M:=⟨fun b o v r _=>by rw[pv (w:=w) (D b (zP r))];exact r,fun b W c r _=>by rw[D b (sS r)];exact r,fun _ _ _ h=>h⟩
 refine⟨⟨fun sp k=> ?_,h.dist,fun b o J=>Nat.lt_of_lt_of_le (h.mlt b o J) N,h.lblk,h.sblk,F.trans h.os,H.trans h.tape,GK.trans h.output,Nat.le_trans h.size N,fun b O U=>(D b (Nat.lt_of_lt_of_le O h.size)).trans (h.same b O U),h.keep.trans I h.size,h.msup⟩,I,fun _ _ _ _=>rfl,fun _ _=>Nat.le_refl _⟩
 exact lM.mono I (fun _ _ _ _=>rfl) (fun _ _=>Nat.le_refl _) (Nat.le_refl _) (fun V=>D _ (h.lt V)) (fun _ _ J=>J) (h.obj sp k)
theorem akC{B:mQ}{st:St}{w w':World}{β jj:jf}{M M':iP}{jk:List iy}(h:jo B st w β M)(r:jo ⟨w,M,mn st.sh β⟩ (bare .nil jk) w' jj M')(GD: ∀n g,g≤st.gens .S n→jj .S n g=β .S n g)(hG: ∀n,st.gens .S n≤(iM jk n).g):
  jo B {st with sh:=jk} w' (fun sp k g=>match sp with| .L=>β .L k g| .S=>jj .S k g) M'∧Tr st w β M {st with sh:=jk} w' (fun sp k g=>match sp with| .L=>β .L k g| .S=>jj .S k g) M':=by
 have X: ∀k,({st with sh:=jk}:St).get .L k=st.get .L k:=fun k=>rfl
 have Y: ∀k,({st with sh:=jk}:St).get .S k=iM jk k:=fun k=>rfl
 have XG: ∀sp k g,g≤st.gens sp k→(fun(sp:Sp) k g=>match sp with| .L=>β .L k g| .S=>jj .S k g:jf) sp k g=β sp k g:=by
  grind
 have HB: ∀sp k,st.gens sp k≤({st with sh:=jk}:St).gens sp k:=by
  grind
 have notS: ∀k,live (st.get .L k)→ ¬mn st.sh β (β .L k (st.gens .L k)).blk:=by
  rintro k D ⟨k',N,F⟩
  have:=h.dist .S k' .L k N D F
  cases this.1
 have Z: ∀b,mn st.sh β b→B.SB b∨B.w.heap.size≤b:=by
  rintro b ⟨k,D,rfl⟩
  exact h.sblk k D
 have O: ∀k,live (iM jk k)→B.SB (jj .S k (iM jk k).g).blk∨B.w.heap.size≤(jj .S k (iM jk k).g).blk:=by
  intro k D
  rcases r.sblk k D with e|e
  ·exact Z _ e
  ·exact .inr (Nat.le_trans h.size e)
 refine⟨⟨fun sp k=> ?_,fun sp k W k' H I F=> ?_,r.mlt,fun k D=>h.lblk k D,fun k D=>O k D,r.os.trans h.os,r.tape.trans h.tape,r.output.trans h.output,Nat.le_trans h.size r.size,fun b J U=> ?_,h.keep.trans r.keep h.size,fun b o J U h3=> ?_⟩,r.keep,XG,HB⟩
 ·cases sp with
  |L=>
   refine lM.mono r.keep XG HB (Nat.le_refl _) (fun D=> ?_) (fun D o hm=> ?_) (h.obj .L k)
   ·exact r.same _ (h.lt D) (notS k D)
   ·exact r.msup _ o (h.lt D) (notS k D) hm
  |S=>exact lM.shared (G:=(bare .nil jk).gens) (β:=jj) (fun _ _ _=>rfl) (fun _=>Nat.le_refl _) (Nat.le_refl _) (r.obj .S k)
 ·cases sp with
  |L=>
   cases W with
   |L=>exact h.dist .L k .L k' H I F
   |S=>
    exfalso
    have QE:(β .L k (st.gens .L k)).blk=(jj .S k' (iM jk k').g).blk:=F
    rcases r.sblk k' I with e|e
    ·exact notS k H (by rw[QE];exact e)
    ·have:=h.lt (sp:= .L) (k:=k) H
     have e':w.heap.size≤(jj .S k' (iM jk k').g).blk:=e
     omega
  |S=>
   cases W with
   |L=>
    exfalso
    have QE:(jj .S k (iM jk k).g).blk=(β .L k' (st.gens .L k')).blk:=F
    rcases r.sblk k H with e|e
    ·exact notS k' I (by rw[←QE];exact e)
    ·have:=h.lt (sp:= .L) (k:=k') I
     have e':w.heap.size≤(jj .S k (iM jk k).g).blk:=e
     omega
   |S=>exact r.dist .S k .S k' H I F
 ·have V: ¬mn st.sh β b:=fun hs=>by
   grind
  exact(r.same b (Nat.lt_of_lt_of_le J h.size) V).trans (h.same b J U)
 ·have V: ¬mn st.sh β b:=fun hs=>by
   grind
  exact r.msup b o (Nat.lt_of_lt_of_le J h.size) V (h.msup b o J U h3)
def LZ(M:iP)(S:LG):iP:=fun b x=>M b x∨(b=S.blk∧S.off≤x∧x<S.off+S.ext)
theorem akD{B:mQ}{st:St}{w w':World}{β:jf}{M:iP}(h:jo B st w β M)(X:w'.os=w.os)(Y:w'.tape=w.tape)(GK:w'.output=w.output)(qn:w.heap.size≤w'.heap.size)(D: ∀b,b<w.heap.size→w'.heap[b]? =w.heap[b]?)
  (k g:Nat) (hg:st.gens .L k<g) (S:LG) (hS:w.heap.size≤S.blk) (hS2:S.blk<w'.heap.size) (ob:Ob)
  (ho:lM (oI β .L k g S) (st.up (.L,k,⟨g,ob⟩)).gens w' (LZ M S) .L k ⟨g,ob⟩):
  jo B (st.up (.L,k,⟨g,ob⟩)) w' (oI β .L k g S) (LZ M S)∧Tr st w β M (st.up (.L,k,⟨g,ob⟩)) w' (oI β .L k g S) (LZ M S):=by
 have Z:lG w M w' (LZ M S):=⟨fun b o v H _=>by rw[pv (w:=w) (D b (zP H))];exact H,fun b es c H _=>by rw[D b (sS H)];exact H,fun b x I hm=>hm.resolve_right (fun e=>by have:=e.1;omega)⟩
 have I: ∀r k' g',g'≤st.gens r k'→oI β .L k g S r k' g'=β r k' g':=by
  grind [zR]
 have hG: ∀r k',st.gens r k'≤(st.up (.L,k,⟨g,ob⟩)).gens r k':=by
  intro r k'
  rw[ml]
  grind
 have W: ∀r k',(oI β .L k g S r k' ((st.up (.L,k,⟨g,ob⟩)).gens r k'))=if r= .L∧k'=k then S else β r k' (st.gens r k'):=by
  grind [ml,jT]
 refine⟨⟨fun r k'=> ?_,fun sp1 k1 sp2 k2 J N O=> ?_,fun b x hm=> ?_,fun k' F=> ?_,fun k' F=> ?_,X.trans h.os,Y.trans h.tape,GK.trans h.output,Nat.le_trans h.size qn,fun b I hn=> ?_,h.keep.trans Z h.size,fun b x h1 h2 h3=> .inl (h.msup b x h1 h2 h3)⟩,Z,I,hG⟩
 ·rw[mX]
  split
  ·grind
  ·exact lM.mono Z I hG (Nat.le_refl _) (fun F=>D _ (h.lt F)) (fun _ _ hm=> .inl hm) (h.obj r k')
 ·rw[W,W]at O
  rw[mX]at J N
  by_cases U:sp1= .L∧k1=k <;> by_cases V:sp2= .L∧k2=k
  ·grind
  ·rw[if_pos U,if_neg V]at O;rw[if_neg V]at N
   have:=h.lt N;omega
  ·rw[if_neg U,if_pos V]at O;rw[if_neg U]at J
   have:=h.lt J;omega
  ·rw[if_neg U,if_neg V]at O;rw[if_neg U]at J;rw[if_neg V]at N
   exact h.dist _ _ _ _ J N O
 ·rcases hm with hm|hm
  ·exact Nat.lt_of_lt_of_le (h.mlt b x hm) qn
  ·grind
 ·rw[W];rw[mX]at F
  split
  ·exact Nat.le_trans h.size hS
  ·rename_i e;rw[if_neg e]at F;exact h.lblk k' F
 ·rw[W];rw[mX]at F
  rw[if_neg (by rintro⟨e,_⟩;cases e)]at F ⊢
  exact h.sblk k' F
 ·have:=h.size
  rw[D b (by omega)];exact h.same b I hn
theorem xz{w w':World}{M M':iP}: ∀{cs:List T} {r:List Value},cs.all rf=true→PList w M cs r→PList w' M' cs r
 | [],r,_,h=>by grind [PList]
 |t::ts,r,hs,h=>by
  simp only[List.all_cons,Bool.and_eq_true]at hs
  simp only[PList]at h ⊢
  obtain⟨u,us,rfl,D,F⟩:=h
  refine⟨u,us,rfl, ?_,xz hs.2 F⟩
  have H:=hs.1
  cases t <;> simp[rf]at H <;> simpa only[PRel]using D
def QF:Value→Nat→Option Value
 | .tuple a,j=>if j<100 then a[j]? else match a[j/100-1]? with
   |some (.agg b)=>b[j%100]?
   |_=>none
 | .agg a,j=>a[j]?
 |v,_=>some v
def qV:Value→Nat→Value→Value
 | .tuple a,j,x=>if j<100 then .tuple (a.setIfInBounds j x)else match a[j/100-1]? with
   |some (.agg b)=> .tuple (a.setIfInBounds (j/100-1) (.agg (b.setIfInBounds (j%100) x)))
   |_=> .tuple a
 | .agg a,j,x=> .agg (a.setIfInBounds j x)
 |_,_,x=>x
abbrev qa:Value:= .slice none 0 0
section
variable{β:jf}{G:Sp→Nat→Nat}{w:World}{M:iP}
theorem iF.set: ∀{ts:List T} {r:List Value} (j:Nat) {t:T} {v:Value},iF β G w M ts r→iE β G w M t v→iF β G w M (ts.set j t) (r.set j v)
 | [],r,j,t,v,h,_=>by grind [iF]
 |t::ts,r,0,F,H,h,D=>by
  grind [iF]
 |t::ts,r,j+1,F,H,h,D=>by
  simp only[iF]at h;obtain⟨u,us,rfl,I,J⟩:=h
  simp only[List.set_cons_succ,iF]
  exact⟨_,_,rfl,I,iF.set j J D⟩
theorem Ah{cs:List T}{j:Nat}{t:T}(h:cs.all single=true)(r:single t=true):(cs.set j t).all single=true:=by
 grind
theorem E3{cs:List T}{j:Nat}{t u:T}(h:(cs.set j u).all single=true)(r:single t=true):(cs.set j t).all single=true:=by
 have:=Ah (j:=j) h r
 simp_all
theorem XN{r y t:T}{v u:Value}{j:Nat}(h:iE β G w M r v)(D:l6 r j=some y)(F:iE β G w M t u)(hs:single t=true):
  (∃x,QF v j=some x∧iE β G w M y x)∧iE β G w M (iY r j t) (qV v j u):=by
 cases r
 case tup vs=>
  simp only[iE]at h;obtain⟨a,rfl,H⟩:=h
  simp only[l6]at D
  by_cases E5:j<100
  ·rw[if_pos E5]at D
   obtain⟨x,I,J⟩:=H.get D
   refine⟨⟨x,by simpa[QF,E5]using I,J⟩, ?_⟩
   simp only[iY,qV,iE,E5,if_true]
   exact⟨_,rfl,by simpa using iF.set j H F⟩
  ·rw[if_neg E5]at D
   cases hi:vs[j/100-1]? with
   |none=>grind
   |some W=>
    rw[hi]at D
    cases W <;> try (simp only at D;cases D;done)
    rename_i cs
    simp only at D
    obtain⟨Z,X,U⟩:=H.get hi
    simp only[iE]at U;obtain⟨b,rfl,V,Y⟩:=U
    obtain⟨x,I,J⟩:=V.get D
    have N:a[j/100-1]? =some (.agg b):=by simpa using X
    refine⟨⟨x,by simpa[QF,E5,N]using I,J⟩, ?_⟩
    simp only[iY,qV,E5,if_false,hi,N,iE]
    refine⟨_,rfl, ?_⟩
    rw[Array.toList_setIfInBounds]
    refine iF.set _ H ?_
    simp only[iE]
    exact⟨_,rfl,by simpa using iF.set (j%100) V F,Ah Y hs⟩
 case agg cs=>
  simp only[iE]at h;obtain⟨a,rfl,H,O⟩:=h
  simp only[l6]at D
  obtain⟨x,I,J⟩:=H.get D
  refine⟨⟨x,by simpa[QF]using I,J⟩, ?_⟩
  simp only[iY,qV,iE]
  exact⟨_,rfl,by simpa using iF.set j H F,Ah O hs⟩
 case any=>simp[l6]at D
 all_goals
  simp only[l6,Option.some.injEq]at D;subst D
  refine⟨⟨v, ?_,h⟩, ?_⟩
  ·simp only[iE,PRel]at h
   first
    |(subst h;rfl)
    |(obtain⟨_,rfl,_⟩:=h;rfl)
    |(obtain⟨_,_,rfl,_⟩:=h;rfl)
    |(obtain⟨_,_,_,rfl,_⟩:=h;rfl)
    |(obtain⟨_,_,_,_,rfl,_⟩:=h;rfl)
    |(obtain⟨_,rfl⟩:=h;rfl)
  ·simp only[iE,PRel]at h
   first
    |(subst h;exact F)
    |(obtain⟨_,rfl,_⟩:=h;exact F)
    |(obtain⟨_,_,rfl,_⟩:=h;exact F)
    |(obtain⟨_,_,_,rfl,_⟩:=h;exact F)
    |(obtain⟨_,_,_,_,rfl,_⟩:=h;exact F)
    |(obtain⟨_,rfl⟩:=h;exact F)
theorem wK{a:Array Value}{j:Nat}{x y:Value}(h:a[j]? =some x):(a.toList.set j y).set j x=a.toList:=by
 rw[List.set_set]
 have r:a.toList[j]? =some x:=by simpa using h
 grind [List.getElem?_eq_some_iff.1,List.set_getElem_self]
theorem E6(a:Array Value)(j:Nat)(x:Value): ∃b,qV (.tuple a) j x= .tuple b:=by
 simp only[qV]
 split
 ·grind
 ·split <;> exact⟨_,rfl⟩
theorem E7{v:Value}{j:Nat}(h: ∀a,qV v j qa≠ .tuple a)(r: ∀a,qV v j qa≠ .agg a):qV v j qa=qa∧QF v j=some v:=by
 cases v
 case tuple a=>obtain⟨b,D⟩:=E6 a j qa;exact absurd D (h _)
 all_goals first|exact⟨rfl,rfl⟩|exact absurd rfl (r _)
theorem ac7{r t:T}{cv x:Value}{j:Nat}(h:iE β G w M (iY r j .nilsl) (qV cv j qa))(I:QF cv j=some x)(J:iE β G w M t x)(hs:single t=true):iE β G w M (iY r j t) cv:=by
 cases r
 case tup vs=>
  by_cases E5:j<100
  ·simp only[iY,E5,if_true,iE]at h ⊢
   obtain⟨a,D,F⟩:=h
   cases cv <;> simp[qV,E5]at D
   rename_i a0
   subst D
   simp only[QF,E5,if_true]at I
   refine⟨a0,rfl, ?_⟩
   have:=iF.set j F J
   grind [List.set_set,Array.toList_setIfInBounds,wK]
  ·have O: ∃a0 b,cv= .tuple a0∧a0[j/100-1]? =some (.agg b)∧b[j%100]? =some x:=by
    cases cv
    case tuple a0=>
     grind [QF,hi]
    all_goals
     exfalso
     simp only[iY,E5,if_false]at h
     split at h <;> (simp only[qV,iE]at h;obtain⟨_,h,_⟩:=h;cases h)
   obtain⟨a0,b,rfl,N,X⟩:=O
   simp only[qV,E5,if_false,N]at h
   simp only[iY,E5,if_false]at h ⊢
   split at h
   ·rename_i cs hi
    simp only[iE]at h ⊢
    obtain⟨a,D,F⟩:=h
    cases D
    refine⟨a0,rfl, ?_⟩
    have Y:j/100-1<vs.length:=(List.getElem?_eq_some_iff.1 hi).1
    have H:iE β G w M (.agg (cs.set (j%100) .nilsl)) (.agg (b.setIfInBounds (j%100) qa)):=by
     obtain⟨x1,W,Z⟩:=F.get (List.getElem?_set_self Y)
     rw[Array.toList_setIfInBounds,List.getElem?_set_self (by have:=(Array.getElem?_eq_some_iff.1 N).1;simpa using this)]at W
     cases W;exact Z
    have U:iE β G w M (.agg (cs.set (j%100) t)) (.agg b):=by
     simp only[iE]at H ⊢
     obtain⟨b1,lE,EU,rP⟩:=H
     cases lE
     refine⟨b,rfl, ?_,E3 rP hs⟩
     have:=iF.set (j%100) EU J
     rw[List.set_set,Array.toList_setIfInBounds,wK X]at this
     exact this
    have:=iF.set (j/100-1) F U
    rw[List.set_set,Array.toList_setIfInBounds,wK N]at this
    exact this
   ·simp only[iE]at h ⊢
    obtain⟨a,D,F⟩:=h
    cases D
    refine⟨a0,rfl, ?_⟩
    have:=iF.set (j/100-1) (t:= .any) (v:= .agg b) F (by simp only[iE])
    rw[List.set_set,Array.toList_setIfInBounds,wK N]at this
    exact this
 case agg cs=>
  simp only[iY,iE]at h ⊢
  obtain⟨a,D,F,V⟩:=h
  cases cv
  case tuple a'=>obtain⟨b,hb⟩:=E6 a' j qa;rw[hb]at D;cases D
  all_goals simp[qV]at D
  rename_i a0
  subst D
  simp only[QF]at I
  refine⟨a0,rfl, ?_,E3 V hs⟩
  have:=iF.set j F J
  grind [List.set_set,Array.toList_setIfInBounds,wK]
 case any=>simp only[iY,iE]
 all_goals
  simp only[iY,iE]at h ⊢
  obtain⟨h1,h2⟩:=E7 (v:=cv) (j:=j) (fun a e=>by rw[e]at h;cases h) (fun a e=>by rw[e]at h;cases h)
  rw[h2]at I
  cases I
  exact J
def okC:T→Nat→Prop
 | .any,_=>False
 | .tup r,j=>j<100∨ ∃cs,r[j/100-1]? =some (.agg cs)
 |_,_=>True
theorem XO{p:T}{v x:Value}{j:Nat}{cs:List T}{len:Nat}{ex:Bool}(I:okC p j)(h:iE β G w M p (qV v j qa))(D:QF v j=some x):
  l6 (iY p j (.sl cs len ex)) j=some (.sl cs len ex)∧iE β G w M (iY (iY p j (.sl cs len ex)) j .nilsl) (qV v j qa):=by
 have J:iE β G w M .nilsl qa:=by simp only[iE]
 cases p
 case tup vs=>
  simp only[iE]at h
  obtain⟨a,r,F⟩:=h
  by_cases E5:j<100
  ·cases v <;> simp[qV,E5]at r
   rename_i a0
   subst r
   simp only[QF,E5,if_true]at D
   have CG:=iF.length _ _ F
   simp at CG
   obtain⟨X,_⟩:=Array.getElem?_eq_some_iff.1 D
   refine⟨by simp only[iY,l6,E5,if_true];rw[List.getElem?_set_self (by omega)], ?_⟩
   simp only[iY,qV,iE,List.set_set,E5,if_true]
   refine⟨_,rfl, ?_⟩
   have:=iF.set j F J
   rw[Array.toList_setIfInBounds,List.set_set]at this
   rw[Array.toList_setIfInBounds];exact this
  ·have I:j<100∨ ∃cs,vs[j/100-1]? =some (.agg cs):=I
   obtain⟨S3,hi⟩:=I.resolve_left E5
   cases v
   case tuple a0=>
    simp only[QF,E5,if_false]at D
    cases N:a0[j/100-1]? with
    |none=>grind
    |some Y=>
     rw[N]at D
     cases Y <;> try (simp only at D;cases D;done)
     rename_i b
     simp only at D
     simp only[qV,E5,if_false,N]at r ⊢
     cases r
     have V:j/100-1<vs.length:=(List.getElem?_eq_some_iff.1 hi).1
     have H:iE β G w M (.agg S3) (.agg (b.setIfInBounds (j%100) qa)):=by
      obtain⟨x1,W,Z⟩:=F.get hi
      rw[Array.toList_setIfInBounds,List.getElem?_set_self (by have:=(Array.getElem?_eq_some_iff.1 N).1;simpa using this)]at W
      cases W;exact Z
     simp only[iE]at H
     obtain⟨b1,lE,EU,rP⟩:=H
     cases lE
     have O:=iF.length _ _ EU
     simp at O
     obtain⟨hj2,_⟩:=Array.getElem?_eq_some_iff.1 D
     refine⟨?_, ?_⟩
     ·simp only[iY,l6,E5,if_false,hi]
      rw[List.getElem?_set_self V]
      simp only
      rw[List.getElem?_set_self (by omega)]
     ·simp only[iY,E5,if_false,hi]
      rw[List.getElem?_set_self V]
      simp only[List.set_set,iE]
      refine⟨_,rfl, ?_⟩
      have h3:iE β G w M (.agg (S3.set (j%100) .nilsl)) (.agg (b.setIfInBounds (j%100) qa)):=by
       simp only[iE]
       refine⟨_,rfl, ?_,Ah rP rfl⟩
       have:=iF.set (j%100) EU J
       rw[Array.toList_setIfInBounds,List.set_set]at this
       rw[Array.toList_setIfInBounds];exact this
      have:=iF.set (j/100-1) F h3
      rw[Array.toList_setIfInBounds,List.set_set]at this
      rw[Array.toList_setIfInBounds];exact this
   all_goals (simp only[qV]at r;cases r)
 case agg vs=>
  simp only[iE]at h
  obtain⟨a,r,F,U⟩:=h
  cases v
  case tuple a'=>obtain⟨b,hb⟩:=E6 a' j qa;rw[hb]at r;cases r
  all_goals simp[qV]at r
  rename_i a0
  subst r
  simp only[QF]at D
  have CG:=iF.length _ _ F
  simp at CG
  obtain⟨X,_⟩:=Array.getElem?_eq_some_iff.1 D
  refine⟨by simp only[iY,l6];rw[List.getElem?_set_self (by omega)], ?_⟩
  simp only[iY,qV,iE,List.set_set]
  refine⟨_,rfl, ?_,Ah U rfl⟩
  have:=iF.set j F J
  rw[Array.toList_setIfInBounds,List.set_set]at this
  rw[Array.toList_setIfInBounds];exact this
 case any=>exact I.elim
 all_goals
  refine⟨rfl, ?_⟩
  simp only[iY]
  have hp:qV v j qa=qa:=by
   grind [iE,PRel,E7]
  rw[hp];exact J
end
def XP(P:Program)(f:Nat)(F:Bool)(args:List T)(sh:List iy)(r:T)(H:List iy):Prop:=
 ∀(w:World) (β:jf) (M:iP) (D:Array Value),jo ⟨w,M,mn sh β⟩ (bare .nil sh) w β M→pw F β (bare .nil sh).gens w M args D.toList→
  Calls P f D w fun e w'=> ∃cv I M',e= .returned cv∧jo ⟨w,M,mn sh β⟩ (bare .nil H) w' I M'∧(∀n g,g≤(iM sh n).g→I .S n g=β .S n g)∧(∀n,(iM sh n).g≤(iM H n).g)∧uV F I (bare .nil H).gens w' M' r cv
theorem OA(p x y:T)(j:Nat)(h:single x=true):iY (iY p j x) j y=iY p j y:=by
 cases p
 case tup vs=>
  by_cases r:j<100
  ·grind [iY,List.set_set]
  grind [iY,List.set_eq_of_length_le,hi,List.getElem?_set_self,List.set_set,List.getElem?_eq_none_iff.1,List.getElem?_eq_some_iff.1]
 case agg vs=>simp only[iY,List.set_set]
 all_goals first|(simp only[iY];done)|(simp only[iY];cases x <;> first|rfl|cases h)
def atQ(w w':World)(M:iP)(r:T)(j:Nat)(cs:List T)(len:Nat)(cv:Value):Prop:=
 ∃(S:LG) (sz D:Nat) (c:Array Value) (el:TypeId),w.heap.size≤S.blk∧w'.heap[S.blk]? =some (.cells c el (0,0))∧S.off+S.ext≤c.size∧cs.length≤S.ext∧PList w' M cs ((c.toList.drop S.off).take cs.length)∧(sQ (iY r j .nilsl)=true∨ ∀i,i<S.ext→M S.blk (S.off+i))∧
  cs.all single=true∧cs.length=len*sz∧len≠0∧len≤D∧D*sz≤S.ext∧QF cv j=some (.slice (some ⟨S.blk,S.off,none⟩) len D)∧ ∀β G,iE β G w' M (iY r j .nilsl) (qV cv j qa)
def S4(P:Program)(f:Nat)(args:List T)(sh:List iy)(j:Nat)(r:T)(F:List iy):Prop:=
 ∀(w:World) (β:jf) (M:iP) (D:Array Value),jo ⟨w,M,mn sh β⟩ (bare .nil sh) w β M→pw false β (bare .nil sh).gens w M args D.toList→
  Calls P f D w fun e w'=> ∃cv H M',e= .returned cv∧jo ⟨w,M,mn sh β⟩ (bare .nil F) w' H M'∧
   ((l6 r j=some .nilsl∧PRel w' M' r cv)∨ ∃cs len,l6 r j=some (.sl cs len false)∧atQ w w' M' r j cs len cv)
def QG(r off D:Nat):Option Nat→Value
 |none=> .tuple #[]
 |some n=> .slice (some ⟨r,off,none⟩) n D
def atS(P:Program)(f:Nat)(h:List T→Option (List T×Option Nat)):Prop:=
 (∀r,h []=some ([],r)→r.getD 0=0→ ∀w:World,Calls P f #[qa] w fun e w'=>e= .returned (match r with|none=> .tuple #[]|some _=>qa)∧RowKit.Below w.heap.size w w')∧
 ∀cs H r,h cs=some (H,r)→H.length=cs.length→ ∀(w:World) (M:iP) (D off F:Nat) (c:Array Value) (el:TypeId) (I:List Value),w.heap[D]? =some (.cells c el (0,0))→off+cs.length≤c.size→cs.length≤F→(c.toList.drop off).take cs.length=I→PList w M cs I→
  Calls P f #[.slice (some ⟨D,off,none⟩) cs.length F] w fun e w'=> ∃us,e= .returned (QG D off F r)∧PList w M H us∧RowKit.Below w.heap.size (setBlock w D (.cells (splice c.toList off us).toArray el)) w'
def vO(P:Program)(E:Env):Prop:=
 (∀f af,E.fn f=some af→ ∃hs F,P.funcs[f]? =some F∧Hj P hs af.eff F=some af)∧
 (∀f g,E.fn f=none→E.ext f=some g→(∃F,P.funcs[f]? =some F∧(F.name== "runtime.NumGoroutine")=false∧F.body.isSome=true)∧
   ∀args r,g args=some r→ ∀(w:World) (M:iP) (D:Array Value),(∀b o,M b o→b<w.heap.size)→PList w M args D.toList→
    Calls P f D w fun e w'=> ∃cv,e= .returned cv∧RowKit.Below w.heap.size w w'∧PRel w' (fun b _=>b<w.heap.size) r cv)∧
 (∀f h,E.fn f=none→E.ext f=none→E.wr f=some h→(∃F,P.funcs[f]? =some F∧(F.name== "runtime.NumGoroutine")=false∧F.body.isSome=true)∧
   atS P f h)
def Ai(P:Program)(E:Env)(call:qT):Prop:= ∀f af args sh r D,E.fn f=some af→call f args sh=some (r,D)→(af.own=none→XP P f af.eff args sh r D)∧(∀j,af.own=some j→af.eff=false∧S4 P f args sh j r D)
theorem E8{st jz:St}{a:Act}{w w':World}{β jj:jf}{M M':iP}{n:Nat}{d:Option Nat}{v:T}{cv:Value}{fr:Fr}(r:pt st a w β M n)(H:Tr st w β M jz w' jj M')(D:oD st.fr n d v=some fr)(I:iE jj jz.gens w' M' v cv):
  pt {jz with fr} (a.put d cv) w' jj M' n:=by
 cases d with
 |none=>
  simp[oD]at D;subst D
  exact⟨r.size,r.defers,fun t=>H.val (r.slot t)⟩
 |some d=>
  simp only[oD]at D
  split at D
  ·rename_i J
   simp at D;subst D
   refine⟨by simp[Act.put,r.size],r.defers,fun t=> ?_⟩
   have N:an (kJ st.fr d v) t=if t=d then v else an st.fr t:=rC st.fr d v t
   have O:(a.put (some d) cv).tmps.getD t undef=if t=d then cv else a.tmps.getD t undef:=by
    simp only[Act.put,Array.getD_eq_getD_getElem?,Array.getElem?_setIfInBounds]
    by_cases F:d=t
    ·subst F;rw[if_pos rfl,if_pos (by rw[r.size];exact J),if_pos rfl];rfl
    ·grind
   show iE jj jz.gens w' M' (an (kJ st.fr d v) t) _
   rw[N,O]
   split
   ·exact I
   ·exact H.val (r.slot t)
  ·cases D
end Go.Ev
namespace Go.Ev
open Go
theorem ac8{B:mQ}{st:St}{w:World}{β:jf}{M:iP}(h:jo B st w β M)(fr:Fr):jo B {st with fr} w β M:=
 ⟨h.obj,h.dist,h.mlt,h.lblk,h.sblk,h.os,h.tape,h.output,h.size,h.same,h.keep,h.msup⟩
theorem Tr.fr{st jz:St}{w w':World}{β jj:jf}{M M':iP}(h:Tr st w β M jz w' jj M')(fr:Fr):Tr st w β M {jz with fr} w' jj M':=⟨h.keep,h.beta,h.gens⟩
theorem OB{w w':World}{M M':iP}{r:T}{cv:Value}(hs:scalar r=true)(h:PRel w M r cv):PRel w' M' r cv:=by
 cases r <;> simp[scalar]at hs
 case tup vs=>
  simp only[PRel]at h ⊢
  obtain⟨a,rfl,D⟩:=h
  refine⟨a,rfl, ?_⟩
  generalize a.toList=l at D
  induction vs generalizing l with
  |nil=>grind [PList]
  |cons t ts ih=>
   simp only[PList]at D ⊢
   obtain⟨u,us,rfl,F,H⟩:=D
   have I:=hs t (by simp)
   grind [PRel]
 all_goals simpa only[PRel]using h
theorem yK{β jj:jf}{G G':Sp→Nat→Nat}{w w':World}{M M':iP}: ∀{cs:List T} {r:List Value},cs.all rf=true→iF β G w M cs r→iF jj G' w' M' cs r
 | [],r,_,h=>by grind [iF]
 |t::ts,r,hs,h=>by
  simp only[List.all_cons,Bool.and_eq_true]at hs
  simp only[iF]at h ⊢
  obtain⟨u,us,rfl,D,F⟩:=h
  refine⟨u,us,rfl, ?_,yK hs.2 F⟩
  have H:=hs.1
  cases t <;> simp[rf]at H <;> simpa only[iE]using D
theorem S5{w w':World}{M M':iP}{r:T}{cv:Value}(hs:sQ r=true)(h:PRel w M r cv):PRel w' M' r cv:=by
 cases r <;> simp[sQ,rf]at hs
 case tup vs=>
  simp only[PRel]at h ⊢
  obtain⟨a,rfl,D⟩:=h
  refine⟨a,rfl, ?_⟩
  generalize a.toList=l at D
  induction vs generalizing l with
  |nil=>grind [PList]
  |cons t ts ih=>
   simp only[PList]at D ⊢
   obtain⟨u,us,rfl,H,N⟩:=D
   have J:=hs t (by simp)
   refine⟨u,us,rfl, ?_,ih (fun x F=>hs x (by simp[F])) us N⟩
   cases t <;> simp[rf]at J <;> try (simpa only[PRel]using H;done)
   simp only[PRel]at H ⊢
   obtain⟨b,rfl,O,I⟩:=H
   exact⟨b,rfl,xz (List.all_eq_true.2 fun x F=>J x F) O,I⟩
 case agg vs=>
  simp only[PRel]at h ⊢
  obtain⟨a,rfl,D,I⟩:=h
  exact⟨a,rfl,xz (List.all_eq_true.2 fun x F=>hs x F) D,I⟩
 all_goals simpa only[PRel]using h
theorem OC{β jj:jf}{G G':Sp→Nat→Nat}{w w':World}{M M':iP}{r:T}{cv:Value}(hs:sQ r=true)(h:iE β G w M r cv):iE jj G' w' M' r cv:=by
 cases r <;> simp[sQ,rf]at hs
 case tup vs=>
  simp only[iE]at h ⊢
  obtain⟨a,rfl,D⟩:=h
  refine⟨a,rfl, ?_⟩
  generalize a.toList=l at D
  induction vs generalizing l with
  |nil=>grind [iF]
  |cons t ts ih=>
   simp only[iF]at D ⊢
   obtain⟨u,us,rfl,H,N⟩:=D
   have J:=hs t (by simp)
   refine⟨u,us,rfl, ?_,ih (fun x F=>hs x (by simp[F])) us N⟩
   cases t <;> simp[rf]at J <;> try (simpa only[iE]using H;done)
   simp only[iE]at H ⊢
   obtain⟨b,rfl,O,I⟩:=H
   exact⟨b,rfl,yK (List.all_eq_true.2 fun x F=>J x F) O,I⟩
 case agg vs=>
  simp only[iE]at h ⊢
  obtain⟨a,rfl,D,I⟩:=h
  exact⟨a,rfl,yK (List.all_eq_true.2 fun x F=>hs x F) D,I⟩
 all_goals simpa only[iE]using h
section
variable{P:Program}{E:Env}{call:qT}{B:mQ}{st:St}{a:Act}{w:World}{β:jf}{M:iP}{o:Oper}
theorem u7{f:Nat}{D:Func}(H:P.funcs[f]? =some D)(I:(D.name== "runtime.NumGoroutine")=false)(F:D.body.isSome=true)(r:Array Value)(w:World):(callFunc f r).run P w= .ok (.enter f r) w:=by
 have J: ¬D.name= "runtime.NumGoroutine" :=by simpa using I
 have N: ¬D.body=none:=by intro e;rw[e]at F;simp at F
 simp[callFunc,H,J,N]
theorem S6(N:rh β st.gens w M st.rho a.eval){c:Call}(U:o.op= .call c){sh:Nat}{N1:nO}(r:tL P sh c=some N1){f:Nat}{D:List T}(H:jL st.rho N1=some (some (f,D))):
  ∃F:Array Value,(execOp a.eval o).run P w=(callFunc f F).run P w∧iF β st.gens w M D F.toList:=by
 unfold tL at r
 split at r
 ·rename_i V I
  simp only[Option.map_eq_some_iff]at r
  obtain⟨as,J,rfl⟩:=r
  simp[jL]at H
  obtain⟨rfl,rfl⟩:=H
  refine⟨c.args.map a.eval, ?_,by simpa using xx N J⟩
  simp[execOp,U,resolve,I,Deferred.ofValue,Act.eval,invoke]
 ·rename_i x mR I
  split at r
  ·rename_i y as J W
   simp at r;subst r
   simp only[jL,Option.some.injEq]at H
   split at H
   ·rename_i V fa fc e
    simp at H
    obtain⟨rfl,rfl⟩:=H
    have O:=N x y J
    rw[e]at O
    simp only[iE]at O
    obtain⟨X,Y,Z,l1,l2⟩:=O
    refine⟨X++c.args.map a.eval++Y, ?_, ?_⟩
    ·simp[execOp,U,resolve,I,Z,Deferred.ofValue,invoke]
    ·have:=iF.append (iF.append l1 (xx N W)) l2
     simpa using this
   ·simp at H
  ·cases r
 all_goals
  exfalso
  revert H
  try (simp only[Option.map_eq_some_iff]at r;obtain⟨as,J,rfl⟩:=r;simp[jL];done)
  try (cases r;done)
 ·grind [jL]
 ·split at r
  ·grind [jL]
  ·cases r
theorem S7{sh:Nat}{op:Op}{N1:nO}{ρ:iS→T}{x:Option (Nat×List T)}(h:kq P sh op=some N1)(H:jL ρ N1=some x): ∃c,op= .call c∧tL P sh c=some N1:=by
 cases op with
 |call c=>exact⟨c,rfl,h⟩
 |makeFunc D first F=>
  exfalso
  cases D <;> simp only[kq]at h <;> try (cases h;done)
  grind [jL]
 |makeMap t r=>
  exfalso
  cases r <;> simp only[kq]at h
  ·grind [jL]
  ·cases h
 |_=>
  grind [kq,Option.map_eq_some_iff,jL]
theorem atU(h:jo B st w β M){f:Nat}{g:List T→Option (List T×Option Nat)}
  (nw: ∀r,g []=some ([],r)→r.getD 0=0→ ∀w:World,Calls P f #[qa] w fun e w'=>e= .returned (match r with|none=> .tuple #[]|some _=>qa)∧RowKit.Below w.heap.size w w')
  (yL: ∀cs Y r,g cs=some (Y,r)→Y.length=cs.length→ ∀(w:World) (M:iP) (U off I:Nat) (c:Array Value) (el:TypeId) (vs:List Value),w.heap[U]? =some (.cells c el (0,0))→off+cs.length≤c.size→cs.length≤I→(c.toList.drop off).take cs.length=vs→PList w M cs vs→
    Calls P f #[.slice (some ⟨U,off,none⟩) cs.length I] w fun e w'=> ∃us,e= .returned (QG U off I r)∧PList w M Y us∧RowKit.Below w.heap.size (setBlock w U (.cells (splice c.toList off us).toArray el)) w')
  {N:List T} {F:Array Value} (hv:iF β st.gens w M N F.toList) {r:T} {BM:St} (D:Xu g st N=some (r,BM)):
  BM.fr=st.fr∧Calls P f F w fun e w'=> ∃cv V M',e= .returned cv∧jo B BM w' V M'∧Tr st w β M BM w' V M'∧w.heap.size≤w'.heap.size∧iE V BM.gens w' M' r cv:=by
 unfold Xu at D
 split at D
 ·have Z:F= #[qa]:=by
   grind [iF,iE,Array.toList_inj.1]
  subst Z
  have fin: ∀W:Option Nat,g []=some ([],W)→W.getD 0=0→BM=st→(∀V M' w',iE V st.gens w' M' r (match W with|none=> .tuple #[]|some _=>qa))→
    BM.fr=st.fr∧Calls P f #[qa] w fun e w'=> ∃cv V M',e= .returned cv∧jo B BM w' V M'∧Tr st w β M BM w' V M'∧w.heap.size≤w'.heap.size∧iE V BM.gens w' M' r cv:=by
   rintro W hg h0 rfl hr
   refine⟨rfl,(nw W hg h0 w).mono ?_⟩
   rintro e w' ⟨rfl,J⟩
   obtain⟨o1,o2⟩:=LY h J.os J.tape J.output J.size J.block
   exact⟨_,β,M,rfl,o1,o2,J.size,hr _ _ _⟩
  split at D
  ·grind [Option.some.injEq,Prod.mk.injEq,iE,iF]
  ·rename_i hg
   simp only[Option.some.injEq,Prod.mk.injEq]at D
   obtain⟨rfl,rfl⟩:=D
   simp_all[iE,qa]
  ·cases D
 ·rename_i sp k g0 off len
  simp only[iF,iE]at hv
  obtain⟨u,us,h1,⟨aGx,I,rfl,hlc,hce⟩,rfl⟩:=hv
  have Z:F= #[.slice (some ⟨(β sp k g0).blk,(β sp k g0).off+off,none⟩) len I]:=Array.toList_inj.1 h1
  subst Z
  generalize he:st.get sp k=e0 at D
  obtain⟨O,ob⟩:=e0
  cases ob with
  |none=>cases D
  |map _ _ _=>cases D
  |cells cs wm bx=>
  cases bx with
  |true=>cases D
  |false=>
  dsimp only at D
  split at D
  ·rename_i atV
   obtain⟨rfl,LR,wg⟩:=atV
   split at D
   ·rename_i Y W hg
    split at D
    ·rename_i hys
     obtain⟨Qz,hy2,hy3⟩:=hys
     simp only[Option.some.injEq,Prod.mk.injEq]at D
     obtain⟨rfl,rfl⟩:=D
     have C7:=h.obj sp k
     rw[he]at C7
     unfold lM at C7
     obtain⟨c,el,fz,yo,h2,h3,h4,h5,h6,h7,h8⟩:=C7
     dsimp only at yo h2 h3 h4 h5 h6
     subst h4
     have H:((cs.drop off).take len).length=len:=by rw[List.length_take,List.length_drop];omega
     have ls:c.toList.length=c.size:=by simp
     have hpl:PList w M ((cs.drop off).take len) ((c.toList.drop ((β sp k O).off+off)).take len):=by
      have q:=PList.take len (PList.drop off (show PList w M cs ((c.toList.drop (β sp k O).off).take cs.length)from h5))
      rw[List.drop_take,List.take_take,List.drop_drop,Nat.min_eq_left (by omega)]at q
      exact q
     have iI:=yL _ Y W hg (by rw[H];exact Qz) w M (β sp k O).blk ((β sp k O).off+off) I c el _ yo (by rw[H];omega) (by rw[H];exact hlc) (by rw[H]) hpl
     rw[H]at iI
     refine⟨aik _ _,iI.mono ?_⟩
     rintro e w' ⟨us,rfl,hpu,J⟩
     have hul:us.length=len:=by rw[←PList.length _ _ hpu];exact Qz
     have X:=Ab h he O (Nat.le_refl _) yo off us (splice cs off Y) LR (by omega) (by rw[kK];omega) (by rw[kK];exact h3) (uZ h7 hy2) (by
      rw[kK]
      have XI:(splice (c.toList.drop (β sp k O).off) off us).take cs.length=splice ((c.toList.drop (β sp k O).off).take cs.length) off us:=by
       apply List.ext_getElem?
       intro j
       rw[List.getElem?_take,mM,mM,List.getElem?_take,List.length_take]
       by_cases hj:j<cs.length
       ·rw[if_pos hj,if_pos hj]
        by_cases Z:off≤j∧j<off+us.length∧j<(c.toList.drop (β sp k O).off).length
        ·rw[if_pos Z,if_pos (by omega)]
        ·rw[if_neg Z,if_neg (by omega)]
       ·rw[if_neg hj,if_neg hj,if_neg (by omega)]
      rw[XI]
      exact PList.splice h5 hpu)
     rw[tN]at X
     have qn:=lX w (β sp k O).blk (.cells (splice c.toList ((β sp k O).off+off) us).toArray el)
     obtain⟨o1,o2⟩:=LY X.1 J.os J.tape J.output J.size fun b hb=>J.block b (by rw[qn]at hb;exact hb)
     refine⟨_,β,M,rfl,o1,X.2.trans o2 (by rw[qn];exact Nat.le_refl _),by rw[←qn];exact J.size, ?_⟩
     cases W with
     |none=>simp[akb,QG,iE,iF]
     |some n=>
      simp only[akb,QG,iE]
      refine⟨?_,I,rfl, ?_,hce⟩
      ·rw[ml,if_pos ⟨rfl,rfl⟩];exact Nat.le_refl _
      ·simp at hy3;omega
    ·cases D
   ·cases D
  ·cases D
 ·cases D
theorem S8(hE:vO P E)(hO:Ai P E call)(h:jo B st w β M){f:Nat}{J:List T}{F:Array Value}(hv:iF β st.gens w M J F.toList){r:T}{BM:St}{d:Nat}(D:jy E call d st f J=some (r,BM)):
  (callFunc f F).run P w= .ok (.enter f F) w∧BM.fr=st.fr∧
  Calls P f F w fun e w'=> ∃cv I M',e= .returned cv∧jo B BM w' I M'∧Tr st w β M BM w' I M'∧w.heap.size≤w'.heap.size∧iE I BM.gens w' M' r cv:=by
 unfold jy at D
 split at D
 ·rename_i af Dp
  obtain⟨hs,fn,hf,BN⟩:=hE.1 f af Dp
  have hnb:(fn.name== "runtime.NumGoroutine")=false∧fn.body.isSome=true:=by
   grind [Hj]
  refine⟨u7 hf hnb.1 hnb.2 _ _, ?_⟩
  split at D
  ·rename_i q hq
   obtain⟨ts,us⟩:=q
   obtain⟨M1,X,q2,q3,q4,q5,q6⟩:=qm (fun t=>Cy af.eff st iT t) J B st w β M _ ts us _ (Fz.refl st) h hv hq
   split at D
   ·rename_i u9
    simp only[Option.map_eq_some_iff]at D
    obtain⟨⟨N,jk⟩,iI,D⟩:=D
    simp at D
    obtain⟨rfl,rfl⟩:=D
    refine⟨IU st us, ?_⟩
    have yM:af.own=none:=by
     cases ho:af.own with
     |none=>rfl
     |some j=>rw[((hO f af ts (st.ups us).sh N jk Dp iI).2 j ho).1]at u9;cases u9
    have W:=(hO f af ts (st.ups us).sh N jk Dp iI).1 yM
    rw[u9]at q4 W
    have hx:pw true β (bare .nil (st.ups us).sh).gens w M1 ts F.toList:=by
     intro I G' p1 p2
     refine q4 I G' (fun k g hg=>p1 k g ?_) (fun k=>Nat.le_trans (Nat.le_of_eq ?_) (p2 k))
     ·have:(bare .nil (st.ups us).sh).gens .S k=(st.ups us).gens .S k:=rfl
      rw[this,q2.gens];exact hg
     ·have:(bare .nil (st.ups us).sh).gens .S k=(st.ups us).gens .S k:=rfl
      rw[this,q2.gens]
    refine(W w β M1 F (ac6 X .nil) hx).mono ?_
    rintro e w' ⟨cv,I,M',rfl,H,GD,hG,Y⟩
    obtain⟨b1,b2⟩:=akC X H GD hG
    refine⟨cv,_,M',rfl,b1,(Tr.fz q2 q3).trans b2 (Nat.le_refl _),H.size, ?_⟩
    exact Y _ _ (fun _ _ _=>rfl) (fun _=>Nat.le_refl _)
   ·rename_i u9
    simp at u9
    split at D
    ·rename_i r0 iI
     obtain⟨N,jk⟩:=r0
     rw[u9]at q4
     have wh: ∀b,¬mn [] β b:=by rintro b ⟨k,hl,_⟩;simp[iM,iN]at hl;exact hl.elim
     have GL:jo ⟨w,M1,mn [] β⟩ (bare .nil []) w β M1:=by
      have h0:=XM X .nil
      exact⟨h0.obj,h0.dist,h0.mlt,fun k hl=>h0.lblk k hl,fun k hl=>(h0.sblk k hl).imp (fun e=>e.elim) id,rfl,rfl,rfl,Nat.le_refl _,fun _ _ _=>rfl,lG.refl w M1,fun _ _ _ _ Z=>Z⟩
     have U: ∀(c:Bool),(c=true→ ∀{w1 M1 w2 M2 cv},PRel w1 M1 N cv→PRel w2 M2 N cv)→ ∀(w':World) (cv:Value) (I:jf) (M':iP) (S9:St),S9=(if c=true then st else st.ups us)→jo ⟨w,M1,mn [] β⟩ (bare .nil jk) w' I M'→PRel w' M' N cv→
       ∃V I M',Ending.returned cv= .returned V∧jo B S9 w' I M'∧Tr st w β M S9 w' I M'∧w.heap.size≤w'.heap.size∧iE I S9.gens w' M' N V:=by
      intro c hcr w' cv I M' S9 xY H hr'
      have O:=fun b (hb:b<w.heap.size)=>H.same b hb (wh b)
      by_cases oi:c=true
      ·rw[if_pos oi]at xY;subst xY
       obtain⟨o1,o2⟩:=LY h H.os H.tape H.output H.size O
       exact⟨cv,β,M,rfl,o1,o2,H.size,PRel.toV _ _ _ _ (hcr oi hr')⟩
      ·rw[if_neg oi]at xY;subst xY
       obtain⟨o1,o2⟩:=LY X H.os H.tape H.output H.size O
       refine⟨cv,β,M1,rfl,o1,(Tr.fz q2 q3).trans o2 (Nat.le_refl _),H.size,PRel.toV _ _ _ _ (PRel.mono (kY ?_) _ _ hr')⟩
       intro b x Z
       have hb:=X.mlt b x Z
       exact H.msup b x hb (wh b) Z
     cases yM:af.own with
     |none=>
      simp only[yM]at D
      simp at D
      obtain⟨rfl,xY⟩:=D
      have W:=(hO f af ts [] N jk Dp iI).1 yM
      rw[u9]at W
      have akG:BM.fr=st.fr:=by rw[←xY];split;rfl;exact IU st us
      refine⟨akG,(W w β M1 F GL q4).mono ?_⟩
      rintro e w' ⟨cv,I,M',rfl,H,GD,hG,Y⟩
      exact U (scalar N) (fun h=>OB h) w' cv I M' BM xY.symm H Y
     |some j=>
      simp only[yM]at D
      have W:=((hO f af ts [] N jk Dp iI).2 j yM).2
      unfold yI at D
      have akG:BM.fr=st.fr:=by
       split at D
       ·simp at D;obtain⟨_,rfl⟩:=D;split;rfl;exact IU st us
       ·split at D
        ·simp at D;obtain⟨_,rfl⟩:=D;show(ite _ _ _:St).fr=_;split;rfl;exact IU st us
        ·cases D
       ·cases D
      refine⟨akG,(W w β M1 F GL q4).mono ?_⟩
      rintro e w' ⟨cv,I,M',rfl,H,Y⟩
      rcases Y with⟨hc,Y⟩|⟨cs,len,hc,S,sz,cap,c,el,s1,s2,s3,s4,s5,s6,s7,s8,s9,s10,s11,s12,s13⟩
      ·rw[hc]at D
       simp at D;obtain⟨rfl,xY⟩:=D
       exact U (sQ N) (fun h=>S5 h) w' cv I M' BM xY.symm H Y
      ·rw[hc]at D
       simp only at D
       split at D
       ·rename_i CE
        have qn:cs.length/len=sz:=by rw[s8];exact Nat.mul_div_cancel_left _ (Nat.pos_of_ne_zero s9)
        rw[qn]at D
        have O:=fun b (hb:b<w.heap.size)=>H.same b hb (wh b)
        have fin: ∀(S9:St) (M3:iP),jo B S9 w β M3→Tr st w β M S9 w β M3→(∀β G,iE β G w' (LZ M3 S) (iY N j .nilsl) (qV cv j qa))→
          some (iY N j (.isl .L d ((S9.get .L d).g+1) 0 len sz),S9.up (.L,d,⟨(S9.get .L d).g+1,.cells cs 0 false⟩))=some (r,BM)→
          ∃V I M',Ending.returned cv= .returned V∧jo B BM w' I M'∧Tr st w β M BM w' I M'∧w.heap.size≤w'.heap.size∧iE I BM.gens w' M' r V:=by
         intro S9 M3 h3 t3 hv3 D
         simp only[Option.some.injEq,Prod.mk.injEq]at D
         obtain⟨rfl,rfl⟩:=D
         obtain⟨o1,o2⟩:=akD h3 H.os H.tape H.output H.size O d ((S9.get .L d).g+1) (Nat.lt_succ_self _) S s1 (sS s2) (.cells cs 0 false) (by
          unfold lM
          simp only[jT]
          exact⟨c,el,(0,0),s2,s3,s4,rfl,xz CE.1 s5,fun i _ hi=> .inr ⟨rfl,by omega,by omega⟩,s7,Nat.zero_le _⟩)
         refine⟨cv,_,_,rfl,o1,t3.trans o2 (Nat.le_refl _),H.size,ac7 (hv3 _ _) s12 ?_ rfl⟩
         simp only[iE]
         rw[jT]
         exact⟨by simp[ml],cap,rfl,s10,by simpa using s11⟩
        by_cases oi:sQ (iY N j .nilsl)=true
        ·simp only[oi,if_true]at D
         exact fin st M h (Tr.refl _ _ _ _) (fun β G=>OC oi (s13 β G)) D
        ·simp only[oi,Bool.false_eq_true,if_false]at D
         refine fin (st.ups us) M1 X (Tr.fz q2 q3) (fun β G=>iE.mono (kY ?_) (fun _ _ _ _=>rfl) (fun _ _=>Nat.le_refl _) _ _ (s13 β G)) D
         rintro b x (Z|⟨rfl,h1,h2⟩)
         ·exact H.msup b x (X.mlt b x Z) (wh b) Z
         ·have:=(s6.resolve_left oi) (x-S.off) (by omega)
          rwa [show S.off+(x-S.off)=x by omega]at this
       ·cases D
    ·cases D
  ·cases D
 ·rename_i g Dp LS
  split at D
  ·rename_i q hq
   obtain⟨ts,us⟩:=q
   simp only[Option.map_eq_some_iff]at D
   obtain⟨N,hg,D⟩:=D
   simp at D
   obtain⟨rfl,rfl⟩:=D
   obtain⟨⟨fn,hf,hn,hb⟩,W⟩:=hE.2.1 f g Dp LS
   obtain⟨M1,X,q2,q3,q4,q5,q6⟩:=qm (fun t=>Cy false st iT t) J B st w β M _ ts us _ (Fz.refl st) h hv hq
   refine⟨u7 hf hn hb _ _,rfl,(W ts N hg w M1 F X.mlt q4).mono ?_⟩
   rintro e w' ⟨cv,rfl,tO,Y⟩
   obtain⟨o1,o2⟩:=LY h tO.os tO.tape tO.output tO.size tO.block
   exact⟨cv,β,M,rfl,o1,o2,tO.size,PRel.toV _ _ _ _ (PRel.mono (kY (fun b x Z=>h.mlt b x Z)) _ _ Y)⟩
  ·cases D
 ·rename_i Dp LS
  split at D
  ·rename_i g hwr
   obtain⟨⟨fn,hf,hn,hb⟩,nw,W⟩:=hE.2.2 f g Dp LS hwr
   refine⟨u7 hf hn hb _ _, ?_⟩
   grind [atU]
  ·cases D
variable{ops:Array Oper}{Q:Exit→Act→World→Prop}{n:Nat}{K:Act→World→Prop}
theorem OD(D:pt st a w β M n){j d:Nat}(F:(ops[j]?).bind (·.dst)=some d)(H:an st.fr d≠ .any):yielded ops a.tmps j=match an st.fr d with| .b x=>some x|_=>none:=by
 unfold yielded
 rw[F]
 simp only[Option.bind_some]
 have hs:=D.slot d
 rw[Array.getD_eq_getD_getElem?]at hs
 cases r:a.tmps[d]? with
 |none=>
  rw[r]at hs
  simp only[Option.getD_none]at hs
  generalize an st.fr d=t at*
  cases t
  case any=>grind
  all_goals (simp only[iE,PRel,undef]at hs;simp_all)
 |some cv=>
  rw[r]at hs
  simp only[Option.getD_some]at hs
  generalize an st.fr d=t at*
  cases t <;> simp only[iE,PRel]at hs
  case b x=>subst hs;rfl
  case any=>grind
  all_goals first
   |(subst hs;rfl)
   |(obtain⟨_,rfl,_⟩:=hs;rfl)
   |(obtain⟨_,_,rfl,_⟩:=hs;rfl)
   |(obtain⟨_,_,_,rfl,_⟩:=hs;rfl)
   |(obtain⟨_,_,_,_,rfl,_⟩:=hs;rfl)
   |(obtain⟨_,rfl⟩:=hs;rfl)
theorem sW(hE:vO P E)(hO:Ai P E call){hs:List Nat}{U:iz}{i:Nat}(hi:ops[i]? =some o)(D:wF P hs ops o=some U)(h:jo B st w β M)(J:pt st a w β M n){I:St}(O:js E call n U st=some I)
  (V: ∀a' w' F M',jo B I w' F M'→pt I a' w' F M' n→Tr st w β M I w' F M'→w.heap.size≤w'.heap.size→K a' w'):wpOp P ops Q i K a w:=by
 have lP:=Xy J
 unfold wpOp
 rw[hi]
 simp only
 unfold wF at D
 split at D
 ·rename_i N1 GJ
  have core: ∀gd,U=⟨o.dst,N1,gd⟩→(match jL st.rho N1 with
    |some (some c)=>match jy E call (o.dst.getD 0) st c.1 c.2 with
     |some r=>(oD st.fr n o.dst r.1).map fun fr=>({r.2 with fr}:St)
     |none=>none
    |some none=>none
    |none=>match(jK (o.dst.getD 0) st.rho N1).run st.get st.sh.length with
     |some (.val v ups)=>(oD st.fr n o.dst v).map fun fr=>({st.ups ups with fr}:St)
     |none=>none)=some I→o.wp P a w K Q:=by
   intro gd _ Db
   unfold Oper.wp
   split at Db
   ·rename_i c iI
    obtain⟨f,W⟩:=c
    split at Db
    ·rename_i r X
     obtain⟨r,BM⟩:=r
     simp only[Option.map_eq_some_iff]at Db
     obtain⟨fr,N,rfl⟩:=Db
     have H:=S7 GJ iI
     obtain⟨c,ho,H⟩:=H
     obtain⟨Y,hx,wx⟩:=S6 lP ho H iI
     obtain⟨d1,d2,d3⟩:=S8 hE hO h wx X
     rw[hx,d1,Oper.upon_enter]
     refine d3.mono ?_
     rintro e w' ⟨cv,F,M',rfl,k1,k2,k3,k4⟩
     refine V _ _ F M' (ac8 k1 fr) ?_ (k2.fr fr) k3
     exact E8 J k2 N k4
    ·cases Db
   ·cases Db
   ·split at Db
    ·rename_i v ups hq
     simp only[Option.map_eq_some_iff]at Db
     obtain⟨fr,N,rfl⟩:=Db
     obtain⟨nx,cv,w',F,M',r1,r2,r3,r4,r5,r6⟩:=atM (P:=P) lP h GJ hq
     rw[r1]
     have:=V (a.put o.dst cv) w' F M' (ac8 r3 fr) (E8 J r4 N r6) (r4.fr fr) r5
     rcases r2 with rfl|⟨rfl,rfl⟩
     ·exact this
     ·exact this
    ·cases Db
  split at D
  ·grind [Region.wanted,js]
  ·rename_i j want hg
   split at D
   ·rename_i d X
    simp at D;subst D
    unfold js at O
    simp only at O
    have Z:an st.fr d≠ .any:=by intro e;rw[e]at O;cases O
    have hy:=OD (ops:=ops) J X Z
    have aBd:(oD st.fr n o.dst jg).map (fun fr=>({st with fr}:St))=some I→K (a.put o.dst undef) w:=by
     intro hp
     simp only[Option.map_eq_some_iff]at hp
     obtain⟨fr,N,rfl⟩:=hp
     exact V _ _ β M (ac8 h fr) (E8 J (Tr.refl _ _ _ _) N (by simp[iE,jg,undef,iF])) ((Tr.refl _ _ _ _).fr fr) (Nat.le_refl _)
    grind [Region.wanted]
   ·cases D
 ·cases D
end
end Go.Ev
namespace Go.Ev
open Go
theorem Q.run_congr{α:Type}{h F:Sp→Nat→iy}{nx r:Nat}: ∀(q:Q α),(∀κ∈q.log h nx,F κ.1 κ.2=h κ.1 κ.2)→(q.asks h nx=true→r=nx)→q.run F r=q.run h nx
 | .ret a,_,_=>rfl
 | .fail,_,_=>rfl
 | .rd sp k f,D,H=>by
   have e:F sp k=h sp k:=D (sp,k) (by simp[Q.log])
   simp only[Q.run,e]
   exact Q.run_congr (f (h sp k)) (fun κ I=>D κ (by simp[Q.log,I])) (fun J=>H (by simp[Q.asks,J]))
 | .new f,D,H=>by
   have e:r=nx:=H rfl
   subst e
   simp only[Q.run]
   exact Q.run_congr (f r) (fun κ I=>D κ (by simp[Q.log,I])) (fun _=>rfl)
theorem oZ(f:T→Q (T×List Up))(h:Sp→Nat→iy)(nx:Nat)(D: ∀t,(f t).asks h nx=false): ∀ts,(jm f ts).asks h nx=false:=by
 have r: ∀{α γ:Type} (q:Q α) (g:α→Q γ),q.asks h nx=false→(∀a,(g a).asks h nx=false)→(q.bind g).asks h nx=false:=by
  intro α γ q g F H
  induction q with
  |ret a=>exact H a
  |fail=>rfl
  |rd sp k f ih=>grind [Q.bind,Q.asks]
  |new f ih=>simp[Q.asks]at F
 intro ts
 induction ts with
 |nil=>rfl
 |cons t ts ih=>
  simp only[jm]
  refine r _ _ (D t) (fun p=>r _ _ ih (fun q=>rfl))
theorem QH(h:Sp→Nat→iy)(nx:Nat): ∀(keep:Bool) (n:Nat) (t:T),(fz keep n t).asks h nx=false:=by
 have r: ∀{α γ:Type} (q:Q α) (g:α→Q γ),q.asks h nx=false→(∀a,(g a).asks h nx=false)→(q.bind g).asks h nx=false:=by
  intro α γ q g D F
  induction q with
  |ret a=>exact F a
  |fail=>rfl
  |rd sp k f ih=>grind [Q.bind,Q.asks]
  |new f ih=>simp[Q.asks]at D
 intro keep n
 induction n generalizing keep with
 |zero=>intro t;rfl
 |succ n ih=>
  intro t
  cases t <;> simp only[fz] <;> try rfl
  ·split
   ·rfl
   ·simp only[Q.asks];split
    ·split
     ·split <;> rfl
     ·split
      ·exact r _ _ (oZ _ _ _ (fun t=>ih false t) _) (fun _=>rfl)
      ·rfl
     ·rfl
    ·rfl
  ·split
   ·rfl
   ·simp only[Q.asks];split
    ·split
     ·exact r _ _ (oZ _ _ _ (fun t=>ih false t) _) (fun _=>rfl)
     ·rfl
    ·rfl
  ·grind [Q.asks]
  ·exact r _ _ (oZ _ _ _ (fun t=>ih keep t) _) (fun _=>r _ _ (oZ _ _ _ (fun t=>ih keep t) _) (fun _=>rfl))
  ·exact r _ _ (oZ _ _ _ (fun t=>ih keep t) _) (fun _=>rfl)
  ·exact r _ _ (oZ _ _ _ (fun t=>ih keep t) _) (fun _=>rfl)
theorem qo{ρ QI:iS→T}{l:List iS}(h: ∀x∈l,QI x=ρ x):l.map QI=l.map ρ:=List.map_congr_left h
theorem rz{ρ QI:iS→T}{d:Nat}{x:Option iS}(h: ∀y∈x.toList,QI y=ρ y):lr QI d x=lr ρ d x:=by
 cases x with
 |none=>rfl
 |some y=>grind [lr]
theorem Ta{ρ QI:iS→T}(d:Nat)(op:nO)(h: ∀x∈BG op,QI x=ρ x):jK d QI op=jK d ρ op:=by
 cases op <;> simp only[BG]at h <;> simp only[jK]
 case mv x=>grind
 case pick c a b=>grind
 case box x sh=>grind
 case build z ps=>
  have e: ∀p∈ps,QI p.2.2=ρ p.2.2:=fun p F=>h _ (List.mem_map.2 ⟨p,F,rfl⟩)
  have H:(ps.all fun p=>decide ((cellsOf (QI p.2.2)).length=p.2.1)&&noTup (QI p.2.2))=(ps.all fun p=>decide ((cellsOf (ρ p.2.2)).length=p.2.1)&&noTup (ρ p.2.2)):=by
   grind
  grind [List.map_congr_left]
 case bsl z len ps=>
  grind [List.map_congr_left]
 case ld x n ag=>grind
 case st x v n=>grind
 case nck x=>grind
 case bin o x y=>grind
 case eq n k x y=>grind
 case un o x=>grind
 case cvi k x=>grind
 case mkfn f a c=>rw[qo (fun x D=>h x (by simp[D])),qo (fun x D=>h x (by simp[D]))]
 case mksl z b x sh=>rw[h x (by simp)]
 case slS x l hh=>
  rw[h x (by simp),rz (x:=l) (fun y r=>h y (by simp at r;simp[r]))]
  split
  ·rw[rz (x:=hh) (fun y r=>h y (by simp at r;simp[r]))]
  ·rfl
 case slV sz x l hh m=>
  rw[h x (by simp),rz (x:=l) (fun y r=>h y (by simp at r;simp[r]))]
  split
  ·rfl
  ·rw[rz (x:=hh) (fun y r=>h y (by simp at r;simp[r]))]
   split
   ·rfl
   ·rename_i mm _ _;rw[h mm (by simp)]
   ·rfl
 case fa x o=>rw[h x (by simp)]
 case fld x o n ag=>rw[h x (by simp)]
 case ia x y n=>rw[h x (by simp),h y (by simp)]
 case iaA x y l n=>rw[h x (by simp),h y (by simp)]
 case ixS x y=>rw[h x (by simp),h y (by simp)]
 case ixA x y l n ag=>rw[h x (by simp),h y (by simp)]
 case lk k x y z ok=>rw[h x (by simp),h y (by simp)]
 case mu k x y z=>rw[h x (by simp),h y (by simp),h z (by simp)]
 case ext x j=>rw[h x (by simp)]
 case lenS x=>rw[h x (by simp)]
 case lenV x=>rw[h x (by simp)]
 case lenM x=>rw[h x (by simp)]
 case app s b x y sh nm=>rw[h x (by simp),h y (by simp)]
 case mm b as=>rw[qo h]
theorem IY{ρ QI:iS→T}(op:nO)(h: ∀x∈BG op,QI x=ρ x):jL QI op=jL ρ op:=by
 cases op <;> simp only[BG]at h <;> simp only[jL]
 case callf f as=>simp_all
 case callv f as=>rw[h f (by simp),qo (fun x r=>h x (by simp[r]))]
theorem XQ{ρ:iS→T}{op:nO}(F:quiet op=true)(d:Nat)(h:Sp→Nat→iy)(nx:Nat):jL ρ op=none∧(jK d ρ op).log h nx= []∧(jK d ρ op).asks h nx=false∧ ∀v r,(jK d ρ op).run h nx=some (.val v r)→r= []:=by
 have D: ∀x:Option T,(Ev.val x).log h nx= []∧(Ev.val x).asks h nx=false∧ ∀v r,(Ev.val x).run h nx=some (.val v r)→r= []:=by
  intro x;cases x <;> simp[Ev.val,Q.log,Q.asks,Q.run]
 cases op <;> simp[quiet]at F <;> refine⟨rfl, ?_⟩ <;> simp only[jK]
 case slV sz x l hh m=>
  split
  ·simp[Q.log,Q.asks,Q.run]
  ·split
   ·unfold Cw
    grind [Q.bind,Q.log,Q.asks,Q.run]
   ·grind [Q.log,Q.asks,Q.run]
   ·simp[Q.log,Q.asks,Q.run]
 all_goals first
  |exact D _
  |(simp[Q.log,Q.asks,Q.run];done)
  |(repeat' split
    all_goals first
     |exact D _
     |(simp[Q.log,Q.asks,Q.run];done))
end Go.Ev
namespace Go.Ev
open Go
theorem L0{us:List Up}{sp:Sp}{k:Nat}:pW us sp k=true↔(sp,k)∈kR us:=by
 grind [pW,kR]
theorem L1(s p:St): ∀(us:List Up) (sp:Sp) (k:Nat),pW us sp k=true→(s.ups us).get sp k=(p.ups us).get sp k:=by
 intro us
 induction us generalizing s p with
 |nil=>grind [pW]
 |cons u us ih=>
  grind [St.ups,ry,pW,mX]
theorem Dq(s p:St)(us:List Up)(sp:Sp)(k:Nat):(s.ups us).get sp k=if(sp,k)∈kR us then(p.ups us).get sp k else s.get sp k:=by
 split
 ·rename_i h;exact L1 s p us sp k (L0.2 h)
 ·rename_i h
  refine ry s us sp k ?_
  cases r:pW us sp k with
  |false=>rfl
  |true=>exact absurd (L0.1 r) h
theorem OE(s p:St)(hs:s.sh=p.sh): ∀us,(s.ups us).sh=(p.ups us).sh:=by
 intro us
 induction us generalizing s p with
 |nil=>exact hs
 |cons u us ih=>
  simp only[St.ups]
  refine ih _ _ ?_
  obtain⟨a,b,c⟩:=u
  cases a
  ·exact hs
  ·simp[St.up,hs]
theorem IZ(s:St): ∀us,(∀u∈us,u.1= .S→u.2.1<s.sh.length)→(s.ups us).sh.length=s.sh.length:=by
 intro us
 induction us generalizing s with
 |nil=>intro _;rfl
 |cons u us ih=>
  intro h
  obtain⟨a,b,c⟩:=u
  simp only[St.ups]
  have r:(s.up (a,b,c)).sh.length=s.sh.length:=by
   cases a with
   |L=>rfl
   |S=>simp_all[St.up,jQ]
  grind
theorem OG{s p:St}{us:List Up}(h:nl p us=true)(D: ∀sp k,(sp,k)∈kR us→s.get sp k=p.get sp k): ∀u∈us,u.1= .S→u.2.1<s.sh.length:=by
 intro u r e
 unfold nl at h
 rw[List.all_eq_true]at h
 have F:=h u r
 obtain⟨a,b,c⟩:=u
 dsimp only at e;subst e
 simp at F
 have H:=D .S b (by unfold kR;exact List.mem_map.2 ⟨_,r,rfl⟩)
 refine Qv (st:=s) ?_
 grind [EH,live]
theorem I0{fr fr2:Fr}{n:Nat}{d:Option Nat}{v:T}{g:Fr}(h:oD fr n d v=some g): ∃r,oD fr2 n d v=some r∧ ∀t,an r t=if d=some t then an g t else an fr2 t:=by
 cases d with
 |none=>exact⟨fr2,rfl,fun t=>by simp⟩
 |some d=>
  grind [oD,rC]
def wrote(fp:FP)(sp:Sp)(k:Nat):Prop:=(sp,k)∈fp.w∨(fp.all=true∧sp= .S)
structure ac9 (ao:iz) (fp:FP) (s s' p':St):Prop where
 slot: ∀t,an s'.fr t=if ao.d=some t then an p'.fr t else an s.fr t
 key: ∀sp k,(wrote fp sp k→s'.get sp k=p'.get sp k)∧(¬wrote fp sp k→s'.get sp k=s.get sp k)
 len:(fp.all=true→s'.sh.length=p'.sh.length)∧(fp.all=false→s'.sh.length=s.sh.length)
variable{E:Env}{call:qT}{n:Nat}
theorem Tc{s p:St}{r:iz}(h: ∀t∈looks r,an s.fr t=an p.fr t): ∀x∈BG r.op,s.rho x=p.rho x:=by
 intro x D
 cases x with
 |t m=>
  refine h m ?_
  grind [looks,tmpsOf]
 |c v=>rfl
theorem ada{s p:St}{d j:Nat}{r I:T}{us:List Up}{J:St}(D:yI d j r p us=some (I,J))(h: ∀sp k,(sp,k)∈(Sp.L,d)::kR us→s.get sp k=p.get sp k)(U:(s.ups us).sh.length=s.sh.length):
  ∃F,yI d j r s us=some (I,F)∧(∀sp k,((sp,k)∈(Sp.L,d)::kR us→F.get sp k=J.get sp k)∧((sp,k)∉(Sp.L,d)::kR us→F.get sp k=s.get sp k))∧F.sh.length=s.sh.length:=by
 have base: ∀(c:Bool) (sp:Sp) (k:Nat),((sp,k)∈(Sp.L,d)::kR us→(if c=true then s else s.ups us).get sp k=(if c=true then p else p.ups us).get sp k)∧((sp,k)∉(Sp.L,d)::kR us→(if c=true then s else s.ups us).get sp k=s.get sp k):=by
  grind [Bool.false_eq_true,Dq]
 have len: ∀c:Bool,(if c=true then s else s.ups us).sh.length=s.sh.length:=by
  grind
 unfold yI at D ⊢
 split at D
 ·rename_i N
  simp only[Option.some.injEq,Prod.mk.injEq]at D ⊢
  obtain⟨rfl,rfl⟩:=D
  exact⟨_,⟨rfl,rfl⟩,base _,len _⟩
 ·rename_i cs Xz ex N
  split at D
  ·rename_i CE
   rw[if_pos CE]
   simp only[Option.some.injEq,Prod.mk.injEq]at D ⊢
   obtain⟨rfl,rfl⟩:=D
   have O:=(base (sQ (iY r j .nilsl)) .L d).1 (List.mem_cons_self ..)
   rw[O]
   refine⟨_,⟨rfl,rfl⟩,fun sp k=>⟨fun H=> ?_,fun H=> ?_⟩, ?_⟩
   ·rw[mX,mX]
    split
    ·rfl
    ·exact(base _ sp k).1 H
   ·rw[mX,if_neg (by rintro⟨rfl,rfl⟩;exact H (List.mem_cons_self ..))]
    exact(base _ sp k).2 H
   ·exact len _
  ·cases D
 ·cases D
theorem L2{D:iz}{fp:FP}{s p U:St}(he:js E call n D p=some U)(lY:jS E call D p=some fp)(h1: ∀t∈looks D,an s.fr t=an p.fr t)(V: ∀sp k,(sp,k)∈fp.r∨(sp,k)∈fp.w→s.get sp k=p.get sp k)(h3:fp.all=true→s.sh=p.sh):
  ∃O,js E call n D s=some O∧ac9 D fp s O U:=by
 have W:=Tc h1
 have aBd:(oD p.fr n D.d jg).map (fun fr=>({p with fr}:St))=some U→fp=oe→ ∃O,(oD s.fr n D.d jg).map (fun fr=>({s with fr}:St))=some O∧ac9 D fp s O U:=by
  intro hp hn
  subst hn
  simp only[Option.map_eq_some_iff]at hp
  obtain⟨g,X,rfl⟩:=hp
  obtain⟨g2,Y,Z⟩:=I0 (fr2:=s.fr) X
  refine⟨{s with fr:=g2},by rw[Y];rfl,Z,fun sp k=>⟨fun hw=> ?_,fun _=>rfl⟩,⟨(fun I=>by cases I),fun _=>rfl⟩⟩
  rcases hw with hw|hw
  ·simp[oe]at hw
  ·cases hw.1
 have core:(match jL p.rho D.op with
       |some (some c)=>match jy E call (D.d.getD 0) p c.1 c.2 with
        |some r=>(oD p.fr n D.d r.1).map fun fr=>({r.2 with fr}:St)
        |none=>none
       |some none=>none
       |none=>match(jK (D.d.getD 0) p.rho D.op).run p.get p.sh.length with
        |some (.val v ups)=>(oD p.fr n D.d v).map fun fr=>({p.ups ups with fr}:St)
        |none=>none)=some U→(match jL p.rho D.op with
       |some (some c)=>mz E call (D.d.getD 0) p c.1 c.2
       |some none=>none
       |none=>
        let q:=jK (D.d.getD 0) p.rho D.op
        match q.run p.get p.sh.length with
        |some (.val _ ups)=>if q.asks p.get p.sh.length||nl p ups then some (⟨q.asks p.get p.sh.length,q.log p.get p.sh.length,kR ups⟩:FP)else none
        |none=>none)=some fp→
   ∃O,(match jL s.rho D.op with
    |some (some c)=>match jy E call (D.d.getD 0) s c.1 c.2 with
     |some r=>(oD s.fr n D.d r.1).map fun fr=>({r.2 with fr}:St)
     |none=>none
    |some none=>none
    |none=>match(jK (D.d.getD 0) s.rho D.op).run s.get s.sh.length with
     |some (.val v ups)=>(oD s.fr n D.d v).map fun fr=>({s.ups ups with fr}:St)
     |none=>none)=some O∧ac9 D fp s O U:=by
  intro Db F
  rw[IY D.op W]
  split at Db
  ·rename_i c hc
   obtain⟨f,args⟩:=c
   rw[hc]at F
   simp only[hc]at F ⊢
   split at Db
   ·rename_i r H
    obtain⟨r,p2⟩:=r
    simp only[Option.map_eq_some_iff]at Db
    obtain⟨g,X,rfl⟩:=Db
    obtain⟨g2,Y,Z⟩:=I0 (fr2:=s.fr) X
    suffices hs: ∃s2,jy E call (D.d.getD 0) s f args=some (r,s2)∧(∀sp k,(wrote fp sp k→s2.get sp k=p2.get sp k)∧(¬wrote fp sp k→s2.get sp k=s.get sp k))∧(fp.all=true→s2.sh.length=p2.sh.length)∧(fp.all=false→s2.sh.length=s.sh.length)by
     obtain⟨s2,d1,d2,d3⟩:=hs
     refine⟨{s2 with fr:=g2},by rw[d1];simp[Y],Z,d2,d3⟩
    unfold mz at F
    unfold jy at H ⊢
    split at H
    ·rename_i af Dp
     simp only[Dp]at F ⊢
     cases N:(jm (fz af.eff iT) args).run p.get p.sh.length with
     |none=>simp[N]at H
     |some q=>
      obtain⟨ts,us⟩:=q
      simp only[N]at H F
      split at F
      ·cases F
      ·rename_i Td
       simp at Td
       have EO: ∀κ∈(jm (fz af.eff iT) args).log p.get p.sh.length,κ∈fp.r:=by
        grind
       have Ag:(jm (fz af.eff iT) args).run s.get s.sh.length=some (ts,us):=by
        rw[←N]
        refine Q.run_congr _ (fun κ J=>V _ _ (.inl (EO κ J))) (fun I=> ?_)
        rw[oZ _ _ _ (fun t=>QH _ _ _ _ t)]at I;cases I
       rw[Ag]
       simp only
       split at H
       ·rename_i u9
        simp only[u9,if_true]at F ⊢
        simp at F;subst F
        simp only[Option.map_eq_some_iff]at H
        obtain⟨⟨r',jk⟩,iI,H⟩:=H
        simp at H;obtain⟨rfl,rfl⟩:=H
        have mJ:=h3 rfl
        have aBe:=OE s p mJ us
        refine⟨{s.ups us with sh:=jk},by rw[aBe,iI];rfl,fun sp k=> ?_,fun _=>rfl,(fun I=>by cases I)⟩
        cases sp with
        |S=>exact⟨fun _=>rfl,fun hw=>absurd (.inr ⟨rfl,rfl⟩) hw⟩
        |L=>
         have:=Dq s p us .L k
         refine⟨fun hw=> ?_,fun hw=> ?_⟩
         ·rcases hw with hw|hw
          ·rw[if_pos hw]at this;exact this
          ·cases hw.2
         ·rw[if_neg (fun e=>hw (.inl e))]at this;exact this
       ·rename_i u9
        simp only[u9,Bool.false_eq_true,if_false]at F ⊢
        split at H
        ·rename_i r0 iI
         simp only[iI]at F ⊢
         cases yM:af.own with
         |some j=>
          simp only[yM]at F H ⊢
          simp at F;subst F
          obtain⟨s2,g1,g2,g3⟩:=ada (s:=s) H (fun sp k J=>V sp k (.inr J)) (IZ s us (OG Td (fun sp k J=>V sp k (.inr (List.mem_cons_of_mem _ J)))))
          refine⟨s2,g1,fun sp k=>⟨fun hw=> ?_,fun hw=>(g2 sp k).2 (fun e=>hw (.inl e))⟩,(fun I=>by cases I),fun _=>g3⟩
          rcases hw with hw|hw
          ·exact(g2 sp k).1 hw
          ·cases hw.1
         |none=>
         simp only[yM]at F H ⊢
         simp at F;subst F
         simp at H;obtain⟨rfl,rfl⟩:=H
         by_cases oi:scalar r0.1=true
         ·simp only[oi,if_true]
          refine⟨s,rfl,fun sp k=>⟨fun hw=> ?_,fun _=>rfl⟩,(fun I=>by cases I),fun _=>rfl⟩
          rcases hw with hw|hw
          ·simp at hw
          ·cases hw.1
         ·simp only[oi,Bool.false_eq_true,if_false]
          refine⟨s.ups us,rfl,fun sp k=> ?_,(fun I=>by cases I),fun _=> ?_⟩
          ·have:=Dq s p us sp k
           refine⟨fun hw=> ?_,fun hw=> ?_⟩
           ·rcases hw with hw|hw
            ·rw[if_pos hw]at this;exact this
            ·cases hw.1
           ·rw[if_neg (fun e=>hw (.inl e))]at this;exact this
          ·exact IZ s us (OG Td (fun sp k J=>V sp k (.inr (by simpa[oi]using J))))
        ·cases H
    ·rename_i g' Dp LS
     simp only[Dp,LS]at F ⊢
     simp at F;subst F
     cases N:(jm (fz false iT) args).run p.get p.sh.length with
     |none=>simp[N]at H
     |some q=>
      simp only[N]at H
      have Ag:(jm (fz false iT) args).run s.get s.sh.length=some q:=by
       rw[←N]
       refine Q.run_congr _ (fun κ J=>V _ _ (.inl J)) (fun I=> ?_)
       rw[oZ _ _ _ (fun t=>QH _ _ _ _ t)]at I;cases I
      rw[Ag]
      simp only[Option.map_eq_some_iff]at H ⊢
      obtain⟨r',hg',H⟩:=H
      simp at H;obtain⟨rfl,rfl⟩:=H
      refine⟨s,⟨r',hg',rfl⟩,fun sp k=>⟨fun hw=> ?_,fun _=>rfl⟩,(fun I=>by cases I),fun _=>rfl⟩
      rcases hw with hw|hw
      ·simp at hw
      ·cases hw.1
    ·rename_i Dp LS
     simp only[Dp,LS]at F
     cases F
   ·cases Db
  ·cases Db
  ·rename_i hc
   simp only[hc]at F ⊢
   rw[Ta _ D.op W]
   split at Db
   ·rename_i v ups N
    simp only[N]at F
    split at F
    ·rename_i Td
     simp at F;subst F
     simp only[Option.map_eq_some_iff]at Db
     obtain⟨g,X,rfl⟩:=Db
     obtain⟨g2,Y,Z⟩:=I0 (fr2:=s.fr) X
     have Ag:(jK (D.d.getD 0) p.rho D.op).run s.get s.sh.length=some (.val v ups):=by
      grind [Q.run_congr]
     rw[Ag]
     refine⟨{s.ups ups with fr:=g2},by simp[Y],Z,fun sp k=> ?_, ?_⟩
     ·have:=Dq s p ups sp k
      refine⟨fun hw=> ?_,fun hw=> ?_⟩
      ·by_cases hm:(sp,k)∈kR ups
       ·rw[if_pos hm]at this;exact this
       ·rcases hw with hw|hw
        ·exact absurd hw hm
        ·obtain⟨ha,rfl⟩:=hw
         have mJ:=OE s p (h3 ha) ups
         show iM (s.ups ups).sh k=iM (p.ups ups).sh k
         rw[mJ]
      ·rw[if_neg (fun e=>hw (.inl e))]at this;exact this
     ·refine⟨fun ha=> ?_,fun ha=> ?_⟩
      ·have mJ:=OE s p (h3 ha) ups
       show(s.ups ups).sh.length=(p.ups ups).sh.length
       rw[mJ]
      ·rw[show(jK (D.d.getD 0) p.rho D.op).asks p.get p.sh.length=false from ha,Bool.false_or]at Td
       exact IZ s ups (OG Td (fun sp k J=>V sp k (.inr J)))
    ·cases F
   ·cases Db
 unfold js at he ⊢
 unfold jS at lY
 cases hgd:D.gd with
 |none=>
  grind
 |some g=>
  obtain⟨j,want⟩:=g
  simp only[hgd]at he lY ⊢
  grind [looks]
end Go.Ev
namespace Go.Ev
open Go
theorem L3(r:List Nat): ∀(D:List Nat) (F i:Nat),(D.foldl (fun m p=>m ||| 2 ^ p ||| iN 0 r p) F).testBit i=true↔F.testBit i=true∨ ∃p∈D,p=i∨(iN 0 r p).testBit i=true
 | [],F,i=>by simp
 |p::D,F,i=>by
  simp only[List.foldl_cons]
  rw[L3 r D]
  grind
theorem OH(r D:List Nat)(i:Nat):(IL r D).testBit i=true↔ ∃p∈D,p=i∨(iN 0 r p).testBit i=true:=by
 unfold IL;rw[L3];simp
theorem qz{α:Type}(d:α): ∀(l r:List α) (k:Nat),k<l.length→iN d (l++r) k=iN d l k
 | [],r,k,h=>by simp at h
 |x::xs,r,0,h=>rfl
 |x::xs,r,k+1,h=>by simp_all[List.cons_append,iN,qz]
theorem xA{α:Type}(d:α): ∀(l:List α) (x:α),iN d (l++ [x]) l.length=x
 | [],x=>rfl
 |y::r,x=>by simp_all[List.cons_append,List.length_cons,iN,xA]
theorem E9: ∀(tz:List (List Nat)) (r:List Nat),(rM tz r).length=r.length+tz.length∧(∀k,k<r.length→iN 0 (rM tz r) k=iN 0 r k)∧
  ∀j ps,tz[j]? =some ps→ ∀i,(iN 0 (rM tz r) (r.length+j)).testBit i=true↔ ∃p∈ps,p=i∨((if p<r.length+j then iN 0 (rM tz r) p else 0).testBit i=true)
 | [],r=>by simp[rM]
 |ps::tz,r=>by
  obtain⟨H,I,J⟩:=E9 tz (r++ [IL r ps])
  simp only[rM]
  refine⟨by rw[H];simp;omega,fun k D=> ?_,fun j N F i=> ?_⟩
  ·grind [qz]
  ·cases j with
   |zero=>
    simp at F;subst F
    rw[Nat.add_zero,I r.length (by simp),xA,OH]
    constructor
    ·rintro⟨p,O,e⟩
     refine⟨p,O,e.imp id fun e=> ?_⟩
     by_cases U:p<r.length
     ·grind [qz]
     ·exfalso
      have: ∀(l:List Nat) (k:Nat),l.length≤k→iN 0 l k=0:=by
       intro l
       induction l with
       |nil=>intro k _;rfl
       |cons x xs ih=>intro k D;cases k with|zero=>simp at D|succ k=>exact ih k (by simpa using D)
      grind
    grind [qz]
   |succ j=>
    have:=J j N (by simpa using F) i
    grind
theorem Aj: ∀(tz:List (List Nat)) (r:Nat),zN r tz=true→ ∀j D,tz[j]? =some D→ ∀p∈D,p<r+j
 | [],r,h,j,D,F,p,H=>by simp at F
 |q::tz,r,h,j,D,F,p,H=>by
  simp only[zN,Bool.and_eq_true,List.all_eq_true]at h
  cases j with
  |zero=>grind
  |succ j=>
   have:=Aj tz (r+1) h.2 j D (by simpa using F) p H
   omega
theorem Fa{m:Nat}{as:List iz}{k:Nat}{a:iz}:(k,a)∈EN m as↔as[k]? =some a∧m.testBit k=false:=by
 unfold EN
 rw[List.mem_filter,List.mem_map]
 constructor
 ·grind
 ·rintro⟨r,D⟩
  exact⟨⟨(a,k),List.mem_zipIdx_iff_getElem?.2 r,rfl⟩,by simpa using D⟩
theorem Ak: ∀(F D:List iz) (N:List Nat),zO N D F=true→ ∀j a,F[j]? =some a→ ∀m,N[j]? =some m→ ∀k H,k<D.length+j→(D++F)[k]? =some H→m.testBit k=false→nU H a=true
 | [],D,N,h,j,a,I,m,J,k,H,V,O,U=>by simp at I
 |r::F,D,[],h,j,a,I,m,J,k,H,V,O,U=>by simp at J
 |r::F,D,W::N,h,j,a,I,m,J,k,H,V,O,U=>by
  simp only[zO,Bool.and_eq_true,List.all_eq_true]at h
  cases j with
  |zero=>
   simp at I J;subst I;subst J
   have:D[k]? =some H:=by rw[List.getElem?_append_left (by omega)]at O;exact O
   exact h.1 (k,H) (Fa.2 ⟨this,U⟩)
  |succ j=>
   exact Ak F (D++ [r]) N h.2 j a (by simpa using I) m (by simpa using J) k H (by simp;omega) (by simpa using O) U
variable{E:Env}{call:qT}{n:Nat}
theorem Fb: ∀(F D:List iz) (I:List Nat) (J:List FP) (st H:St),J.length=D.length→I.length=F.length→jc E call n (tM I D F) J st=some H→
  ∃(pre:Nat→St) (fp:Nat→FP),pre 0=st∧pre F.length=H∧ ∀j a m,F[j]? =some a→I[j]? =some m→js E call n a (pre j)=some (pre (j+1))∧jS E call a (pre j)=some (fp j)∧
   ∀k N,k<D.length+j→(D++F)[k]? =some N→m.testBit k=false→quiet a.op=false→quiet N.op=false→apart (if k<D.length then iN ⟨true,[],[]⟩ J k else fp (k-D.length)) (fp j)=true
 | [],D,I,J,st,H,Z,W,h=>by
   cases I with
   |cons _ _=>simp at W
   |nil=>simp[tM,jc]at h;subst h;exact⟨fun _=>st,fun _=>oe,rfl,rfl,by simp⟩
 |r::F,D,[],J,st,H,Z,W,h=>by simp at W
 |r::F,D,m0::I,J,st,H,Z,W,h=>by
  simp only[tM,jc]at h
  cases hf:jS E call r st with
  |none=>simp[hf]at h
  |some X=>
   simp only[hf]at h
   generalize hu:(if quiet r.op=true then []else((EN m0 D).filter fun p=> !quiet p.2.op).map (·.1))=uno at h
   split at h
   ·rename_i jv
    cases he:js E call n r st with
    |none=>simp[he]at h
    |some mW=>
     simp only[he]at h
     obtain⟨pre,fp,p1,p2,p3⟩:=Fb F (D++ [r]) I (J++ [X]) mW H (by simp[Z]) (by simpa using W) h
     refine⟨fun j=>match j with|0=>st|j+1=>pre j,fun j=>match j with|0=>X|j+1=>fp j,rfl,p2,fun j a m hj O=> ?_⟩
     cases j with
     |zero=>
      simp at hj O;subst hj;subst O
      refine⟨by simp only;rw[he,p1],hf,fun k N hk ha hb U V=> ?_⟩
      have Y:k<D.length:=by omega
      rw[if_pos Y]
      have ha':D[k]? =some N:=by rw[List.getElem?_append_left Y]at ha;exact ha
      rw[List.all_eq_true]at jv
      refine jv k ?_
      rw[←hu,if_neg (by rw[U];simp)]
      exact List.mem_map.2 ⟨(k,N),List.mem_filter.2 ⟨Fa.2 ⟨ha',hb⟩,by simp[V]⟩,rfl⟩
     |succ j=>
      obtain⟨e1,e2,e3⟩:=p3 j a m (by simpa using hj) (by simpa using O)
      refine⟨e1,e2,fun k N hk ha hb U V=> ?_⟩
      have:=e3 k N (by simp;omega) (by simpa using ha) hb U V
      by_cases h1:k<D.length
      ·grind [qz]
      ·rw[if_neg h1]
       by_cases h2:k=D.length
       ·subst h2
        rw[if_pos (by simp),←Z,xA]at this
        simpa using this
       ·rw[if_neg (by simp;omega)]at this
        obtain⟨x,hx⟩: ∃x,k-D.length=x+1:=⟨k-D.length-1,by omega⟩
        rw[hx]
        simp only
        have hx2:k-(D++ [r]).length=x:=by simp;omega
        rw[hx2]at this
        exact this
   ·cases h
theorem L4{a:iz}{p:St}{fp:FP}(I:quiet a.op=true)(h:jS E call a p=some fp):fp.all=false∧fp.r= []∧fp.w= []:=by
 obtain⟨J,N,O,U⟩:=XQ (ρ:=p.rho) I (a.d.getD 0) p.get p.sh.length
 have H:(match jL p.rho a.op with
       |some (some c)=>mz E call (a.d.getD 0) p c.1 c.2
       |some none=>none
       |none=>
        let q:=jK (a.d.getD 0) p.rho a.op
        match q.run p.get p.sh.length with
        |some (.val _ D)=>if q.asks p.get p.sh.length||nl p D then some (⟨q.asks p.get p.sh.length,q.log p.get p.sh.length,kR D⟩:FP)else none
        |none=>none)=some fp→fp.all=false∧fp.r= []∧fp.w= []:=by
  intro F
  rw[J]at F
  simp only at F
  split at F
  ·rename_i v D V
   have:=U v D V;subst this
   split at F
   ·simp at F;subst F;exact⟨O,N,rfl⟩
   ·cases F
  ·cases F
 unfold jS at h
 cases W:a.gd with
 |none=>grind
 |some g=>
  simp only[W]at h
  split at h
  ·split at h
   ·exact H h
   ·simp at h;subst h;exact⟨rfl,rfl,rfl⟩
  ·simp at h;subst h;exact⟨rfl,rfl,rfl⟩
theorem XR: ∀(a b:List iy),(∀k,iM a k=iM b k)→a.length=b.length→a=b
 | [],[],_,_=>rfl
 | [],y::r,_,h=>by simp at h
 |x::xs,[],_,h=>by simp at h
 |x::xs,y::r,h,D=>by
  have F:x=y:=h 0
  rw[F,XR xs r (fun k=>h (k+1)) (by simpa using D)]
end Go.Ev
namespace Go.Ev
open Go
variable{E:Env}{call:qT}{n:Nat}
structure qp (E:Env) (call:qT) (n:Nat) (as:List iz) (tz:List (List Nat)) (bit:Nat→Nat→Bool) (pre:Nat→St) (fp:Nat→FP):Prop where
 len:tz.length=as.length
 edges: ∀(j:Nat) (ps:List Nat),tz[j]? =some ps→ ∀p∈ps,p<j
 bits: ∀(j:Nat) (ps:List Nat),tz[j]? =some ps→ ∀i,bit j i=true↔ ∃p∈ps,p=i∨bit p i=true
 run: ∀(j:Nat) (a:iz),as[j]? =some a→js E call n a (pre j)=some (pre (j+1))∧jS E call a (pre j)=some (fp j)
 slots: ∀(j:Nat) (a:iz) (k:Nat) (a':iz),as[j]? =some a→as[k]? =some a'→k<j→bit j k=false→nU a' a=true
 apart: ∀(j:Nat) (a:iz) (k:Nat) (a':iz),as[j]? =some a→as[k]? =some a'→k<j→bit j k=false→quiet a.op=false→quiet a'.op=false→Ev.apart (fp k) (fp j)=true
variable{as:List iz}{tz:List (List Nat)}{bit:Nat→Nat→Bool}{pre:Nat→St}{fp:Nat→FP}
def Fc(tz:List (List Nat))(L:Nat→Prop):Prop:= ∀(j:Nat) (r:List Nat),tz[j]? =some r→L j→ ∀p∈r,L p
theorem CH(R:qp E call n as tz bit pre fp){L:Nat→Prop}(N:Fc tz L): ∀(j:Nat) (r:List Nat),tz[j]? =some r→(∀p∈r,L p)→ ∀i,bit j i=true→L i:=by
 intro j
 induction j using Nat.strongRecOn with
 |_ j ih=>
  intro r D I i O
  obtain⟨p,F,h2⟩:=(R.bits j r D i).1 O
  rcases h2 with rfl|h2
  ·exact I p F
  ·have J:=R.edges j r D p F
   have H:p<tz.length:=Nat.lt_trans J (List.getElem?_eq_some_iff.1 D).1
   have A5:tz[p]? =some tz[p]:=List.getElem?_eq_getElem H
   exact ih p J _ A5 (N p _ A5 (I p F)) i h2
theorem wL(R:qp E call n as tz bit pre fp){L:Nat→Prop}(r:Fc tz L){i j:Nat}(hi:i<as.length)(N:j<as.length)(D: ¬L i)(F: ∀I,tz[i]? =some I→ ∀p∈I,L p)(O:i=j∨(j<i∧bit i j=true)∨(i<j∧bit j i=true)):L j↔j<i:=by
 rcases O with rfl|⟨J,H⟩|⟨J,H⟩
 ·grind
 ·refine⟨fun _=>J,fun _=> ?_⟩
  have U:i<tz.length:=by rw[R.len];exact hi
  have A5:tz[i]? =some tz[i]:=List.getElem?_eq_getElem U
  exact CH R r i _ A5 (F _ A5) j H
 ·refine⟨fun V=>absurd ?_ D,fun h=>by omega⟩
  have GM:j<tz.length:=by rw[R.len];exact N
  have A5:tz[j]? =some tz[j]:=List.getElem?_eq_getElem GM
  exact CH R r j _ A5 (r j _ A5 V) i H
structure Inv (as:List iz) (pre:Nat→St) (fp:Nat→FP) (L:Nat→Prop) (s:St):Prop where
 slot: ∀t i,i≤as.length→(∀(j:Nat) (a:iz),as[j]? =some a→a.d=some t→(L j↔j<i))→an s.fr t=an (pre i).fr t
 key: ∀sp k i,i≤as.length→(∀j,j<as.length→wrote (fp j) sp k→(L j↔j<i))→s.get sp k=(pre i).get sp k
 len: ∀i,i≤as.length→(∀j,j<as.length→(fp j).all=true→(L j↔j<i))→s.sh.length=(pre i).sh.length
theorem Fe(R:qp E call n as tz bit pre fp){j:Nat}{a:iz}(r:as[j]? =some a):ac9 a (fp j) (pre j) (pre (j+1)) (pre (j+1)):=by
 obtain⟨D,F⟩:=R.run j a r
 obtain⟨H,I,J⟩:=L2 (s:=pre j) D F (fun _ _=>rfl) (fun _ _ _=>rfl) (fun _=>rfl)
 grind
theorem L5(R:qp E call n as tz bit pre fp)(t i:Nat): ∀r,i≤r→r≤as.length→(∀(j:Nat) (a:iz),as[j]? =some a→i≤j→j<r→a.d≠some t)→an (pre r).fr t=an (pre i).fr t:=by
 intro r H
 induction r with
 |zero=>grind
 |succ m ih=>
  intro I J
  by_cases D:i=m+1
  ·subst D;rfl
  ·have QJ:m<as.length:=by omega
   have F:as[m]? =some as[m]:=List.getElem?_eq_getElem QJ
   have N:=(Fe R F).slot t
   grind
theorem QK(R:qp E call n as tz bit pre fp)(sp:Sp)(k i:Nat): ∀r,i≤r→r≤as.length→(∀j,i≤j→j<r→ ¬wrote (fp j) sp k)→(pre r).get sp k=(pre i).get sp k:=by
 intro r I
 induction r with
 |zero=>grind
 |succ m ih=>
  intro J D
  by_cases F:i=m+1
  ·subst F;rfl
  ·have QJ:m<as.length:=by omega
   have H:as[m]? =some as[m]:=List.getElem?_eq_getElem QJ
   have N:=((Fe R H).key sp k).2 (D m (by omega) (by omega))
   grind
theorem QL(R:qp E call n as tz bit pre fp)(i:Nat): ∀r,i≤r→r≤as.length→(∀j,i≤j→j<r→(fp j).all=false)→(pre r).sh.length=(pre i).sh.length:=by
 intro r I
 induction r with
 |zero=>grind
 |succ m ih=>
  intro J D
  by_cases F:i=m+1
  ·subst F;rfl
  ·have QJ:m<as.length:=by omega
   have H:as[m]? =some as[m]:=List.getElem?_eq_getElem QJ
   have N:=(Fe R H).len.2 (D m (by omega) (by omega))
   grind
theorem either(R:qp E call n as tz bit pre fp){i j:Nat}{a r:iz}(hi:as[i]? =some a)(F:as[j]? =some r)(J:i≠j):
  ((j<i∧bit i j=true)∨(i<j∧bit j i=true))∨((nU a r=true∨nU r a=true)∧(quiet a.op=true∨quiet r.op=true∨Ev.apart (fp i) (fp j)=true∨Ev.apart (fp j) (fp i)=true)):=by
 rcases Nat.lt_or_gt_of_ne J with h|h
 ·cases D:bit j i with
  |true=>grind
  |false=>
   refine .inr ⟨.inl (R.slots j r i a F hi h D), ?_⟩
   cases H:quiet a.op
   ·cases I:quiet r.op
    ·exact .inr (.inr (.inl (R.apart j r i a F hi h D I H)))
    ·grind
   ·exact .inl rfl
 ·cases D:bit i j with
  |true=>grind
  |false=>
   refine .inr ⟨.inr (R.slots i a j r hi F h D), ?_⟩
   cases H:quiet a.op
   ·cases I:quiet r.op
    ·exact .inr (.inr (.inr (R.apart i a j r hi F h D H I)))
    ·grind
   ·exact .inl rfl
theorem GN{x y:iz}(h:nU x y=true∨nU y x=true){t:Nat}:(x.d=some t→t∉looks y∧y.d≠some t):=by
 grind [nU]
theorem xB{xs r:List (Sp×Nat)}(h:nq xs r=true){κ:Sp×Nat}(D:κ∈xs)(F:κ∈r):False:=by
 grind [nq]
theorem BO{xs:List (Sp×Nat)}(h:NV xs=true){k:Nat}(r:(Sp.S,k)∈xs):False:=by
 grind [NV]
theorem XS{x y:FP}(h:Ev.apart x y=true∨Ev.apart y x=true){sp:Sp}{k:Nat}(D:wrote y sp k):(sp,k)∉x.r∧(sp,k)∉x.w∧ ¬(x.all=true∧sp= .S):=by
 rcases h with h|h <;> unfold Ev.apart at h <;> simp only[Bool.and_eq_true,Bool.or_eq_true,Bool.not_eq_true']at h <;> obtain⟨⟨⟨⟨a1,a2⟩,F⟩,a4⟩,a5⟩:=h
 ·rcases D with D|⟨D,rfl⟩
  ·refine⟨fun e=>xB F e D,fun e=>xB a2 e D,fun e=> ?_⟩
   grind [BO]
  ·rcases a5 with a5|a5
   ·grind
   ·refine⟨fun e=>BO a5.1 e,fun e=>BO a5.2 e,fun e=> ?_⟩
    grind
 ·rcases D with D|⟨D,rfl⟩
  ·refine⟨fun e=>xB a1 D e,fun e=>xB a2 D e,fun e=> ?_⟩
   grind [BO]
  ·rcases a4 with a4|a4
   ·grind
   ·refine⟨fun e=>BO a4.1.2 e,fun e=>BO a4.2 e,fun e=> ?_⟩
    grind
theorem XT(R:qp E call n as tz bit pre fp){L:Nat→Prop}(hc:Fc tz L){s:St}(I:Inv as pre fp L s){i:Nat}{a:iz}(hi:as[i]? =some a)(hni: ¬L i)(hpi: ∀ps,tz[i]? =some ps→ ∀p∈ps,L p):
  ∃s',js E call n a s=some s'∧Inv as pre fp (fun j=>L j∨j=i) s':=by
 have Y:i<as.length:=(List.getElem?_eq_some_iff.1 hi).1
 obtain⟨r1,r2⟩:=R.run i a hi
 have QM: ∀t,(t∈looks a∨a.d=some t)→ ∀(j:Nat) (V:iz),as[j]? =some V→V.d=some t→(L j↔j<i):=by
  intro t ht j V F Z
  have GM:=(List.getElem?_eq_some_iff.1 F).1
  by_cases X:i=j
  ·subst X;exact wL R hc Y GM hni hpi (.inl rfl)
  ·rcases either R hi F X with h|⟨h,_⟩
   ·grind [wL]
   grind [GN]
 have I1: ∀sp k,((sp,k)∈(fp i).r∨(sp,k)∈(fp i).w∨((fp i).all=true∧sp= .S))→ ∀j,j<as.length→wrote (fp j) sp k→(L j↔j<i):=by
  intro sp k ht j GM hw
  have F:as[j]? =some as[j]:=List.getElem?_eq_getElem GM
  by_cases X:i=j
  ·grind
  ·rcases either R hi F X with h|⟨_,h⟩
   ·grind [wL]
   ·exfalso
    rcases h with h|h|h
    ·obtain⟨q1,q2,q3⟩:=L4 h r2
     rcases ht with ht|ht|ht
     ·rw[q2]at ht;simp at ht
     ·rw[q3]at ht;simp at ht
     ·rw[q1]at ht;cases ht.1
    ·obtain⟨q1,q2,q3⟩:=L4 h (R.run j _ F).2
     rcases hw with hw|hw
     ·rw[q3]at hw;simp at hw
     ·rw[q1]at hw;cases hw.1
    ·obtain⟨z1,z2,z3⟩:=XS h hw
     rcases ht with ht|ht|ht
     ·exact z1 ht
     ·exact z2 ht
     ·exact z3 ht
 have XU:(fp i).all=true→ ∀j,j<as.length→(fp j).all=true→(L j↔j<i):=by
  intro W j GM D
  exact I1 .S 0 (.inr (.inr ⟨W,rfl⟩)) j GM (.inr ⟨D,rfl⟩)
 obtain⟨s',e1,e2⟩:=L2 (s:=s) r1 r2 (fun t ht=>I.slot t i (Nat.le_of_lt Y) (fun j V F Z=>QM t (.inl ht) j V F Z))
  (fun sp k ht=>I.key sp k i (Nat.le_of_lt Y) (fun j GM hw=>I1 sp k (ht.elim .inl fun h=> .inr (.inl h)) j GM hw))
  (fun W=>XR _ _ (fun k=>I.key .S k i (Nat.le_of_lt Y) (fun j GM hw=>I1 .S k (.inr (.inr ⟨W,rfl⟩)) j GM hw)) (I.len i (Nat.le_of_lt Y) (XU W)))
 refine⟨s',e1,fun t H Hu J=> ?_,fun sp k H Hu J=> ?_,fun H Hu J=> ?_⟩
 ·rw[e2.slot t]
  split
  ·rename_i Z
   have N:i<H:=(J i a hi Z).1 (.inr rfl)
   rw[L5 R t (i+1) H N Hu]
   intro j V F h1 h2 O
   have hL:=(J j V F O).2 h2
   have:=QM t (.inr Z) j V F O
   rcases hL with hL|hL
   ·have:=this.1 hL;omega
   ·omega
  ·rename_i Z
   exact I.slot t H Hu (fun j V F O=>by
    have:=J j V F O
    constructor
    ·exact fun hL=>this.1 (.inl hL)
    ·intro nv
     rcases this.2 nv with hL|hL
     ·exact hL
     ·subst hL;rw[hi]at F;simp at F;subst F;exact absurd O Z)
 ·by_cases hw:wrote (fp i) sp k
  ·have N:i<H:=(J i Y hw).1 (.inr rfl)
   rw[(e2.key sp k).1 hw,QK R sp k (i+1) H N Hu]
   intro j h1 h2 U
   have GM:j<as.length:=by omega
   have hL:=(J j GM U).2 h2
   have:=I1 sp k (hw.elim (fun e=> .inr (.inl e)) fun e=> .inr (.inr e)) j GM U
   rcases hL with hL|hL
   ·have:=this.1 hL;omega
   ·omega
  ·rw[(e2.key sp k).2 hw]
   exact I.key sp k H Hu (fun j GM U=>by
    have:=J j GM U
    constructor
    ·exact fun hL=>this.1 (.inl hL)
    ·intro nv
     rcases this.2 nv with hL|hL
     ·exact hL
     ·subst hL;exact absurd U hw)
 ·cases W:(fp i).all with
  |true=>
   have N:i<H:=(J i Y W).1 (.inr rfl)
   rw[e2.len.1 W,QL R (i+1) H N Hu]
   intro j h1 h2
   cases D:(fp j).all with
   |false=>rfl
   |true=>
    have GM:j<as.length:=by omega
    have hL:=(J j GM D).2 h2
    have:=XU W j GM D
    rcases hL with hL|hL
    ·have:=this.1 hL;omega
    ·omega
  |false=>
   rw[e2.len.2 W]
   exact I.len H Hu (fun j GM D=>by
    have:=J j GM D
    constructor
    ·exact fun hL=>this.1 (.inl hL)
    ·intro nv
     rcases this.2 nv with hL|hL
     ·exact hL
     ·subst hL;rw[W]at D;cases D)
end Go.Ev
namespace Go.Ev
open Go
section
variable{P:Program}{E:Env}{call:qT}{n:Nat}{hs:List Nat}{ops:Array Oper}
theorem qq: ∀{r:List Oper} {as:List iz},lF P hs ops r=some as→as.length=r.length∧ ∀(j:Nat) (o:Oper),r[j]? =some o→ ∃a,as[j]? =some a∧wF P hs ops o=some a
 | [],as,h=>by grind [lF]
 |o::r,as,h=>by
  simp only[lF]at h
  split at h
  ·rename_i a D H F
   simp at h;subst h
   obtain⟨I,J⟩:=qq F
   grind
  ·cases h
theorem XV(U:vO P E)(V:Ai P E call){Q:Exit→Act→World→Prop}: ∀(k i:Nat) (as:List iz),i+k=ops.size→lF P hs ops (ops.toList.drop i)=some as→
  ∀{B:mQ} {st F:St} {a:Act} {w:World} {β:jf} {M:iP},jo B st w β M→pt st a w β M n→iB E call n as st=some F→
  (∀I w' H M',jo B F w' H M'→pt F I w' H M' n→Tr st w β M F w' H M'→w.heap.size≤w'.heap.size→Q .normal I w')→wpOps P ops Q (List.range' i k) a w
 |0,i,as,QC,r,B,st,F,a,w,β,M,h,J,D,N=>by
  have X:ops.toList.drop i= []:=List.drop_eq_nil_of_le (by simp;omega)
  rw[X]at r
  simp[lF]at r;subst r
  simp[iB]at D;subst D
  simp only[List.range',wpOps]
  exact N a w β M h J (Tr.refl _ _ _ _) (Nat.le_refl _)
 |k+1,i,as,QC,r,B,st,F,a,w,β,M,h,J,D,N=>by
  have hi:i<ops.toList.length:=by simp;omega
  rw[List.drop_eq_getElem_cons hi]at r
  simp only[lF]at r
  split at r
  ·rename_i ao O Y Z
   simp at r;subst r
   simp only[iB]at D
   split at D
   ·rename_i mW GF
    rw[List.range'_succ,wpOps_cons]
    refine sW U V (o:=ops.toList[i]) (by simp at hi ⊢) Y h J GF ?_
    intro I w' H M' r1 r2 r3 W
    exact XV U V k (i+1) O (by omega) Z r1 r2 D (fun a2 w2 XW M2 s1 s2 s3 s4=>N a2 w2 XW M2 s1 s2 (r3.trans s3 W) (Nat.le_trans W s4))
   ·cases D
  ·cases r
theorem ais{B:mQ}{s F:St}{w:World}{β:jf}{M:iP}(r: ∀sp k,F.get sp k=s.get sp k)(h:jo B s w β M):jo B F w β M:=by
 have GO:F.gens=s.gens:=by funext sp k;show(F.get sp k).g=_;rw[r]
 refine⟨fun sp k=>by rw[r,GO];exact h.obj sp k,fun sp k J k' H I e=> ?_,h.mlt,fun k D=> ?_,fun k D=> ?_,h.os,h.tape,h.output,h.size,h.same,h.keep,h.msup⟩
 ·rw[r]at H I;rw[GO]at e;exact h.dist sp k J k' H I e
 ·rw[r]at D;rw[GO];exact h.lblk k D
 ·rw[r]at D;rw[GO];exact h.sblk k D
theorem ait{s r:St}{a:Act}{w:World}{β:jf}{M:iP}(D: ∀sp k,r.get sp k=s.get sp k)(F: ∀t,an r.fr t=an s.fr t)(h:pt s a w β M n):pt r a w β M n:=by
 have GO:r.gens=s.gens:=by funext sp k;show(r.get sp k).g=_;rw[D]
 exact⟨h.size,h.defers,fun t=>by rw[GO,F];exact h.slot t⟩
theorem XX{st s r:St}{w w':World}{β jj:jf}{M M':iP}(D: ∀sp k,r.get sp k=s.get sp k)(h:Tr st w β M s w' jj M'):Tr st w β M r w' jj M':=by
 have GO:r.gens=s.gens:=by funext sp k;show(r.get sp k).g=_;rw[D]
 exact⟨h.keep,h.beta,by rw[GO];exact h.gens⟩
theorem akI(hE:vO P E)(hO:Ai P E call){Q:Exit→Act→World→Prop}{as:List iz}{bit:Nat→Nat→Bool}{pre:Nat→St}{fp:Nat→FP}(hc:lF P hs ops ops.toList=some as)
  (R:qp E call n as (ops.toList.map kl) bit pre fp) {B:mQ} {st:St} {w:World} {β:jf} {M:iP}:
  ∀(D:Nat) (r:Array Bool) (s:St) (a:Act) (F:World) (Kt:jf) (M1:iP),r.size=ops.size→((List.range ops.size).filter fun i=> !r.getD i true).length≤D→Fc (ops.toList.map kl) (fun j=>r.getD j false=true)→
   Inv as pre fp (fun j=>r.getD j false=true) s→jo B s F Kt M1→pt s a F Kt M1 n→Tr st w β M s F Kt M1→w.heap.size≤F.heap.size→
   (∀N w' J M',jo B (pre as.length) w' J M'→pt (pre as.length) N w' J M' n→Tr st w β M (pre as.length) w' J M'→w.heap.size≤w'.heap.size→Q .normal N w')→
   wpAny P .any ops Q D r a F:=by
 obtain⟨hlen,Al⟩:=qq hc
 have Ff:as.length=ops.size:=by simpa using hlen
 have done: ∀(r:Array Bool) (s:St) (a:Act) (F:World) (Kt:jf) (M1:iP),r.size=ops.size→Fc (ops.toList.map kl) (fun j=>r.getD j false=true)→Inv as pre fp (fun j=>r.getD j false=true) s→jo B s F Kt M1→pt s a F Kt M1 n→Tr st w β M s F Kt M1→w.heap.size≤F.heap.size→
   (∀N w' J M',jo B (pre as.length) w' J M'→pt (pre as.length) N w' J M' n→Tr st w β M (pre as.length) w' J M'→w.heap.size≤w'.heap.size→Q .normal N w')→Region.ready .any ops r= []→Q .normal a F:=by
  intro r s a F Kt M1 H X I h Y Z O hq hr
  have all: ∀j,j<ops.size→r.getD j false=true:=by
   intro j
   induction j using Nat.strongRecOn with
   |_ j ih=>
    intro hj
    cases hb:r.getD j false with
    |true=>rfl
    |false=>
     exfalso
     have:j∈Region.ready .any ops r:=by
      unfold Region.ready
      rw[List.mem_filter]
      refine⟨List.mem_range.2 hj, ?_⟩
      have h1:r.getD j true=false:=by
       grind
      rw[h1]
      simp only[Bool.not_false,Bool.true_and]
      have ho:ops[j]? =some ops[j]:=Array.getElem?_eq_getElem hj
      rw[ho]
      simp only[Option.map_some,Option.getD_some]
      rw[←Array.all_toList,List.all_eq_true]
      intro e he
      cases wi:Region.binds .any e with
      |false=>rfl
      |true=>
       simp only[Bool.not_true,Bool.false_or]
       have aBg:e.on∈kl ops[j]:=by
        unfold kl
        exact List.mem_map.2 ⟨e,List.mem_filter.2 ⟨he,wi⟩,rfl⟩
       have hpj:(ops.toList.map kl)[j]? =some (kl ops[j]):=by simp[ho]
       have nv:=R.edges j _ hpj e.on aBg
       exact ih e.on nv (by omega)
     grind
  have cond: ∀j,j<as.length→(r.getD j false=true↔j<as.length):=fun j hj=>⟨fun _=>hj,fun _=>all j (by omega)⟩
  have g1: ∀sp k,(pre as.length).get sp k=s.get sp k:=fun sp k=>(I.key sp k as.length (Nat.le_refl _) (fun j hj _=>cond j hj)).symm
  have g2: ∀t,an (pre as.length).fr t=an s.fr t:=fun t=>(I.slot t as.length (Nat.le_refl _) (fun j a hj _=>cond j (List.getElem?_eq_some_iff.1 hj).1)).symm
  exact hq a F Kt M1 (ais g1 h) (ait g1 g2 Y) (XX g1 Z) O
 intro D
 induction D with
 |zero=>
  intro r s a F Kt M1 H adb X I h Y Z O hq
  have hr:Region.ready .any ops r= []:=by
   simp_all[Region.ready,List.filter_eq_nil_iff,Bool.and_eq_true,List.eq_nil_of_length_eq_zero]
  exact⟨hr,done r s a F Kt M1 H X I h Y Z O hq hr⟩
 |succ D ih=>
  intro r s a F Kt M1 H adb X I h Y Z O hq
  refine⟨done r s a F Kt M1 H X I h Y Z O hq,fun i hi=> ?_⟩
  unfold Region.ready at hi
  rw[List.mem_filter]at hi
  obtain⟨hir,Te⟩:=hi
  have rW:i<ops.size:=List.mem_range.1 hir
  have ho:ops[i]? =some ops[i]:=Array.getElem?_eq_getElem rW
  rw[ho]at Te
  simp only[Bool.and_eq_true,Bool.not_eq_true',Option.map_some,Option.getD_some]at Te
  obtain⟨U,hn2⟩:=Te
  have V:i<r.size:=by omega
  have HA: ¬(r.getD i false=true):=by
   simp[Array.getD_eq_getD_getElem?,Array.getElem?_eq_getElem V]at U ⊢; exact U
  have at9: ∀ps,(ops.toList.map kl)[i]? =some ps→ ∀p∈ps,r.getD p false=true:=by
   intro ps A5 p hp
   simp[ho]at A5;subst A5
   unfold kl at hp
   obtain⟨e,he,rfl⟩:=List.mem_map.1 hp
   obtain⟨GF,he2⟩:=List.mem_filter.1 he
   rw[←Array.all_toList,List.all_eq_true]at hn2
   have:=hn2 e GF
   simpa[he2]using this
  obtain⟨ao,hao,De⟩:=Al i ops[i] (by simp)
  obtain⟨s',he,I'⟩:=XT R X I hao HA at9
  refine sW hE hO ho De h Y he ?_
  intro N w' J M' r1 r2 r3 r4
  have LW: ∀j,(r.setIfInBounds i true).getD j false=true↔(r.getD j false=true∨j=i):=by
   intro j
   simp only[Array.getD_eq_getD_getElem?,Array.getElem?_setIfInBounds]
   by_cases hj:i=j
   ·subst hj;simp[V]
   ·rw[if_neg hj]
    exact⟨.inl,fun e=>e.resolve_right (fun e=>hj e.symm)⟩
  refine ih (r.setIfInBounds i true) s' N w' J M' (by simp[H]) ?_ ?_ ?_ r1 r2 (Z.trans r3 O) (Nat.le_trans O r4) hq
  ·have hfe:(List.range ops.size).filter (fun j=> !(r.setIfInBounds i true).getD j true)=((List.range ops.size).filter (fun j=> !r.getD j true)).filter (fun j=>decide (j≠i)):=by
    rw[List.filter_filter]
    apply List.filter_congr
    intro j hj
    simp only[Array.getD_eq_getD_getElem?,Array.getElem?_setIfInBounds]
    by_cases W:i=j
    ·subst W;simp[V]
    ·have: ¬j=i:=fun e=>W e.symm
     rw[if_neg W];simp[this]
   rw[hfe]
   have nv:(((List.range ops.size).filter (fun j=> !r.getD j true)).filter (fun j=>decide (j≠i))).length<((List.range ops.size).filter (fun j=> !r.getD j true)).length:=by
    rw[List.length_filter_lt_length_iff_exists]
    exact⟨i,List.mem_filter.2 ⟨hir,by rw[U];rfl⟩,by simp⟩
   omega
  ·intro j ps A5 hj p hp
   rw[LW]at hj ⊢
   rcases hj with hj|hj
   ·exact .inl (X j ps A5 hj p hp)
   ·subst hj;exact .inl (at9 ps A5 p hp)
  ·have:(fun j=>(r.setIfInBounds i true).getD j false=true)=(fun j=>r.getD j false=true∨j=i):=by funext j;exact propext (LW j)
   rw[this];exact I'
end
end Go.Ev
namespace Go.Ev
open Go
def akK:Out→Exit
 | .nrm=> .normal
 | .ext id=> .exit id
 | .ret=> .ret
section
variable{P:Program}{E:Env}{call:qT}{n:Nat}{hs:List Nat}
theorem XY{l:List Nat}{j:Nat}(h:j<l.length):l[j]? =some (iN 0 l j):=by
 induction l generalizing j with
 |nil=>simp at h
 |cons x xs ih=>
  cases j with
  |zero=>rfl
  |succ j=>grind [iN]
theorem XZ(hE:vO P E)(hO:Ai P E call)(hm:P.follows .mixedOrders=true){id:Nat}{ops:Array Oper}{as:List iz}(hc:lF P hs ops ops.toList=some as)(GF:zN 0 (ops.toList.map kl)=true)(V:zO (rM (ops.toList.map kl) []) [] as=true)
  {B:mQ} {st J:St} {a:Act} {w:World} {β:jf} {M:iP} (h:jo B st w β M) (W:pt st a w β M n) (X:jc E call n (tM (rM (ops.toList.map kl) []) [] as) [] st=some J) {Q:Exit→Act→World→Prop}
  (hq: ∀I w' Y M',jo B J w' Y M'→pt J I w' Y M' n→Tr st w β M J w' Y M'→w.heap.size≤w'.heap.size→Q .normal I w'):(Code.region id ops true).wp P Q a w:=by
 obtain⟨D,Al⟩:=qq hc
 obtain⟨m1,m2,m3⟩:=E9 (ops.toList.map kl) []
 have QJ:(rM (ops.toList.map kl) []).length=as.length:=by rw[m1,D];simp
 obtain⟨pre,fp,Z,p2,p3⟩:=Fb as [] _ [] st J rfl QJ X
 have H: ∀j,j<as.length→(rM (ops.toList.map kl) [])[j]? =some (iN 0 (rM (ops.toList.map kl) []) j):=fun j r=>XY (by rw[QJ];exact r)
 have hed:=Aj _ 0 GF
 have R:qp E call n as (ops.toList.map kl) (fun j i=>(iN 0 (rM (ops.toList.map kl) []) j).testBit i) pre fp:=by
  refine⟨by rw[D];simp,fun j U r p hp=>by have:=hed j U r p hp;omega,fun j U r i=> ?_,fun j I r=> ?_,fun j a1 k a2 r hk F hb=> ?_,fun j a1 k a2 r hk F hb hq1 hq2=> ?_⟩
  ·have:=m3 j U r i
   simp only[List.length_nil,Nat.zero_add]at this
   grind
  ·obtain⟨e1,e2,_⟩:=p3 j I _ r (H j (List.getElem?_eq_some_iff.1 r).1)
   grind
  ·exact Ak as [] _ V j a1 r _ (H j (List.getElem?_eq_some_iff.1 r).1) k a2 (by simpa using F) (by simpa using hk) hb
  ·obtain⟨_,_,e3⟩:=p3 j a1 _ r (H j (List.getElem?_eq_some_iff.1 r).1)
   simp_all
 obtain⟨d1,d2⟩:=IN h (w.drawn+1)
 refine wp_region_any hm ?_
 have N: ∀j,((Array.replicate ops.size false).getD j false=true)↔False:=by
  intro j
  simp only[Array.getD_eq_getD_getElem?,Array.getElem?_replicate]
  split <;> simp
 have hI:Inv as pre fp (fun j=>(Array.replicate ops.size false).getD j false=true) st:=by
  have aBj:(fun j=>(Array.replicate ops.size false).getD j false=true)=fun _=>False:=by funext j;exact propext (N j)
  rw[aBj]
  refine⟨fun t i hi O=> ?_,fun sp k i hi O=> ?_,fun i hi O=> ?_⟩
  ·rw[L5 R t 0 i (Nat.zero_le _) hi (fun j I r _ F hd=>(O j I r hd).2 F),Z]
  ·rw[QK R sp k 0 i (Nat.zero_le _) hi (fun j _ F hw=>(O j (by omega) hw).2 F),Z]
  ·rw[QL R 0 i (Nat.zero_le _) hi (fun j _ F=>by
    cases LQ:(fp j).all with
    |false=>rfl
    |true=>exact((O j (by omega) LQ).2 F).elim),Z]
 refine akI (st:=st) (w:=w) (β:=β) (M:=M) hE hO hc R ops.size _ st a _ β M (by simp) ?_ ?_ hI d1 ⟨W.size,W.defers,fun t=>d2.val (W.slot t)⟩ d2 (Nat.le_refl _) ?_
 ·exact Nat.le_trans (List.length_filter_le _ _) (by simp)
 ·intro j U _ r
  exact((N j).1 r).elim
 grind
theorem mY{ops:Array Oper}{L:Array Bool}{i:Nat}(hi:i<ops.size):i∈Region.ready .any ops L↔L.getD i true=false∧ ∀p∈kl ops[i],L.getD p false=true:=by
 have r:ops[i]? =some ops[i]:=Array.getElem?_eq_getElem hi
 unfold Region.ready
 rw[List.mem_filter,List.mem_range,r]
 simp only[Bool.and_eq_true,Bool.not_eq_true',Option.map_some,Option.getD_some,hi,true_and]
 refine and_congr_right fun _=> ?_
 rw[←Array.all_toList,List.all_eq_true]
 grind [kl]
theorem tP{ops:Array Oper}{L:Array Bool}{i:Nat}(h:i∈Region.ready .any ops L):i<ops.size:=by
 grind [Region.ready]
theorem nn{o:iz}{r:List iz}{st s:St}(h:iB E call n (o::r) st=some s): ∃t,js E call n o st=some t∧iB E call n r t=some s:=by
 grind [iB]
theorem adf(hE:vO P E)(hO:Ai P E call)(hm:P.follows .mixedOrders=true){id:Nat}{ops:Array Oper}{o0 o1 o2 o3:iz}(hc:lF P hs ops ops.toList=some [o0,o1,o2,o3])(D:IM (ops.toList.map kl)=true)
  {B:mQ} {st s1 s2:St} {a:Act} {w:World} {β:jf} {M:iP} (h:jo B st w β M) (hf:pt st a w β M n) (O:iB E call n [o0,o1,o2,o3] st=some s1) (U:iB E call n [o0,o2,o1,o3] st=some s2) {Q:Exit→Act→World→Prop}
  (q1: ∀H w' r M',jo B s1 w' r M'→pt s1 H w' r M' n→Tr st w β M s1 w' r M'→w.heap.size≤w'.heap.size→Q .normal H w')
  (q2: ∀H w' r M',jo B s2 w' r M'→pt s2 H w' r M' n→Tr st w β M s2 w' r M'→w.heap.size≤w'.heap.size→Q .normal H w'):(Code.region id ops true).wp P Q a w:=by
 obtain⟨hlen,Al⟩:=qq hc
 have qn:ops.size=4:=by simpa using hlen.symm
 obtain⟨t0,f0,O⟩:=nn O
 obtain⟨t1,f1,O⟩:=nn O
 obtain⟨t2,f2,O⟩:=nn O
 obtain⟨t3,f3,O⟩:=nn O
 simp only[iB,Option.some.injEq]at O
 subst O
 obtain⟨t0',g0,U⟩:=nn U
 obtain⟨u1,g1,U⟩:=nn U
 obtain⟨u2,g2,U⟩:=nn U
 obtain⟨u3,g3,U⟩:=nn U
 simp only[iB,Option.some.injEq]at U
 subst U
 rw[f0]at g0
 injection g0 with g0
 subst g0
 have kZ: ∀j (hj:j<ops.size) (ao:iz),[o0,o1,o2,o3][j]? =some ao→wF P hs ops ops[j]=some ao:=by
  intro j hj ao hao
  obtain⟨x,hx,hy⟩:=Al j ops[j] (by simp)
  grind
 have A5: ∃p1 p2 p3,ops.toList.map kl= [[],p1,p2,p3]∧0∈p1∧0∈p2∧(∀x∈p1,x<1)∧(∀x∈p2,x<1)∧1∈p3∧2∈p3∧ ∀x∈p3,x<3:=by
  unfold IM at D
  grind
 obtain⟨p1,p2,p3,aGG,a1,a2,b1,b2,c1,c2,c3⟩:=A5
 have V: ∀j (hj:j<ops.size) (ps:List Nat),[[],p1,p2,p3][j]? =some ps→kl ops[j]=ps:=by
  grind
 have W:0<ops.size:=by omega
 have F:1<ops.size:=by omega
 have J:2<ops.size:=by omega
 have X:3<ops.size:=by omega
 have r0:=V 0 W [] rfl
 have r1:=V 1 F p1 rfl
 have r2:=V 2 J p2 rfl
 have r3:=V 3 X p3 rfl
 obtain⟨d1,d2⟩:=IN h (w.drawn+1)
 refine wp_region_any hm ?_
 rw[qn]
 have base:pt st a {w with drawn:=w.drawn+1} β M n:=⟨hf.size,hf.defers,fun t=>d2.val (hf.slot t)⟩
 have sz0:w.heap.size≤{w with drawn:=w.drawn+1}.heap.size:=Nat.le_refl _
 have last: ∀(t s:St),js E call n o3 t=some s→(∀H w' r M',jo B s w' r M'→pt s H w' r M' n→Tr st w β M s w' r M'→w.heap.size≤w'.heap.size→Q .normal H w')→
   ∀H w' r M',jo B t w' r M'→pt t H w' r M' n→Tr st w β M t w' r M'→w.heap.size≤w'.heap.size→wpAny P .any ops Q 1 #[true,true,true,false] H w':=by
  intro t s he hq H w' r M' x1 x2 x3 Y
  refine⟨fun Z=> ?_,fun i hi=> ?_⟩
  ·have:3∈Region.ready .any ops #[true,true,true,false]:=(mY X).2 ⟨rfl,fun p D=>by
    rw[r3]at D
    have:=c3 p D
    have:p=0∨p=1∨p=2:=by omega
    rcases this with rfl|rfl|rfl <;> rfl⟩
   rw[Z]at this;cases this
  ·have N:=tP hi
   obtain⟨I,_⟩:=(mY N).1 hi
   have:i=0∨i=1∨i=2∨i=3:=by omega
   rcases this with rfl|rfl|rfl|rfl
   ·cases I
   ·cases I
   ·cases I
   ·refine sW hE hO (o:=ops[3]) (Array.getElem?_eq_getElem X) (kZ 3 X o3 rfl) x1 x2 he ?_
    intro a2 w2 XW M2 z1 z2 z3 z4
    have hr0:Region.ready .any ops (#[true,true,true,false].setIfInBounds 3 true)= []:=by
     rw[List.eq_nil_iff_forall_not_mem]
     intro i hi
     have N:=tP hi
     obtain⟨I,_⟩:=(mY N).1 hi
     have:i=0∨i=1∨i=2∨i=3:=by omega
     rcases this with rfl|rfl|rfl|rfl <;> cases I
    exact⟨hr0,hq a2 w2 XW M2 z1 z2 (x3.trans z3 Y) (Nat.le_trans Y z4)⟩
 refine⟨fun Z=> ?_,fun i hi=> ?_⟩
 ·have:0∈Region.ready .any ops (Array.replicate 4 false):=(mY W).2 ⟨rfl,fun p D=>by rw[r0]at D;cases D⟩
  rw[Z]at this;cases this
 ·have N:=tP hi
  obtain⟨I,y2⟩:=(mY N).1 hi
  have:i=0∨i=1∨i=2∨i=3:=by omega
  rcases this with rfl|rfl|rfl|rfl
  ·refine sW hE hO (o:=ops[0]) (Array.getElem?_eq_getElem W) (kZ 0 W o0 rfl) d1 base f0 ?_
   intro H w' r M' x1 x2 x3 Y
   have x3':Tr st w β M t0 w' r M':=d2.trans x3 sz0
   show wpAny P .any ops Q 3 #[true,false,false,false] H w'
   refine⟨fun Z=> ?_,fun i hi=> ?_⟩
   ·have:1∈Region.ready .any ops #[true,false,false,false]:=(mY F).2 ⟨rfl,fun p D=>by
     rw[r1]at D
     have:=b1 p D
     have:p=0:=by omega
     subst this;rfl⟩
    rw[Z]at this;cases this
   ·have N:=tP hi
    obtain⟨I,y2⟩:=(mY N).1 hi
    have:i=0∨i=1∨i=2∨i=3:=by omega
    rcases this with rfl|rfl|rfl|rfl
    ·cases I
    ·refine sW hE hO (o:=ops[1]) (Array.getElem?_eq_getElem F) (kZ 1 F o1 rfl) x1 x2 f1 ?_
     intro a2 w2 XW M2 z1 z2 z3 z4
     have z3':=x3'.trans z3 Y
     show wpAny P .any ops Q 2 #[true,true,false,false] a2 w2
     refine⟨fun Z=> ?_,fun i hi=> ?_⟩
     ·have:2∈Region.ready .any ops #[true,true,false,false]:=(mY J).2 ⟨rfl,fun p D=>by
       rw[r2]at D
       have:=b2 p D
       have:p=0:=by omega
       subst this;rfl⟩
      rw[Z]at this;cases this
     ·have N:=tP hi
      obtain⟨I,y2⟩:=(mY N).1 hi
      have:i=0∨i=1∨i=2∨i=3:=by omega
      rcases this with rfl|rfl|rfl|rfl
      ·cases I
      ·cases I
      ·refine sW hE hO (o:=ops[2]) (Array.getElem?_eq_getElem J) (kZ 2 J o2 rfl) z1 z2 f2 ?_
       intro a3 w3 β3 M3 v1 v2 v3 v4
       exact last t2 t3 f3 q1 a3 w3 β3 M3 v1 v2 (z3'.trans v3 (Nat.le_trans Y z4)) (Nat.le_trans Y (Nat.le_trans z4 v4))
      ·have:=y2 2 (by rw[r3];exact c2);cases this
    ·refine sW hE hO (o:=ops[2]) (Array.getElem?_eq_getElem J) (kZ 2 J o2 rfl) x1 x2 g1 ?_
     intro a2 w2 XW M2 z1 z2 z3 z4
     have z3':=x3'.trans z3 Y
     show wpAny P .any ops Q 2 #[true,false,true,false] a2 w2
     refine⟨fun Z=> ?_,fun i hi=> ?_⟩
     ·have:1∈Region.ready .any ops #[true,false,true,false]:=(mY F).2 ⟨rfl,fun p D=>by
       rw[r1]at D
       have:=b1 p D
       have:p=0:=by omega
       subst this;rfl⟩
      rw[Z]at this;cases this
     ·have N:=tP hi
      obtain⟨I,y2⟩:=(mY N).1 hi
      have:i=0∨i=1∨i=2∨i=3:=by omega
      rcases this with rfl|rfl|rfl|rfl
      ·cases I
      ·refine sW hE hO (o:=ops[1]) (Array.getElem?_eq_getElem F) (kZ 1 F o1 rfl) z1 z2 g2 ?_
       intro a3 w3 β3 M3 v1 v2 v3 v4
       exact last u2 u3 g3 q2 a3 w3 β3 M3 v1 v2 (z3'.trans v3 (Nat.le_trans Y z4)) (Nat.le_trans Y (Nat.le_trans z4 v4))
      ·cases I
      ·have:=y2 1 (by rw[r3];exact c1);cases this
    ·have:=y2 1 (by rw[r3];exact c1);cases this
  ·have:=y2 0 (by rw[r1];exact a1);cases this
  ·have:=y2 0 (by rw[r2];exact a2);cases this
  ·have:=y2 1 (by rw[r3];exact c1);cases this
theorem tQ(ks:List Nat)(f:Fr)(j:Nat):an (zM ks f) j=if j∈ks then .any else an f j:=by
 induction ks with
 |nil=>simp[zM]
 |cons k ks ih=>
  grind [zM,rC]
theorem HC(ks:List Nat)(l r:iL iy)(j:Nat):iL.get mN (EI ks l r) j=if j∈ks then⟨max (iL.get mN l j).g (iL.get mN r j).g,.none⟩else iL.get mN l j:=by
 induction ks with
 |nil=>simp[EI]
 |cons k ks ih=>
  grind [EI,iL.get_set]
theorem wM(ks:List Nat)(s t:St)(sp:Sp)(k:Nat):(tJ ks s t).get sp k=if sp= .L∧k∈ks then⟨max (s.get sp k).g (t.get sp k).g,.none⟩else s.get sp k:=by
 cases sp with
 |S=>rw[if_neg (by simp)];rfl
 |L=>
  show iL.get mN (EI ks s.lh t.lh) k=_
  rw[HC]
  by_cases h:k∈ks
  ·rw[if_pos h,if_pos ⟨rfl,h⟩];rfl
  ·rw[if_neg h,if_neg (by simp[h])];rfl
theorem BP(ks:List Nat)(s t:St)(sp:Sp)(k:Nat):s.gens sp k≤(tJ ks s t).gens sp k:=by
 show(s.get sp k).g≤((tJ ks s t).get sp k).g
 rw[wM]
 grind
theorem tR{ks:List Nat}{s t:St}{sp:Sp}{k:Nat}(h:live ((tJ ks s t).get sp k)):(tJ ks s t).get sp k=s.get sp k∧live (s.get sp k):=by
 rw[wM]at h ⊢
 split at h
 ·exact h.elim
 ·grind
theorem vd{ks:List Nat}{s t:St}{sp:Sp}{k:Nat}(h:live ((tJ ks s t).get sp k)):(tJ ks s t).gens sp k=s.gens sp k:=by
 show((tJ ks s t).get sp k).g=(s.get sp k).g
 rw[(tR h).1]
theorem X0(ks:List Nat)(t:St){B:mQ}{s:St}{w:World}{β:jf}{M:iP}(h:jo B s w β M):jo B (tJ ks s t) w β M:=by
 refine⟨fun sp k=> ?_,fun sp k H k' D F e=> ?_,h.mlt,fun k r=> ?_,fun k r=> ?_,h.os,h.tape,h.output,h.size,h.same,h.keep,h.msup⟩
 ·rw[wM]
  split
  ·unfold lM;trivial
  ·exact lM.mono (lG.refl w M) (fun _ _ _ _=>rfl) (BP ks s t) (Nat.le_refl _) (fun _=>rfl) (fun _ _ h=>h) (h.obj sp k)
 ·rw[vd D,vd F]at e;exact h.dist sp k H k' (tR D).2 (tR F).2 e
 ·rw[vd r];exact h.lblk k (tR r).2
 ·rw[vd r];exact h.sblk k (tR r).2
theorem X1(ks:List Nat)(t:St){s:St}{a:Act}{w:World}{β:jf}{M:iP}(h:pt s a w β M n):pt (tJ ks s t) a w β M n:=by
 refine⟨h.size,h.defers,fun i=> ?_⟩
 show iE β (tJ ks s t).gens w M (an (zM ks s.fr) i) _
 rw[tQ]
 split
 ·simp only[iE]
 ·exact iE.mono (lG.refl w M) (fun _ _ _ _=>rfl) (BP ks s t) _ _ (h.slot i)
theorem X2(ks:List Nat)(t:St){st s:St}{w w':World}{β jj:jf}{M M':iP}(h:Tr st w β M s w' jj M'):Tr st w β M (tJ ks s t) w' jj M':=⟨h.keep,h.beta,fun sp k=>Nat.le_trans (h.gens sp k) (BP ks s t sp k)⟩
theorem Fg{ks:List Nat}{s t:St}(h:EJ ks s t)(sp:Sp)(k:Nat):(tJ ks s t).get sp k=(tJ ks t s).get sp k:=by
 obtain⟨D,_,F⟩:=h
 cases sp with
 |S=>show iM s.sh k=iM t.sh k;rw[D]
 |L=>
  rw[wM,wM]
  by_cases r:k∈ks
  ·grind
  ·rw[if_neg (by simp[r]),if_neg (by simp[r])]
   exact F k r
theorem adg{ks:List Nat}{s t:St}(h:EJ ks s t)(k:Nat):an (tJ ks s t).fr k=an (tJ ks t s).fr k:=by
 show an (zM ks s.fr) k=an (zM ks t.fr) k
 rw[tQ,tQ]
 split
 ·rfl
 ·rename_i r;exact h.2.1 k r
theorem yN{ks:List Nat}{F H:Option (Out×St)}{o:Out}{s:St}(h:Qq ks F H=some (o,s)): ∃r D,F=some (o,r)∧H=some (o,D)∧EJ ks r D∧s=tJ ks r D:=by
 unfold Qq at h
 grind
theorem L6(a:Code)(D r:iA):Qr P hs a D r= .seq D r∨ ∃id ops F H I J,a= .region id ops true∧lF P hs ops ops.toList=some [F,H,I,J]∧IM (ops.toList.map kl)=true∧Qr P hs a D r= .fork [F,H,I,J] [F,I,H,J] r:=by
 unfold Qr
 grind
theorem akN(hE:vO P E)(hO:Ai P E call)(hm:P.follows .mixedOrders=true)(fl:Nat): ∀(c:Code) (ac:iA),oA P hs c=some ac→
  ∀{B:mQ} {st Z:St} {a:Act} {w:World} {β:jf} {M:iP} {o:Out},jo B st w β M→pt st a w β M n→nS E call fl n ac st=some (o,Z)→ ∀{Q:Exit→Act→World→Prop},
  (∀U w' V M',jo B Z w' V M'→pt Z U w' V M' n→Tr st w β M Z w' V M'→w.heap.size≤w'.heap.size→Q (akK o) U w')→c.wp P Q a w:=by
 intro c
 induction c with
 |skip=>
  intro ac D B st Z a w β M o h H r Q F
  simp[oA]at D;subst D
  simp[nS]at r;obtain⟨rfl,rfl⟩:=r
  exact wp_skip (F a w β M h H (Tr.refl _ _ _ _) (Nat.le_refl _))
 |region id ops draw=>
  intro ac D B st Z a w β M o h H r Q F
  cases draw with
  |false=>
   simp only[oA,Option.map_eq_some_iff]at D
   obtain⟨as,N,rfl⟩:=D
   simp only[nS,Option.map_eq_some_iff]at r
   obtain⟨mW,h2,h3⟩:=r
   simp at h3;obtain⟨rfl,rfl⟩:=h3
   refine wp_region ?_
   rw[List.range_eq_range']
   exact XV hE hO ops.size 0 as (by omega) (by simpa using N) h H h2 F
  |true=>
   simp only[oA]at D
   split at D
   ·rename_i as N
    split at D
    ·rename_i hcc
     simp only[Bool.and_eq_true]at hcc
     simp at D;subst D
     simp only[nS,Option.map_eq_some_iff]at r
     obtain⟨mW,h2,h3⟩:=r
     simp at h3;obtain⟨rfl,rfl⟩:=h3
     exact XZ hE hO hm N hcc.1 hcc.2 h H h2 F
    ·cases D
   ·cases D
 |seq x y ihx X3=>
  intro ac D B st Z a w β M o h H r Q F
  simp only[oA]at D
  split at D
  ·rename_i J ay N h2
   simp only[Option.some.injEq]at D
   rcases L6 (P:=P) (hs:=hs) x J ay with hj|⟨id,ops,o0,o1,o2,o3,rfl,De,Fh,hj⟩
   rotate_left
   ·rw[hj]at D
    subst D
    simp only[nS]at r
    split at r
    ·rename_i s1 s2 e1 e2
     obtain⟨t1,t2,g1,g2,sX,rfl⟩:=yN r
     refine wp_seq ?_
     refine adf hE hO hm De Fh h H e1 e2 ?_ ?_
     ·intro U w' V M' W X Y O
      exact X3 ay h2 W X g1 (fun a2 w2 XW M2 z1 z2 z3 z4=>F a2 w2 XW M2 (X0 _ _ z1) (X1 _ _ z2) (X2 _ _ (Y.trans z3 O)) (Nat.le_trans O z4))
     ·intro U w' V M' W X Y O
      exact X3 ay h2 W X g2 (fun a2 w2 XW M2 z1 z2 z3 z4=>F a2 w2 XW M2 (ais (Fg sX) (X0 _ _ z1)) (ait (Fg sX) (adg sX) (X1 _ _ z2)) (XX (Fg sX) (X2 _ _ (Y.trans z3 O))) (Nat.le_trans O z4))
    ·cases r
   rw[hj]at D
   subst D
   simp only[nS]at r
   refine wp_seq ?_
   cases I:nS E call fl n J st with
   |none=>simp[I]at r
   |some p=>
    obtain⟨ox,mW⟩:=p
    cases ox with
    |nrm=>
     simp only[I]at r
     refine ihx J N h H I ?_
     intro U w' V M' W X Y O
     exact X3 ay h2 W X r (fun a2 w2 XW M2 s1 s2 s3 s4=>F a2 w2 XW M2 s1 s2 (Y.trans s3 O) (Nat.le_trans O s4))
    |ext id=>
     simp[I]at r;obtain⟨rfl,rfl⟩:=r
     exact ihx J N h H I F
    |ret=>
     simp[I]at r;obtain⟨rfl,rfl⟩:=r
     exact ihx J N h H I F
  ·cases D
 |cond c x y ihx X3=>
  intro ac D B st Z a w β M o h H r Q F
  simp only[oA]at D
  split at D
  ·rename_i c' J ay h0 N h2
   simp at D;subst D
   simp only[nS]at r
   have vc:=Xy H c c' h0
   split at r
   ·rename_i e
    rw[e]at vc
    exact wp_cond_true vc.bool (ihx J N h H r F)
   ·rename_i e
    rw[e]at vc
    exact wp_cond_false vc.bool (X3 ay h2 h H r F)
   ·cases r
  ·cases D
 |block id x ih=>
  intro ac D B st Z a w β M o h H r Q F
  simp only[oA,Option.map_eq_some_iff]at D
  obtain⟨J,N,rfl⟩:=D
  simp only[nS]at r
  refine wp_block ?_
  cases I:nS E call fl n J st with
  |none=>simp[I]at r
  |some p=>
   obtain⟨ox,mW⟩:=p
   cases ox with
   |nrm=>simp[I]at r;obtain⟨rfl,rfl⟩:=r;exact ih J N h H I F
   |ret=>simp[I]at r;obtain⟨rfl,rfl⟩:=r;exact ih J N h H I F
   |ext SZ=>
    simp only[I]at r
    by_cases hid:SZ=id
    ·simp only[hid,if_true,Option.some.injEq,Prod.mk.injEq]at r
     obtain⟨rfl,rfl⟩:=r
     refine ih J N h H I ?_
     intro U w' V M' W X Y O
     show Exit.inBlock id Q (.exit SZ) U w'
     simp only[Exit.inBlock,hid,if_true]
     exact F U w' V M' W X Y O
    ·simp only[hid,if_false,Option.some.injEq,Prod.mk.injEq]at r
     obtain⟨rfl,rfl⟩:=r
     refine ih J N h H I ?_
     intro U w' V M' W X Y O
     show Exit.inBlock id Q (.exit SZ) U w'
     simp only[Exit.inBlock,hid,if_false]
     exact F U w' V M' W X Y O
 |loop x ih=>
  intro ac D B st Z a w β M o h H r Q F
  simp only[oA,Option.map_eq_some_iff]at D
  obtain⟨J,N,rfl⟩:=D
  simp only[nS]at r
  have key: ∀(m:Nat) (mW:St) (a1:Act) (w1:World) (Kt:jf) (M1:iP),jo B mW w1 Kt M1→pt mW a1 w1 Kt M1 n→Tr st w β M mW w1 Kt M1→w.heap.size≤w1.heap.size→iter (nS E call fl n J) m mW=some (o,Z)→Code.rounds P x Q m a1 w1:=by
   intro m
   induction m with
   |zero=>grind [iter]
   |succ m ihm=>
    intro mW a1 w1 Kt M1 g1 g2 g3 g4 hi
    rw[rounds_succ]
    simp only[iter]at hi
    cases I:nS E call fl n J mW with
    |none=>simp[I]at hi
    |some p=>
     obtain⟨ox,BM⟩:=p
     cases ox with
     |nrm=>
      simp only[I]at hi
      refine ih J N g1 g2 I ?_
      intro U w' V M' W X Y O
      exact ihm BM U w' V M' W X (g3.trans Y g4) (Nat.le_trans g4 O) hi
     |ext id=>
      simp[I]at hi;obtain⟨rfl,rfl⟩:=hi
      refine ih J N g1 g2 I ?_
      intro U w' V M' W X Y O
      exact F U w' V M' W X (g3.trans Y g4) (Nat.le_trans g4 O)
     |ret=>
      simp[I]at hi;obtain⟨rfl,rfl⟩:=hi
      refine ih J N g1 g2 I ?_
      intro U w' V M' W X Y O
      exact F U w' V M' W X (g3.trans Y g4) (Nat.le_trans g4 O)
  exact wp_loop_rounds fl (key fl st a w β M h H (Tr.refl _ _ _ _) (Nat.le_refl _) r)
 |exit id=>
  intro ac D B st Z a w β M o h H r Q F
  simp[oA]at D;subst D
  simp[nS]at r;obtain⟨rfl,rfl⟩:=r
  exact wp_exit (F a w β M h H (Tr.refl _ _ _ _) (Nat.le_refl _))
 |ret=>
  intro ac D B st Z a w β M o h H r Q F
  simp[oA]at D;subst D
  simp[nS]at r;obtain⟨rfl,rfl⟩:=r
  exact wp_ret (F a w β M h H (Tr.refl _ _ _ _) (Nat.le_refl _))
 |rangeFunc _ _ _ _=>grind [oA]
 |scope _=>grind [oA]
 |label _=>grind [oA]
 |goto _=>grind [oA]
 |refuse _=>grind [oA]
end
end Go.Ev
namespace Go.Ev
open Go
section
variable{P:Program}{E:Env}{n:Nat}
def I2(ts:Array Value)(r:ResultVar):Sem Value:=
 match r with
 | .tmp t=>pure (ts.getD t undef)
 | .cell D t=>do loadVar t (←asAddr (ts.getD D undef))
theorem OI(D:Func)(ts:Array Value):results D ts=(do
  let r ←(List.toArray <$> D.results.toList.mapM (I2 ts))
  pure (if h:r.size=1 then r[0]else .tuple r)):=by
 unfold results
 rw[Array.mapM_eq_mapM_toList]
 congr 2
theorem yO{B:mQ}{st:St}{a:Act}{w:World}{β:jf}{M:iP}(h:jo B st w β M)(O:pt st a w β M n): ∀(I:List ResultVar) (D:List qS) (N:List T),uT P I=some D→oV st D=some N→
  ∃J:List Value,(I.mapM (I2 a.tmps)).run P w=Result.ok J w∧iF β st.gens w M N J
 | [],D,N,F,r=>by
   simp_all[uT,oV,iF]
 | .tmp t::I,D,N,F,r=>by
   simp only[uT,Option.map_eq_some_iff]at F
   obtain⟨H,V,rfl⟩:=F
   simp only[oV,LF]at r
   split at r
   ·rename_i v W U X
    simp at r U;subst r;subst U
    obtain⟨J,Y,Z⟩:=yO h O I H W V X
    refine⟨a.tmps.getD t undef::J, ?_, ?_⟩
    ·grind [I2,Sem.run_bind,Sem.run_pure,Result.andThen_ok]
    ·simp only[iF];exact⟨_,_,rfl,O.slot t,Z⟩
   ·cases r
 | .cell ad t::I,D,N,F,r=>by
   simp only[uT]at F
   split at F
   ·rename_i sz ag H V h2 h3
    simp at F;subst F
    simp only[oV,LF]at r
    split at r
    ·rename_i v W U X
     simp at r;subst r
     obtain⟨J,Y,Z⟩:=yO h O I H W h3 X
     obtain⟨ad',cv,q1,q2,q3⟩:=LM (P:=P) h V h2 (O.slot ad) U
     refine⟨cv::J, ?_, ?_⟩
     ·rw[List.mapM_cons]
      simp only[I2,Sem.run_bind,q1,asAddr,Sem.run_pure,Result.andThen_ok,q2,Y]
     ·grind [iF]
    ·cases r
   ·cases F
theorem Tf{β:jf}{G:Sp→Nat→Nat}{w:World}{M:iP}{args:List T}{r:Array Value}(H:iF β G w M args r.toList)(k:Nat)(t:Nat):iE β G w M (an (qx args) t) ((r++Array.replicate k undef).getD t undef):=by
 have D:=iF.length _ _ H
 by_cases J:t<args.length
 ·have N:args[t]? =some args[t]:=List.getElem?_eq_getElem J
  obtain⟨cv,O,W⟩:=H.get N
  have I:an (qx args) t=args[t]:=by
   rw[Hp]
   have: ∀(l:List T) (j:Nat) (F:j<l.length),iN jg l j=l[j]:=by
    intro l
    induction l with
    |nil=>grind
    |cons x xs ih=>intro j F;cases j with|zero=>rfl|succ j=>exact ih j (by simpa using F)
   grind
  have U:r[t]? =some cv:=by simpa using O
  have X:t<r.size:=by simp at D;omega
  simp_all[Array.getD_eq_getD_getElem?,Array.getElem?_append_left]
 ·have I:an (qx args) t=jg:=by
   rw[Hp]
   have: ∀(l:List T) (j:Nat),l.length≤j→iN jg l j=jg:=by
    intro l
    induction l with
    |nil=>intro j _;rfl
    |cons x xs ih=>intro j F;cases j with|zero=>simp at F|succ j=>exact ih j (by simpa using F)
   grind
  have V:(r++Array.replicate k undef).getD t undef=undef:=by
   rw[Array.getD_eq_getD_getElem?,Array.getElem?_append_right (by simp at D;omega),Array.getElem?_replicate]
   split <;> rfl
  rw[I,V]
  simp[iE,jg,undef,iF]
def pack:List T→T
 | [v]=>v
 |vs=> .tup vs
theorem OJ{keep:Bool}{n:Nat}:fz keep (n+1) .nilsl= .ret (.nilsl,[]):=rfl
theorem Am{f:T→Q (T×List Up)}{h:Sp→Nat→iy}{nx:Nat}(I:f .nilsl= .ret (.nilsl,[])): ∀(ts:List T) {j:Nat} {q:List T×List Up},(jm f ts).run h nx=some q→ts[j]? =some .nilsl→q.1[j]? =some .nilsl
 | [],j,q,_,D=>by simp at D
 |t::ts,j,q,r,D=>by
  simp only[jm,Q.run_bind]at r
  cases H:(f t).run h nx with
  |none=>simp[H]at r
  |some p=>
   simp only[H,Option.bind_some]at r
   cases F:(jm f ts).run h nx with
   |none=>simp[F]at r
   |some J=>
    simp only[F,Option.bind_some,Q.run,Option.some.injEq]at r
    subst r
    cases j with
    |zero=>
     grind [Q.run]
    |succ j=>simpa using Am I ts F (by simpa using D)
theorem I3{f:T→Q (T×List Up)}{h:Sp→Nat→iy}{nx:Nat}: ∀(ts:List T) {j:Nat} {q:List T×List Up} {x:T},(jm f ts).run h nx=some q→ts[j]? =some x→ ∃p,(f x).run h nx=some p∧q.1[j]? =some p.1
 | [],j,q,x,_,D=>by simp at D
 |t::ts,j,q,x,r,D=>by
  simp only[jm,Q.run_bind]at r
  cases H:(f t).run h nx with
  |none=>simp[H]at r
  |some p=>
   simp only[H,Option.bind_some]at r
   cases F:(jm f ts).run h nx with
   |none=>simp[F]at r
   |some I=>
    simp only[F,Option.bind_some,Q.run,Option.some.injEq]at r
    subst r
    cases j with
    |zero=>grind
    |succ j=>simpa using I3 ts F (by simpa using D)
theorem I4{n:Nat}{cs:List T}{h:Sp→Nat→iy}{nx:Nat}{p:T×List Up}(r:(fz false (n+1) (.agg cs)).run h nx=some p): ∃q,(jm (fz false n) cs).run h nx=some q∧p.1= .agg q.1:=by
 have r:((jm (fz false n) cs).bind fun q=>Q.ret (T.agg q.1,q.2)).run h nx=some p:=r
 rw[Q.run_bind]at r
 cases D:(jm (fz false n) cs).run h nx with
 |none=>simp[D]at r
 |some q=>
  grind [Q.run,Option.some.injEq]
theorem akP{r t y:T}{us:List Up}{h:Sp→Nat→iy}{nx j:Nat}(D:(fz false iT (iY r j .nilsl)).run h nx=some (t,us))(H:l6 r j=some y):okC t j:=by
 cases r
 case tup vs=>
  by_cases I:j<100
  ·simp only[iY,I,if_true]at D
   have D:((jm (fz false 7) (vs.set j .nilsl)).bind fun q=>Q.ret (T.tup q.1,q.2)).run h nx=some (t,us):=D
   rw[Q.run_bind]at D
   cases F:(jm (fz false 7) (vs.set j .nilsl)).run h nx with
   |none=>simp[F]at D
   |some q=>
    simp only[F,Option.bind_some,Q.run,Option.some.injEq,Prod.mk.injEq]at D
    obtain⟨rfl,rfl⟩:=D
    exact .inl I
  ·simp only[l6,I,if_false]at H
   cases hi:vs[j/100-1]? with
   |none=>grind
   |some J=>
    rw[hi]at H
    cases J <;> try (simp only at H;cases H;done)
    rename_i cs
    simp only[iY,I,if_false,hi]at D
    have D:((jm (fz false 7) (vs.set (j/100-1) (.agg (cs.set (j%100) .nilsl)))).bind fun q=>Q.ret (T.tup q.1,q.2)).run h nx=some (t,us):=D
    rw[Q.run_bind]at D
    cases F:(jm (fz false 7) (vs.set (j/100-1) (.agg (cs.set (j%100) .nilsl)))).run h nx with
    |none=>simp[F]at D
    |some q=>
     simp only[F,Option.bind_some,Q.run,Option.some.injEq,Prod.mk.injEq]at D
     obtain⟨rfl,rfl⟩:=D
     obtain⟨p,N,O⟩:=I3 _ F (List.getElem?_set_self (List.getElem?_eq_some_iff.1 hi).1)
     obtain⟨U,_,e⟩:=I4 N
     exact .inr ⟨U.1,by rw[O,e]⟩
 case agg vs=>
  simp only[iY]at D
  obtain⟨q,_,e⟩:=I4 (n:=7) D
  rw[show t=_ from e]
  trivial
 case any=>simp[l6]at H
 all_goals
  simp[iY,iT,fz,Q.run]at D
  obtain⟨rfl,rfl⟩:=D
  trivial
theorem adh{r t:T}{us:List Up}{h:Sp→Nat→iy}{nx j:Nat}(D:(fz false iT r).run h nx=some (t,us))(F:l6 r j=some .nilsl):l6 t j=some .nilsl:=by
 cases r
 case tup vs=>
  have D:((jm (fz false 7) vs).bind fun q=>Q.ret (T.tup q.1,q.2)).run h nx=some (t,us):=D
  rw[Q.run_bind]at D
  cases H:(jm (fz false 7) vs).run h nx with
  |none=>simp[H]at D
  |some q=>
   simp only[H,Option.bind_some,Q.run,Option.some.injEq,Prod.mk.injEq]at D
   obtain⟨rfl,rfl⟩:=D
   simp only[l6]at F ⊢
   by_cases I:j<100
   ·rw[if_pos I]at F ⊢
    exact Am OJ vs H F
   ·rw[if_neg I]at F ⊢
    cases hi:vs[j/100-1]? with
    |none=>grind
    |some J=>
     rw[hi]at F
     cases J <;> try (simp only at F;cases F;done)
     rename_i cs
     obtain⟨p,N,O⟩:=I3 _ H hi
     obtain⟨W,U,V⟩:=I4 N
     rw[O,V]
     exact Am OJ cs U F
 case agg vs=>
  have D:((jm (fz false 7) vs).bind fun q=>Q.ret (T.agg q.1,q.2)).run h nx=some (t,us):=D
  rw[Q.run_bind]at D
  cases H:(jm (fz false 7) vs).run h nx with
  |none=>simp[H]at D
  |some q=>
   simp only[H,Option.bind_some,Q.run,Option.some.injEq,Prod.mk.injEq]at D
   obtain⟨rfl,rfl⟩:=D
   exact Am OJ vs H F
 all_goals
  simp only[l6,Option.some.injEq]at F
  try (cases F;done)
 simp[iT,fz,Q.run]at D
 obtain⟨rfl,rfl⟩:=D
 rfl
theorem Fi(hE:vO P E)(hm:P.follows .mixedOrders=true){m:Nat}(hO:Ai P E (kM E m)){f:Nat}{af:iC}{args:List T}{sh:List iy}{r:T}{X:List iy}(Dp:E.fn f=some af)(D:kM E (m+1) f args sh=some (r,X))
  {w:World} {β:jf} {M:iP} {cargs:Array Value} (Cx:jo ⟨w,M,mn sh β⟩ (bare .nil sh) w β M) (Y:iF β (bare .nil sh).gens w M args cargs.toList) {Q:Ending→World→Prop}
  (hQ: ∀I F w' O M' v,jo ⟨w,M,mn sh β⟩ I w' O M'→uS af.own af.eff F I=some (r,X)→iE O I.gens w' M' (pack F) v→Tr (bare (qx args) sh) w β M I w' O M'→Q (.returned v) w'):Calls P f cargs w Q:=by
  obtain⟨hs,fn,hf,BN⟩:=hE.1 f af Dp
  simp only[kM,Dp]at D
  split at D
  ·cases D
  ·rename_i hlen
   unfold Hj at BN
   split at BN
   ·cases BN
   ·split at BN
    ·cases BN
    ·rename_i code Z
     split at BN
     ·rename_i ac V h1 h2
      simp at BN
      have hV:iF β (bare (qx args) sh).gens w M args cargs.toList:=Y
      have ls:=iF.length _ _ hV
      have hn:fn.ntmps=af.n:=by rw[←BN]
      have auc:af.code=ac:=by rw[←BN]
      have Ac:af.res=V:=by rw[←BN]
      rw[auc]at D
      cases H:nS E (kM E m) m af.n ac {fr:=qx args,lh:= .nil,sh}with
      |none=>simp[H]at D
      |some p=>
       obtain⟨o,I⟩:=p
       have GK:o≠ .nrm→o≠ .ret→False:=by
        intro n1 n2
        cases o with
        |nrm=>exact n1 rfl
        |ret=>exact n2 rfl
        |ext id=>simp[H]at D
       have BQ: ∃F,oV I af.res=some F∧uS af.own af.eff F I=some (r,X):=by
        cases o with
        |nrm=>
         simp only[H]at D
         split at D
         ·rename_i F hv
          exact⟨F,hv,D⟩
         ·cases D
        |ret=>
         simp only[H]at D
         split at D
         ·rename_i F hv
          exact⟨F,hv,D⟩
         ·cases D
        |ext id=>exact(GK (by simp) (by simp)).elim
       obtain⟨J,aBm,BQ⟩:=BQ
       have hF:pt (bare (qx args) sh) {tmps:=cargs++Array.replicate (fn.ntmps-cargs.size) undef,defers:= []} w β M af.n:=by
        refine⟨by simp at ls ⊢; omega,rfl,fun t=>Tf hV _ t⟩
       refine calls_of_wp hf Z ?_
       refine akN (n:=af.n) hE hO hm m code ac h1 (B:=⟨w,M,mn sh β⟩) (st:=bare (qx args) sh) (ac8 Cx (qx args)) hF H ?_
       intro a' w' O M' r1 r2 r3 r4
       have post:a'.defers= []∧ ∃v,(results fn a'.tmps).run P w'= .ok v w'∧Q (.returned v) w':=by
        refine⟨r2.defers, ?_⟩
        have W:=aBm
        rw[Ac]at W
        obtain⟨N,q1,U⟩:=yO (P:=P) r1 r2 fn.results.toList V J h2 W
        have aud:(results fn a'.tmps).run P w'= .ok (if hh:N.toArray.size=1 then N.toArray[0]else .tuple N.toArray) w':=by
         rw[OI]
         simp only[Sem.run_bind,Sem.run_map,q1,Result.andThen_ok,Sem.run_pure]
        have X4:iE O I.gens w' M' (pack J) (if hh:N.toArray.size=1 then N.toArray[0]else .tuple N.toArray):=by
         have NW:=iF.length _ _ U
         cases J with
         |nil=>
          simp only[iF]at U;subst U
          simp[pack,iE,iF]
         |cons v F=>
          cases F with
          |nil=>
           simp only[iF]at U
           obtain⟨u,us,rfl,k1,rfl⟩:=U
           simpa[pack]using k1
          |cons v2 F=>
           have:N.toArray.size≠1:=by simp at NW ⊢; omega
           rw[dif_neg this]
           simp only[pack,iE]
           exact⟨_,rfl,by simpa using U⟩
        exact⟨_,aud,hQ I J w' O M' _ r1 BQ X4 r3⟩
       cases o with
       |nrm=>exact post
       |ret=>exact post
       |ext id=>exact(GK (by simp) (by simp)).elim
     ·cases BN
theorem CI(r:Bool)(D:List T)(st:St):answer r D st=match(fz r iT (pack D)).run st.get st.sh.length with
 |some p=>some (p.1,(st.ups p.2).sh)
 |none=>none:=by
 cases D with
 |nil=>rfl
 |cons v D=>cases D <;> rfl
theorem I5(j:Nat)(r:List T)(st:St):sR j r st=match l6 (pack r) j with
 |some .nilsl=>answer false r st
 |some (.isl .L k g 0 len sz)=>
  (match(fz false iT (iY (pack r) j .nilsl)).run st.get st.sh.length with
  |some p=>(match(st.ups p.2).get .L k with
   |⟨D,.cells cs wm false⟩=>if D=g∧cs.length=len*sz∧len≠0∧(wm=0∨sQ (iY p.1 j .nilsl)=true)then some (iY p.1 j (.sl cs len false),(st.ups p.2).sh)else none
   |_=>none)
  |none=>none)
 |_=>none:=by
 cases r with
 |nil=>rfl
 |cons v r=>cases r <;> rfl
theorem HD{B:mQ}{D:St}{J:List T}{w':World}{H:jf}{M':iP}{v:Value}{F:Bool}{r:T}{N:List iy}(O:jo B D w' H M')(I:answer F J D=some (r,N))(X4:iE H D.gens w' M' (pack J) v):
  ∃M2 us,jo B (D.ups us) w' H M2∧(D.ups us).gens=D.gens∧N=(D.ups us).sh∧uV F H D.gens w' M2 r v:=by
 rw[CI]at I
 split at I
 ·rename_i p U
  obtain⟨V,us⟩:=p
  simp at I
  obtain⟨rfl,rfl⟩:=I
  obtain⟨M2,W,X,Z,Y,z5⟩:=Cy F D iT _ _ D w' H M' _ V us _ (Fz.refl D) O X4 U
  exact⟨M2,us,W,X.gens,rfl,Y⟩
 ·cases I
theorem L7(hE:vO P E)(hm:P.follows .mixedOrders=true): ∀m,Ai P E (kM E m)
 |0=>by
  intro f af args sh r jk Dp U
  simp[kM]at U
 |m+1=>by
  have hO:=L7 hE hm m
  intro f af args sh r jk Dp iI
  refine⟨fun yM=> ?_,fun j yM=> ?_⟩
  ·intro w β M N Cx H
   refine Fi hE hm hO Dp iI Cx (pw.toV H) ?_
   intro F vs w' I M' v r1 D hv r3
   rw[yM]at D
   obtain⟨M2,us,O,z2,rfl,J⟩:=HD r1 D hv
   refine⟨v,I,M2,rfl,IX O .nil,fun k g hg=>r3.beta .S k g hg,fun k=> ?_, ?_⟩
   ·have e1:(iM (F.ups us).sh k).g=(F.ups us).gens .S k:=rfl
    rw[e1,z2]
    exact r3.gens .S k
   ·have V: ∀k,(bare .nil (F.ups us).sh).gens .S k=F.gens .S k:=by
     intro k
     have e1:(bare .nil (F.ups us).sh).gens .S k=(F.ups us).gens .S k:=rfl
     rw[e1,z2]
    cases W:af.eff with
    |false=>rw[W]at J;exact J
    |true=>
     rw[W]at J
     intro b g p q
     exact J b g (fun k x hx=>p k x (by rw[V];exact hx)) (fun k=>by rw[←V];exact q k)
  ·have W:af.eff=false:=by
    grind [kM,uS]
   refine⟨W, ?_⟩
   intro w β M N Cx H
   refine Fi hE hm hO Dp iI Cx (pw.toV H) ?_
   intro F vs w' I M' v r1 D hv r3
   rw[yM,W]at D
   have D:sR j vs F=some (r,jk):=by simpa[uS]using D
   rw[I5]at D
   split at D
   ·rename_i U
    obtain⟨M2,us,O,z2,rfl,J⟩:=HD r1 D hv
    refine⟨v,I,M2,rfl,IX O .nil,.inl ⟨?_,J⟩⟩
    grind [CI,adh]
   ·rename_i k g len sz U
    split at D
    ·rename_i p hz
     obtain⟨t',us⟩:=p
     have hn:iE I F.gens w' M' .nilsl qa:=by simp only[iE]
     obtain⟨⟨x,hx,X⟩,IP⟩:=XN hv U hn rfl
     obtain⟨M2,O,z2,z3,J,z5⟩:=Cy false F iT _ _ F w' I M' _ t' us _ (Fz.refl F) r1 IP hz
     dsimp only at D
     split at D
     ·rename_i g' cs wm GL
      split at D
      ·rename_i CE
       obtain⟨rfl,ls,Cz,LR⟩:=CE
       simp at D
       obtain⟨rfl,rfl⟩:=D
       simp only[iE]at X
       obtain⟨aGK,cap,rfl,hlc,hcx⟩:=X
       have ho:=O.obj .L k
       rw[GL]at ho
       unfold lM at ho
       obtain⟨c,el,fzz,o1,o2,o3,o4,o5,o6,o7,o8⟩:=ho
       dsimp only at o1 o2 o3 o4 o5 o6
       subst o4
       have Y:=fun(b:jf) (G:Sp→Nat→Nat)=>XO (cs:=cs) (len:=len) (ex:=false) (akP hz U) (PRel.toV b G _ _ J) hx
       have Hq:live ((F.ups us).get .L k):=by rw[GL];trivial
       have GO:(F.ups us).gens .L k=g':=by show((F.ups us).get .L k).g=g';rw[GL]
       have Z:=O.lblk k Hq
       rw[GO]at Z
       refine⟨v,I,M2,rfl,IX O .nil,.inr ⟨cs,len,(Y I F.gens).1,I .L k g',sz,cap,c,el,Z,o1,o2,o3,o5, ?_,o7,ls,Cz,hlc,by simpa using hcx,hx,fun b G=>(Y b G).2⟩⟩
       rcases LR with rfl|LR
       ·exact .inr fun i hi=>o6 i (Nat.zero_le _) hi
       ·exact .inl (by rw[OA _ _ _ _ rfl];exact LR)
      ·cases D
     ·cases D
    ·cases D
   ·cases D
end
theorem pure_call{P:Program}{E:Env}(V:vO P E)(J:P.follows .mixedOrders=true){m f:Nat}{af:iC}(Dp:E.fn f=some af)(W:af.eff=false)(X:af.own=none){args:List T}{r:T}{N:List iy}(Y:kM E m f args []=some (r,N))(w:World)(D:Array Value)
  (H:PList w (fun _ _=>False) args D.toList):Calls P f D w fun e w'=> ∃cv,e= .returned cv∧RowKit.Below w.heap.size w w'∧PRel w' (fun _ _=>False) r cv:=by
 have O:=(L7 V J m f af args [] r N Dp Y).1 X
 rw[W]at O
 let β:jf:=fun _ _ _=>⟨0,0,0⟩
 have Z: ∀b,¬mn [] β b:=by rintro b ⟨k,F,_⟩;simp[iM,iN]at F;exact F.elim
 have Cx:jo ⟨w,fun _ _=>False,mn [] β⟩ (bare .nil []) w β (fun _ _=>False):=by
  have e: ∀sp k,(bare .nil []).get sp k=mN:=by intro sp k;cases sp <;> simp[bare,St.get,iM,iN,iL.get_nil]
  refine⟨fun sp k=> ?_,fun sp k lp k' U _ _=> ?_,fun _ _ h=>h.elim,fun k F=> ?_,fun k F=> ?_,rfl,rfl,rfl,Nat.le_refl _,fun _ _ _=>rfl,lG.refl _ _,fun _ _ _ _ J=>J⟩
  ·grind [lM,mN]
  ·rw[e]at U;exact U.elim
  ·rw[e]at F;exact F.elim
  ·rw[e]at F;exact F.elim
 refine(O w β _ D Cx H).mono ?_
 rintro e w' ⟨cv,jj,M',rfl,I,_,_,hr⟩
 refine⟨cv,rfl,⟨I.os,I.tape,I.output,I.size,fun b hb=>I.same b hb (Z b)⟩, ?_⟩
 exact PRel.mono (kY (fun _ _ h=>h.elim)) _ _ hr
end Go.Ev
namespace Go.Ev
open Go
inductive Hk where
 |nil
 |nd (l:Hk) (k:Nat) (v:iC) (r:Hk)
def Hk.find:Hk→Nat→Option iC
 | .nil,_=>none
 | .nd l k v r,f=>bif Nat.beq f k then some v else bif Nat.ble f k then l.find f else r.find f
def Hk.All(p:Nat→iC→Prop):Hk→Prop
 | .nil=>True
 | .nd l k v r=>Hk.All p l∧p k v∧Hk.All p r
theorem Hk.all_find{p:Nat→iC→Prop}{f:Nat}{v:iC}: ∀{t:Hk},Hk.All p t→t.find f=some v→p f v
 | .nil,_,h=>by simp[Hk.find]at h
 | .nd l k u r,H,h=>by
   obtain⟨I,J,N⟩:=H
   simp only[Hk.find]at h
   cases D:Nat.beq f k with
   |true=>
    rw[D,cond_true]at h
    have:f=k:=Nat.eq_of_beq_eq_true D
    subst this
    cases h;exact J
   |false=>
    rw[D,cond_false]at h
    cases F:Nat.ble f k with
    |true=>rw[F,cond_true]at h;exact Hk.all_find I h
    |false=>rw[F,cond_false]at h;exact Hk.all_find N h
def IF(P:Program)(f:Nat)(af:iC):Prop:= ∃hs r,P.funcs[f]? =some r∧Hj P hs af.eff r=some af
theorem codeOk{P:Program}{f:Nat}{af:iC}{hs:List Nat}{r:Func}(h:P.funcs[f]? =some r)(k:Hj P hs af.eff r=some af):IF P f af:=⟨hs,r,h,k⟩
def ExtOk(P:Program)(f:Nat)(g:List T→Option T):Prop:=
 (∃F,P.funcs[f]? =some F∧(F.name== "runtime.NumGoroutine")=false∧F.body.isSome=true)∧
   ∀args r,g args=some r→ ∀(w:World) (M:iP) (D:Array Value),(∀b o,M b o→b<w.heap.size)→PList w M args D.toList→
    Calls P f D w fun e w'=> ∃cv,e= .returned cv∧RowKit.Below w.heap.size w w'∧PRel w' (fun b _=>b<w.heap.size) r cv
theorem aq0{P:Program}{t:Hk}{x:Nat→Option (List T→Option T)}{y:Nat→Option (List T→Option (List T×Option Nat))}(h:Hk.All (IF P) t)(F: ∀f g,x f=some g→ExtOk P f g)
  (H: ∀f g,y f=some g→(∃r,P.funcs[f]? =some r∧(r.name== "runtime.NumGoroutine")=false∧r.body.isSome=true)∧atS P f g):vO P ⟨t.find,x,y⟩:=
 ⟨fun f af I=>Hk.all_find h I,fun f g _ D=>F f g D,fun f g _ _ D=>H f g D⟩
noncomputable abbrev aug(E:Env)(m f:Nat)(args:List T)(sh:List iy):Option (T×List iy):=kM E m f args sh
theorem kN{E:Env}{m f:Nat}{args:List T}{sh:List iy}{r:Option (T×List iy)}(h:aug E m f args sh=r):kM E m f args sh=r:=h
end Go.Ev
