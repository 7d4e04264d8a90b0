/- A tree evaluator over the model, proved against it (part D): where it answers, the call returns that answer. Conditions: none beyond its theorems' own. -/
import Derived.Test.YtcpceiclnbmgiaaGreatEvC
set_option linter.unusedSimpArgs false
set_option linter.unusedVariables false
namespace Go.Ev
open Go
def bare(fr:Fr)(sh:List b8):St:={fr,lh:= .nil,sh}
theorem Da(fr:Fr)(sh:List b8)(k:Nat):(bare fr sh).get .L k=lG:=by simp[bare,St.get,gY,ig,gW.get_nil]
theorem kF.shared{β iC:iA}{G G':Sp→Nat→Nat}{w:World}{M:ic}{k:Nat}{e:b8}(EG: ∀n g,g≤G .S n→iC .S n g=β .S n g)(r: ∀n,G .S n≤G' .S n)(D:e.g≤G .S k)(h:kF β G w M .S k e):kF iC G' w M .S k e:=by
 unfold kF at h ⊢
 rw[EG k _ D]
 obtain⟨g,ob⟩:=e
 cases ob with
 |none=>trivial
 |cells cs wm bx=>
  obtain⟨c,el,fz,F,H,I,J,i,N,O⟩:=h
  refine⟨c,el,fz,F,H,I,J, ?_,N,O⟩
  cases bx
  ·exact i
  ·exact xM.mono (ku.refl w M) EG r i
 |map ks U fz=>exact h
theorem GR{B:lK}{st:St}{w:World}{β:iA}{M:ic}(h:iH B st w β M)(fr:Fr):iH B (bare fr st.sh) w β M:=by
 refine⟨fun sp k=> ?_,fun sp k F k' r D H=> ?_,h.mlt,fun k i=> ?_,fun k i=>h.sblk k i,h.os,h.tape,h.output,h.size,h.same,h.keep,h.msup⟩
 ·cases sp with
  |L=>grind [kF,lG,Da]
  |S=>exact kF.shared (G:=st.gens) (β:=β) (fun _ _ _=>rfl) (fun _=>Nat.le_refl _) (Nat.le_refl _) (h.obj .S k)
 ·cases sp with
  |L=>rw[Da]at r;exact r.elim
  |S=>
   cases F with
   |L=>rw[Da]at D;exact D.elim
   |S=>exact h.dist .S k .S k' r D H
 ·rw[Da]at i;exact i.elim
def kZ(sh:List b8)(β:iA)(b:Nat):Prop:= ∃k,live (gY sh k)∧(β .S k (gY sh k).g).blk=b
theorem Z3{B:lK}{st:St}{w:World}{β:iA}{M:ic}(h:iH B st w β M)(fr:Fr):iH ⟨w,M,kZ st.sh β⟩ (bare fr st.sh) w β M:=by
 have r:=GR h fr
 refine⟨r.obj,r.dist,h.mlt,fun k i=> ?_,fun k i=> .inl ⟨k,i,rfl⟩,rfl,rfl,rfl,Nat.le_refl _,fun _ _ _=>rfl,ku.refl w M,fun _ _ _ _ D=>D⟩
 rw[Da]at i;exact i.elim
theorem Uw{B:lK}{st:St}{w:World}{β:iA}{M:ic}(h:iH B st w β M)(fr:Fr):iH ⟨w,M,fun _=>False⟩ (bare fr []) w β M:=by
 have e: ∀sp k,(bare fr []).get sp k=lG:=by intro sp k;cases sp <;> simp[bare,St.get,gY,ig,gW.get_nil]
 refine⟨fun sp k=> ?_,fun sp k F k' r _ _=> ?_,h.mlt,fun k i=> ?_,fun k i=> ?_,rfl,rfl,rfl,Nat.le_refl _,fun _ _ _=>rfl,ku.refl w M,fun _ _ _ _ D=>D⟩
 ·grind [kF,lG]
 ·rw[e]at r;exact r.elim
 ·rw[e]at i;exact i.elim
 ·rw[e]at i;exact i.elim
theorem JB{B:lK}{st:St}{w w':World}{β:iA}{M:ic}(h:iH B st w β M)(D:w'.os=w.os)(F:w'.tape=w.tape)(Qu:w'.output=w.output)(I:w.heap.size≤w'.heap.size)(r: ∀b,b<w.heap.size→w'.heap[b]? =w.heap[b]?):
  iH B st w' β M∧Tr st w β M st w' β M:=by
 have hk:ku w M w' M:=⟨fun b o v i _=>by rw[nM (w:=w) (r b (xL i))];exact i,fun b es c i _=>by rw[r b (qU i)];exact i,fun _ _ _ h=>h⟩
 refine⟨⟨fun sp k=> ?_,h.dist,fun b o H=>Nat.lt_of_lt_of_le (h.mlt b o H) I,h.lblk,h.sblk,D.trans h.os,F.trans h.tape,Qu.trans h.output,Nat.le_trans h.size I,fun b J N=>(r b (Nat.lt_of_lt_of_le J h.size)).trans (h.same b J N),h.keep.trans hk h.size,h.msup⟩,hk,fun _ _ _ _=>rfl,fun _ _=>Nat.le_refl _⟩
 exact kF.mono hk (fun _ _ _ _=>rfl) (fun _ _=>Nat.le_refl _) (Nat.le_refl _) (fun O=>r _ (h.lt O)) (fun _ _ H=>H) (h.obj sp k)
theorem ag1{B:lK}{st:St}{w w':World}{β iC:iA}{M M':ic}{iE:List b8}(h:iH B st w β M)(i:iH ⟨w,M,kZ st.sh β⟩ (bare .nil iE) w' iC M')(EG: ∀n g,g≤st.gens .S n→iC .S n g=β .S n g)(hG: ∀n,st.gens .S n≤(gY iE n).g):
  iH B {st with sh:=iE} w' (fun sp k g=>match sp with| .L=>β .L k g| .S=>iC .S k g) M'∧Tr st w β M {st with sh:=iE} w' (fun sp k g=>match sp with| .L=>β .L k g| .S=>iC .S k g) M':=by
 have W: ∀k,({st with sh:=iE}:St).get .L k=st.get .L k:=fun k=>rfl
 have X: ∀k,({st with sh:=iE}:St).get .S k=gY iE k:=fun k=>rfl
 have Uq: ∀sp k g,g≤st.gens sp k→(fun(sp:Sp) k g=>match sp with| .L=>β .L k g| .S=>iC .S k g:iA) sp k g=β sp k g:=by
  grind
 have FH: ∀sp k,st.gens sp k≤({st with sh:=iE}:St).gens sp k:=by
  grind
 have notS: ∀k,live (st.get .L k)→ ¬kZ st.sh β (β .L k (st.gens .L k)).blk:=by
  rintro k r ⟨k',J,D⟩
  have:=h.dist .S k' .L k J r D
  cases this.1
 have Y: ∀b,kZ st.sh β b→B.SB b∨B.w.heap.size≤b:=by
  rintro b ⟨k,r,rfl⟩
  exact h.sblk k r
 have N: ∀k,live (gY iE k)→B.SB (iC .S k (gY iE k).g).blk∨B.w.heap.size≤(iC .S k (gY iE k).g).blk:=by
  intro k r
  rcases i.sblk k r with e|e
  ·exact Y _ e
  ·exact .inr (Nat.le_trans h.size e)
 refine⟨⟨fun sp k=> ?_,fun sp k V k' F H D=> ?_,i.mlt,fun k r=>h.lblk k r,fun k r=>N k r,i.os.trans h.os,i.tape.trans h.tape,i.output.trans h.output,Nat.le_trans h.size i.size,fun b I O=> ?_,h.keep.trans i.keep h.size,fun b o I O Z=> ?_⟩,i.keep,Uq,FH⟩
 ·cases sp with
  |L=>
   refine kF.mono i.keep Uq FH (Nat.le_refl _) (fun r=> ?_) (fun r o hm=> ?_) (h.obj .L k)
   ·exact i.same _ (h.lt r) (notS k r)
   ·exact i.msup _ o (h.lt r) (notS k r) hm
  |S=>exact kF.shared (G:=(bare .nil iE).gens) (β:=iC) (fun _ _ _=>rfl) (fun _=>Nat.le_refl _) (Nat.le_refl _) (i.obj .S k)
 ·cases sp with
  |L=>
   cases V with
   |L=>exact h.dist .L k .L k' F H D
   |S=>
    exfalso
    have NT:(β .L k (st.gens .L k)).blk=(iC .S k' (gY iE k').g).blk:=D
    rcases i.sblk k' H with e|e
    ·exact notS k F (by rw[NT];exact e)
    ·have:=h.lt (sp:= .L) (k:=k) F
     have e':w.heap.size≤(iC .S k' (gY iE k').g).blk:=e
     omega
  |S=>
   cases V with
   |L=>
    exfalso
    have NT:(iC .S k (gY iE k).g).blk=(β .L k' (st.gens .L k')).blk:=D
    rcases i.sblk k F with e|e
    ·exact notS k' H (by rw[←NT];exact e)
    ·have:=h.lt (sp:= .L) (k:=k') H
     have e':w.heap.size≤(iC .S k (gY iE k).g).blk:=e
     omega
   |S=>exact i.dist .S k .S k' F H D
 ·have U: ¬kZ st.sh β b:=fun hs=>by
   grind
  exact(i.same b (Nat.lt_of_lt_of_le I h.size) U).trans (h.same b I O)
 ·have U: ¬kZ st.sh β b:=fun hs=>by
   grind
  exact i.msup b o (Nat.lt_of_lt_of_le I h.size) U (h.msup b o I O Z)
def JC(M:ic)(S:Ji):ic:=fun b x=>M b x∨(b=S.blk∧S.off≤x∧x<S.off+S.ext)
theorem ag2{B:lK}{st:St}{w w':World}{β:iA}{M:ic}(h:iH B st w β M)(W:w'.os=w.os)(X:w'.tape=w.tape)(Qu:w'.output=w.output)(oR:w.heap.size≤w'.heap.size)(r: ∀b,b<w.heap.size→w'.heap[b]? =w.heap[b]?)
  (k g:Nat) (hg:st.gens .L k<g) (S:Ji) (hS:w.heap.size≤S.blk) (hS2:S.blk<w'.heap.size) (ob:Ob)
  (ho:kF (mW β .L k g S) (st.up (.L,k,⟨g,ob⟩)).gens w' (JC M S) .L k ⟨g,ob⟩):
  iH B (st.up (.L,k,⟨g,ob⟩)) w' (mW β .L k g S) (JC M S)∧Tr st w β M (st.up (.L,k,⟨g,ob⟩)) w' (mW β .L k g S) (JC M S):=by
 have hk:ku w M w' (JC M S):=⟨fun b o v F _=>by rw[nM (w:=w) (r b (xL F))];exact F,fun b es c F _=>by rw[r b (qU F)];exact F,fun b x H hm=>hm.resolve_right (fun e=>by have:=e.1;omega)⟩
 have H: ∀i k' Y,Y≤st.gens i k'→mW β .L k g S i k' Y=β i k' Y:=by
  grind [xO]
 have hG: ∀i k',st.gens i k'≤(st.up (.L,k,⟨g,ob⟩)).gens i k':=by
  intro i k'
  rw[kY]
  grind
 have V: ∀i k',(mW β .L k g S i k' ((st.up (.L,k,⟨g,ob⟩)).gens i k'))=if i= .L∧k'=k then S else β i k' (st.gens i k'):=by
  grind [kY,jr]
 refine⟨⟨fun i k'=> ?_,fun Z k1 sp2 k2 I J N=> ?_,fun b x hm=> ?_,fun k' D=> ?_,fun k' D=> ?_,W.trans h.os,X.trans h.tape,Qu.trans h.output,Nat.le_trans h.size oR,fun b H hn=> ?_,h.keep.trans hk h.size,fun b x h1 h2 h3=> .inl (h.msup b x h1 h2 h3)⟩,hk,H,hG⟩
 ·rw[lN]
  split
  ·grind
  ·exact kF.mono hk H hG (Nat.le_refl _) (fun D=>r _ (h.lt D)) (fun _ _ hm=> .inl hm) (h.obj i k')
 ·rw[V,V]at N
  rw[lN]at I J
  by_cases O:Z= .L∧k1=k <;> by_cases U:sp2= .L∧k2=k
  ·grind
  ·rw[if_pos O,if_neg U]at N;rw[if_neg U]at J
   have:=h.lt J;omega
  ·rw[if_neg O,if_pos U]at N;rw[if_neg O]at I
   have:=h.lt I;omega
  ·rw[if_neg O,if_neg U]at N;rw[if_neg O]at I;rw[if_neg U]at J
   exact h.dist _ _ _ _ I J N
 ·rcases hm with hm|hm
  ·exact Nat.lt_of_lt_of_le (h.mlt b x hm) oR
  ·grind
 ·rw[V];rw[lN]at D
  split
  ·exact Nat.le_trans h.size hS
  ·rename_i e;rw[if_neg e]at D;exact h.lblk k' D
 ·rw[V];rw[lN]at D
  rw[if_neg (by rintro⟨e,_⟩;cases e)]at D ⊢
  exact h.sblk k' D
 ·have:=h.size
  rw[r b (by omega)];exact h.same b H hn
theorem vd{w w':World}{M M':ic}: ∀{cs:List T} {i:List Value},cs.all qR=true→PList w M cs i→PList w' M' cs i
 | [],i,_,h=>by grind [PList]
 |t::ts,i,hs,h=>by
  simp only[List.all_cons,Bool.and_eq_true]at hs
  simp only[PList]at h ⊢
  obtain⟨u,us,rfl,r,D⟩:=h
  refine⟨u,us,rfl, ?_,vd hs.2 D⟩
  have F:=hs.1
  cases t <;> simp[qR]at F <;> simpa only[PRel]using r
def NV:Value→Nat→Option Value
 | .tuple a,j=>if j<100 then a[j]? else match a[j/100-1]? with
   |some (.agg b)=>b[j%100]?
   |_=>none
 | .agg a,j=>a[j]?
 |v,_=>some v
def pH:Value→Nat→Value→Value
 | .tuple a,j,x=>if j<100 then .tuple (a.setIfInBounds j x)else match a[j/100-1]? with
   |some (.agg b)=> .tuple (a.setIfInBounds (j/100-1) (.agg (b.setIfInBounds (j%100) x)))
   |_=> .tuple a
 | .agg a,j,x=> .agg (a.setIfInBounds j x)
 |_,_,x=>x
abbrev oE:Value:= .slice none 0 0
section
variable{β:iA}{G:Sp→Nat→Nat}{w:World}{M:ic}
theorem gO.set: ∀{ts:List T} {i:List Value} (j:Nat) {t:T} {v:Value},gO β G w M ts i→fy β G w M t v→gO β G w M (ts.set j t) (i.set j v)
 | [],i,j,t,v,h,_=>by grind [gO]
 |t::ts,i,0,D,F,h,r=>by
  grind [gO]
 |t::ts,i,j+1,D,F,h,r=>by
  simp only[gO]at h;obtain⟨u,us,rfl,H,I⟩:=h
  simp only[List.set_cons_succ,gO]
  exact⟨_,_,rfl,H,gO.set j I r⟩
theorem yf{cs:List T}{j:Nat}{t:T}(h:cs.all single=true)(i:single t=true):(cs.set j t).all single=true:=by
 grind
theorem Db{cs:List T}{j:Nat}{t u:T}(h:(cs.set j u).all single=true)(i:single t=true):(cs.set j t).all single=true:=by
 have:=yf (j:=j) h i
 simp_all
theorem Ux{r y t:T}{v u:Value}{j:Nat}(h:fy β G w M r v)(i:kO r j=some y)(D:fy β G w M t u)(hs:single t=true):
  (∃x,NV v j=some x∧fy β G w M y x)∧fy β G w M (iv r j t) (pH v j u):=by
 cases r
 case tup vs=>
  simp only[fy]at h;obtain⟨a,rfl,F⟩:=h
  simp only[kO]at i
  by_cases Dc:j<100
  ·rw[if_pos Dc]at i
   obtain⟨x,H,I⟩:=F.get i
   refine⟨⟨x,by simpa[NV,Dc]using H,I⟩, ?_⟩
   simp only[iv,pH,fy,Dc,if_true]
   exact⟨_,rfl,by simpa using gO.set j F D⟩
  ·rw[if_neg Dc]at i
   cases hi:vs[j/100-1]? with
   |none=>grind
   |some V=>
    rw[hi]at i
    cases V <;> try (simp only at i;cases i;done)
    rename_i cs
    simp only at i
    obtain⟨x0,W,O⟩:=F.get hi
    simp only[fy]at O;obtain⟨b,rfl,U,X⟩:=O
    obtain⟨x,H,I⟩:=U.get i
    have J:a[j/100-1]? =some (.agg b):=by simpa using W
    refine⟨⟨x,by simpa[NV,Dc,J]using H,I⟩, ?_⟩
    simp only[iv,pH,Dc,if_false,hi,J,fy]
    refine⟨_,rfl, ?_⟩
    rw[Array.toList_setIfInBounds]
    refine gO.set _ F ?_
    simp only[fy]
    exact⟨_,rfl,by simpa using gO.set (j%100) U D,yf X hs⟩
 case agg cs=>
  simp only[fy]at h;obtain⟨a,rfl,F,N⟩:=h
  simp only[kO]at i
  obtain⟨x,H,I⟩:=F.get i
  refine⟨⟨x,by simpa[NV]using H,I⟩, ?_⟩
  simp only[iv,pH,fy]
  exact⟨_,rfl,by simpa using gO.set j F D,yf N hs⟩
 case any=>simp[kO]at i
 all_goals
  simp only[kO,Option.some.injEq]at i;subst i
  refine⟨⟨v, ?_,h⟩, ?_⟩
  ·simp only[fy,PRel]at h
   first
    |(subst h;rfl)
    |(obtain⟨_,rfl,_⟩:=h;rfl)
    |(obtain⟨_,_,rfl,_⟩:=h;rfl)
    |(obtain⟨_,_,_,rfl,_⟩:=h;rfl)
    |(obtain⟨_,_,_,_,rfl,_⟩:=h;rfl)
    |(obtain⟨_,rfl⟩:=h;rfl)
  ·simp only[fy,PRel]at h
   first
    |(subst h;exact D)
    |(obtain⟨_,rfl,_⟩:=h;exact D)
    |(obtain⟨_,_,rfl,_⟩:=h;exact D)
    |(obtain⟨_,_,_,rfl,_⟩:=h;exact D)
    |(obtain⟨_,_,_,_,rfl,_⟩:=h;exact D)
    |(obtain⟨_,rfl⟩:=h;exact D)
theorem uu{a:Array Value}{j:Nat}{x y:Value}(h:a[j]? =some x):(a.toList.set j y).set j x=a.toList:=by
 rw[List.set_set]
 have i:a.toList[j]? =some x:=by simpa using h
 grind [List.getElem?_eq_some_iff.1,List.set_getElem_self]
theorem Dd(a:Array Value)(j:Nat)(x:Value): ∃b,pH (.tuple a) j x= .tuple b:=by
 simp only[pH]
 split
 ·grind
 ·split <;> exact⟨_,rfl⟩
theorem De{v:Value}{j:Nat}(h: ∀a,pH v j oE≠ .tuple a)(i: ∀a,pH v j oE≠ .agg a):pH v j oE=oE∧NV v j=some v:=by
 cases v
 case tuple a=>obtain⟨b,r⟩:=Dd a j oE;exact absurd r (h _)
 all_goals first|exact⟨rfl,rfl⟩|exact absurd rfl (i _)
theorem Z4{r t:T}{cv x:Value}{j:Nat}(h:fy β G w M (iv r j .nilsl) (pH cv j oE))(hx:NV cv j=some x)(H:fy β G w M t x)(hs:single t=true):fy β G w M (iv r j t) cv:=by
 cases r
 case tup vs=>
  by_cases Dc:j<100
  ·simp only[iv,Dc,if_true,fy]at h ⊢
   obtain⟨a,i,D⟩:=h
   cases cv <;> simp[pH,Dc]at i
   rename_i a0
   subst i
   simp only[NV,Dc,if_true]at hx
   refine⟨a0,rfl, ?_⟩
   have:=gO.set j D H
   grind [List.set_set,Array.toList_setIfInBounds,uu]
  ·have J: ∃a0 b,cv= .tuple a0∧a0[j/100-1]? =some (.agg b)∧b[j%100]? =some x:=by
    cases cv
    case tuple a0=>
     grind [NV,hi]
    all_goals
     exfalso
     simp only[iv,Dc,if_false]at h
     split at h <;> (simp only[pH,fy]at h;obtain⟨_,h,_⟩:=h;cases h)
   obtain⟨a0,b,rfl,I,V⟩:=J
   simp only[pH,Dc,if_false,I]at h
   simp only[iv,Dc,if_false]at h ⊢
   split at h
   ·rename_i cs hi
    simp only[fy]at h ⊢
    obtain⟨a,i,D⟩:=h
    cases i
    refine⟨a0,rfl, ?_⟩
    have W:j/100-1<vs.length:=(List.getElem?_eq_some_iff.1 hi).1
    have F:fy β G w M (.agg (cs.set (j%100) .nilsl)) (.agg (b.setIfInBounds (j%100) oE)):=by
     obtain⟨x1,U,X⟩:=D.get (List.getElem?_set_self W)
     rw[Array.toList_setIfInBounds,List.getElem?_set_self (by have:=(Array.getElem?_eq_some_iff.1 I).1;simpa using this)]at U
     cases U;exact X
    have N:fy β G w M (.agg (cs.set (j%100) t)) (.agg b):=by
     simp only[fy]at F ⊢
     obtain⟨b1,Y,C1,Z⟩:=F
     cases Y
     refine⟨b,rfl, ?_,Db Z hs⟩
     have:=gO.set (j%100) C1 H
     rw[List.set_set,Array.toList_setIfInBounds,uu V]at this
     exact this
    have:=gO.set (j/100-1) D N
    rw[List.set_set,Array.toList_setIfInBounds,uu I]at this
    exact this
   ·simp only[fy]at h ⊢
    obtain⟨a,i,D⟩:=h
    cases i
    refine⟨a0,rfl, ?_⟩
    have:=gO.set (j/100-1) (t:= .any) (v:= .agg b) D (by simp only[fy])
    rw[List.set_set,Array.toList_setIfInBounds,uu I]at this
    exact this
 case agg cs=>
  simp only[iv,fy]at h ⊢
  obtain⟨a,i,D,O⟩:=h
  cases cv
  case tuple a'=>obtain⟨b,hb⟩:=Dd a' j oE;rw[hb]at i;cases i
  all_goals simp[pH]at i
  rename_i a0
  subst i
  simp only[NV]at hx
  refine⟨a0,rfl, ?_,Db O hs⟩
  have:=gO.set j D H
  grind [List.set_set,Array.toList_setIfInBounds,uu]
 case any=>simp only[iv,fy]
 all_goals
  simp only[iv,fy]at h ⊢
  obtain⟨h1,h2⟩:=De (v:=cv) (j:=j) (fun a e=>by rw[e]at h;cases h) (fun a e=>by rw[e]at h;cases h)
  rw[h2]at hx
  cases hx
  exact H
def okC:T→Nat→Prop
 | .any,_=>False
 | .tup i,j=>j<100∨ ∃cs,i[j/100-1]? =some (.agg cs)
 |_,_=>True
theorem Uy{p:T}{v x:Value}{j:Nat}{cs:List T}{len:Nat}{ex:Bool}(F:okC p j)(h:fy β G w M p (pH v j oE))(hx:NV v j=some x):
  kO (iv p j (.sl cs len ex)) j=some (.sl cs len ex)∧fy β G w M (iv (iv p j (.sl cs len ex)) j .nilsl) (pH v j oE):=by
 have H:fy β G w M .nilsl oE:=by simp only[fy]
 cases p
 case tup vs=>
  simp only[fy]at h
  obtain⟨a,i,r⟩:=h
  by_cases Dc:j<100
  ·cases v <;> simp[pH,Dc]at i
   rename_i a0
   subst i
   simp only[NV,Dc,if_true]at hx
   have LP:=gO.length _ _ r
   simp at LP
   obtain⟨U,_⟩:=Array.getElem?_eq_some_iff.1 hx
   refine⟨by simp only[iv,kO,Dc,if_true];rw[List.getElem?_set_self (by omega)], ?_⟩
   simp only[iv,pH,fy,List.set_set,Dc,if_true]
   refine⟨_,rfl, ?_⟩
   have:=gO.set j r H
   rw[Array.toList_setIfInBounds,List.set_set]at this
   rw[Array.toList_setIfInBounds];exact this
  ·have F:j<100∨ ∃cs,vs[j/100-1]? =some (.agg cs):=F
   obtain⟨Qv,hi⟩:=F.resolve_left Dc
   cases v
   case tuple a0=>
    simp only[NV,Dc,if_false]at hx
    cases hk:a0[j/100-1]? with
    |none=>grind
    |some V=>
     rw[hk]at hx
     cases V <;> try (simp only at hx;cases hx;done)
     rename_i b
     simp only at hx
     simp only[pH,Dc,if_false,hk]at i ⊢
     cases i
     have N:j/100-1<vs.length:=(List.getElem?_eq_some_iff.1 hi).1
     have D:fy β G w M (.agg Qv) (.agg (b.setIfInBounds (j%100) oE)):=by
      obtain⟨x1,O,W⟩:=r.get hi
      rw[Array.toList_setIfInBounds,List.getElem?_set_self (by have:=(Array.getElem?_eq_some_iff.1 hk).1;simpa using this)]at O
      cases O;exact W
     simp only[fy]at D
     obtain⟨b1,X,C1,Y⟩:=D
     cases X
     have I:=gO.length _ _ C1
     simp at I
     obtain⟨Z,_⟩:=Array.getElem?_eq_some_iff.1 hx
     refine⟨?_, ?_⟩
     ·simp only[iv,kO,Dc,if_false,hi]
      rw[List.getElem?_set_self N]
      simp only
      rw[List.getElem?_set_self (by omega)]
     ·simp only[iv,Dc,if_false,hi]
      rw[List.getElem?_set_self N]
      simp only[List.set_set,fy]
      refine⟨_,rfl, ?_⟩
      have h3:fy β G w M (.agg (Qv.set (j%100) .nilsl)) (.agg (b.setIfInBounds (j%100) oE)):=by
       simp only[fy]
       refine⟨_,rfl, ?_,yf Y rfl⟩
       have:=gO.set (j%100) C1 H
       rw[Array.toList_setIfInBounds,List.set_set]at this
       rw[Array.toList_setIfInBounds];exact this
      have:=gO.set (j/100-1) r h3
      rw[Array.toList_setIfInBounds,List.set_set]at this
      rw[Array.toList_setIfInBounds];exact this
   all_goals (simp only[pH]at i;cases i)
 case agg vs=>
  simp only[fy]at h
  obtain⟨a,i,r,J⟩:=h
  cases v
  case tuple a'=>obtain⟨b,hb⟩:=Dd a' j oE;rw[hb]at i;cases i
  all_goals simp[pH]at i
  rename_i a0
  subst i
  simp only[NV]at hx
  have LP:=gO.length _ _ r
  simp at LP
  obtain⟨U,_⟩:=Array.getElem?_eq_some_iff.1 hx
  refine⟨by simp only[iv,kO];rw[List.getElem?_set_self (by omega)], ?_⟩
  simp only[iv,pH,fy,List.set_set]
  refine⟨_,rfl, ?_,yf J rfl⟩
  have:=gO.set j r H
  rw[Array.toList_setIfInBounds,List.set_set]at this
  rw[Array.toList_setIfInBounds];exact this
 case any=>exact F.elim
 all_goals
  refine⟨rfl, ?_⟩
  simp only[iv]
  have hp:pH v j oE=oE:=by
   grind [fy,PRel,De]
  rw[hp];exact H
end
def Uz(P:Program)(f:Nat)(D:Bool)(args:List T)(sh:List b8)(r:T)(F:List b8):Prop:=
 ∀(w:World) (β:iA) (M:ic) (i:Array Value),iH ⟨w,M,kZ sh β⟩ (bare .nil sh) w β M→nN D β (bare .nil sh).gens w M args i.toList→
  Calls P f i w fun e w'=> ∃cv H M',e= .returned cv∧iH ⟨w,M,kZ sh β⟩ (bare .nil F) w' H M'∧(∀n g,g≤(gY sh n).g→H .S n g=β .S n g)∧(∀n,(gY sh n).g≤(gY F n).g)∧sS D H (bare .nil F).gens w' M' r cv
theorem LR(p x y:T)(j:Nat)(h:single x=true):iv (iv p j x) j y=iv p j y:=by
 cases p
 case tup vs=>
  by_cases i:j<100
  ·grind [iv,List.set_set]
  grind [iv,List.set_eq_of_length_le,hi,List.getElem?_set_self,List.set_set,List.getElem?_eq_none_iff.1,List.getElem?_eq_some_iff.1]
 case agg vs=>simp only[iv,List.set_set]
 all_goals first|(simp only[iv];done)|(simp only[iv];cases x <;> first|rfl|cases h)
def aqM(w w':World)(M:ic)(r:T)(j:Nat)(cs:List T)(len:Nat)(cv:Value):Prop:=
 ∃(S:Ji) (sz D:Nat) (c:Array Value) (el:TypeId),w.heap.size≤S.blk∧w'.heap[S.blk]? =some (.cells c el (0,0))∧S.off+S.ext≤c.size∧cs.length≤S.ext∧PList w' M cs ((c.toList.drop S.off).take cs.length)∧(qS (iv r j .nilsl)=true∨ ∀i,i<S.ext→M S.blk (S.off+i))∧
  cs.all single=true∧cs.length=len*sz∧len≠0∧len≤D∧D*sz≤S.ext∧NV cv j=some (.slice (some ⟨S.blk,S.off,none⟩) len D)∧ ∀β G,fy β G w' M (iv r j .nilsl) (pH cv j oE)
def Qw(P:Program)(f:Nat)(args:List T)(sh:List b8)(j:Nat)(r:T)(D:List b8):Prop:=
 ∀(w:World) (β:iA) (M:ic) (i:Array Value),iH ⟨w,M,kZ sh β⟩ (bare .nil sh) w β M→nN false β (bare .nil sh).gens w M args i.toList→
  Calls P f i w fun e w'=> ∃cv F M',e= .returned cv∧iH ⟨w,M,kZ sh β⟩ (bare .nil D) w' F M'∧
   ((kO r j=some .nilsl∧PRel w' M' r cv)∨ ∃cs len,kO r j=some (.sl cs len false)∧aqM w w' M' r j cs len cv)
def NW(i off r:Nat):Option Nat→Value
 |none=> .tuple #[]
 |some n=> .slice (some ⟨i,off,none⟩) n r
def aqN(P:Program)(f:Nat)(h:List T→Option (List T×Option Nat)):Prop:=
 (∀r,h []=some ([],r)→r.getD 0=0→ ∀w:World,Calls P f #[oE] w fun e w'=>e= .returned (match r with|none=> .tuple #[]|some _=>oE)∧RowKit.Below w.heap.size w w')∧
 ∀cs F r,h cs=some (F,r)→F.length=cs.length→ ∀(w:World) (M:ic) (i off D:Nat) (c:Array Value) (el:TypeId) (H:List Value),w.heap[i]? =some (.cells c el (0,0))→off+cs.length≤c.size→cs.length≤D→(c.toList.drop off).take cs.length=H→PList w M cs H→
  Calls P f #[.slice (some ⟨i,off,none⟩) cs.length D] w fun e w'=> ∃us,e= .returned (NW i off D r)∧PList w M F us∧RowKit.Below w.heap.size (setBlock w i (.cells (splice c.toList off us).toArray el)) w'
def tJ(P:Program)(E:Env):Prop:=
 (∀f af,E.fn f=some af→ ∃hs D,P.funcs[f]? =some D∧Fs P hs af.eff D=some af)∧
 (∀f g,E.fn f=none→E.ext f=some g→(∃D,P.funcs[f]? =some D∧(D.name== "runtime.NumGoroutine")=false∧D.body.isSome=true)∧
   ∀args r,g args=some r→ ∀(w:World) (M:ic) (i:Array Value),(∀b o,M b o→b<w.heap.size)→PList w M args i.toList→
    Calls P f i w fun e w'=> ∃cv,e= .returned cv∧RowKit.Below w.heap.size w w'∧PRel w' (fun b _=>b<w.heap.size) r cv)∧
 (∀f h,E.fn f=none→E.ext f=none→E.wr f=some h→(∃D,P.funcs[f]? =some D∧(D.name== "runtime.NumGoroutine")=false∧D.body.isSome=true)∧
   aqN P f h)
def yg(P:Program)(E:Env)(call:pw):Prop:= ∀f af args sh r i,E.fn f=some af→call f args sh=some (r,i)→(af.own=none→Uz P f af.eff args sh r i)∧(∀j,af.own=some j→af.eff=false∧Qw P f args sh j r i)
theorem Df{st iQ:St}{a:Act}{w w':World}{β iC:iA}{M M':ic}{n:Nat}{d:Option Nat}{v:T}{cv:Value}{fr:Fr}(i:nL st a w β M n)(F:Tr st w β M iQ w' iC M')(r:mN st.fr n d v=some fr)(H:fy iC iQ.gens w' M' v cv):
  nL {iQ with fr} (a.put d cv) w' iC M' n:=by
 cases d with
 |none=>
  simp[mN]at r;subst r
  exact⟨i.size,i.defers,fun t=>F.val (i.slot t)⟩
 |some d=>
  simp only[mN]at r
  split at r
  ·rename_i I
   simp at r;subst r
   refine⟨by simp[Act.put,i.size],i.defers,fun t=> ?_⟩
   have J:an (jV st.fr d v) t=if t=d then v else an st.fr t:=qa st.fr d v t
   have N:(a.put (some d) cv).tmps.getD t undef=if t=d then cv else a.tmps.getD t undef:=by
    simp only[Act.put,Array.getD_eq_getD_getElem?,Array.getElem?_setIfInBounds]
    by_cases D:d=t
    ·subst D;rw[if_pos rfl,if_pos (by rw[i.size];exact I),if_pos rfl];rfl
    ·grind
   show fy iC iQ.gens w' M' (an (jV st.fr d v) t) _
   rw[J,N]
   split
   ·exact H
   ·exact F.val (i.slot t)
  ·cases r
end Go.Ev
namespace Go.Ev
open Go
theorem Z5{B:lK}{st:St}{w:World}{β:iA}{M:ic}(h:iH B st w β M)(fr:Fr):iH B {st with fr} w β M:=
 ⟨h.obj,h.dist,h.mlt,h.lblk,h.sblk,h.os,h.tape,h.output,h.size,h.same,h.keep,h.msup⟩
theorem Tr.fr{st iQ:St}{w w':World}{β iC:iA}{M M':ic}(h:Tr st w β M iQ w' iC M')(fr:Fr):Tr st w β M {iQ with fr} w' iC M':=⟨h.keep,h.beta,h.gens⟩
theorem LS{w w':World}{M M':ic}{r:T}{cv:Value}(hs:scalar r=true)(h:PRel w M r cv):PRel w' M' r cv:=by
 cases r <;> simp[scalar]at hs
 case tup vs=>
  simp only[PRel]at h ⊢
  obtain⟨a,rfl,i⟩:=h
  refine⟨a,rfl, ?_⟩
  generalize a.toList=l at i
  induction vs generalizing l with
  |nil=>grind [PList]
  |cons t ts ih=>
   simp only[PList]at i ⊢
   obtain⟨u,us,rfl,D,F⟩:=i
   have H:=hs t (by simp)
   grind [PRel]
 all_goals simpa only[PRel]using h
theorem wx{β iC:iA}{G G':Sp→Nat→Nat}{w w':World}{M M':ic}: ∀{cs:List T} {i:List Value},cs.all qR=true→gO β G w M cs i→gO iC G' w' M' cs i
 | [],i,_,h=>by grind [gO]
 |t::ts,i,hs,h=>by
  simp only[List.all_cons,Bool.and_eq_true]at hs
  simp only[gO]at h ⊢
  obtain⟨u,us,rfl,r,D⟩:=h
  refine⟨u,us,rfl, ?_,wx hs.2 D⟩
  have F:=hs.1
  cases t <;> simp[qR]at F <;> simpa only[fy]using r
theorem Qx{w w':World}{M M':ic}{r:T}{cv:Value}(hs:qS r=true)(h:PRel w M r cv):PRel w' M' r cv:=by
 cases r <;> simp[qS,qR]at hs
 case tup vs=>
  simp only[PRel]at h ⊢
  obtain⟨a,rfl,i⟩:=h
  refine⟨a,rfl, ?_⟩
  generalize a.toList=l at i
  induction vs generalizing l with
  |nil=>grind [PList]
  |cons t ts ih=>
   simp only[PList]at i ⊢
   obtain⟨u,us,rfl,D,I⟩:=i
   have H:=hs t (by simp)
   refine⟨u,us,rfl, ?_,ih (fun x hx=>hs x (by simp[hx])) us I⟩
   cases t <;> simp[qR]at H <;> try (simpa only[PRel]using D;done)
   simp only[PRel]at D ⊢
   obtain⟨b,rfl,J,F⟩:=D
   exact⟨b,rfl,vd (List.all_eq_true.2 fun x hx=>H x hx) J,F⟩
 case agg vs=>
  simp only[PRel]at h ⊢
  obtain⟨a,rfl,i,F⟩:=h
  exact⟨a,rfl,vd (List.all_eq_true.2 fun x hx=>hs x hx) i,F⟩
 all_goals simpa only[PRel]using h
theorem LU{β iC:iA}{G G':Sp→Nat→Nat}{w w':World}{M M':ic}{r:T}{cv:Value}(hs:qS r=true)(h:fy β G w M r cv):fy iC G' w' M' r cv:=by
 cases r <;> simp[qS,qR]at hs
 case tup vs=>
  simp only[fy]at h ⊢
  obtain⟨a,rfl,i⟩:=h
  refine⟨a,rfl, ?_⟩
  generalize a.toList=l at i
  induction vs generalizing l with
  |nil=>grind [gO]
  |cons t ts ih=>
   simp only[gO]at i ⊢
   obtain⟨u,us,rfl,D,I⟩:=i
   have H:=hs t (by simp)
   refine⟨u,us,rfl, ?_,ih (fun x hx=>hs x (by simp[hx])) us I⟩
   cases t <;> simp[qR]at H <;> try (simpa only[fy]using D;done)
   simp only[fy]at D ⊢
   obtain⟨b,rfl,J,F⟩:=D
   exact⟨b,rfl,wx (List.all_eq_true.2 fun x hx=>H x hx) J,F⟩
 case agg vs=>
  simp only[fy]at h ⊢
  obtain⟨a,rfl,i,F⟩:=h
  exact⟨a,rfl,wx (List.all_eq_true.2 fun x hx=>hs x hx) i,F⟩
 all_goals simpa only[fy]using h
section
variable{P:Program}{E:Env}{call:pw}{B:lK}{st:St}{a:Act}{w:World}{β:iA}{M:ic}{o:Oper}
theorem sY{f:Nat}{r:Func}(F:P.funcs[f]? =some r)(H:(r.name== "runtime.NumGoroutine")=false)(D:r.body.isSome=true)(i:Array Value)(w:World):(callFunc f i).run P w= .ok (.enter f i) w:=by
 have I: ¬r.name= "runtime.NumGoroutine" :=by simpa using H
 have J: ¬r.body=none:=by intro e;rw[e]at D;simp at D
 simp[callFunc,F,I,J]
theorem Qy(I:pd β st.gens w M st.rho a.eval){c:Call}(N:o.op= .call c){sh:Nat}{Lm:l9}(hc:rW P sh c=some Lm){f:Nat}{i:List T}(D:jd st.rho Lm=some (some (f,i))):
  ∃r:Array Value,(execOp a.eval o).run P w=(callFunc f r).run P w∧gO β st.gens w M i r.toList:=by
 unfold rW at hc
 split at hc
 ·rename_i O F
  simp only[Option.map_eq_some_iff]at hc
  obtain⟨as,H,rfl⟩:=hc
  simp[jd]at D
  obtain⟨rfl,rfl⟩:=D
  refine⟨c.args.map a.eval, ?_,by simpa using u7 I H⟩
  simp[execOp,N,resolve,F,Deferred.ofValue,Act.eval,invoke]
 ·rename_i x lO F
  split at hc
  ·rename_i y as H U
   simp at hc;subst hc
   simp only[jd,Option.some.injEq]at D
   split at D
   ·rename_i O fa fc e
    simp at D
    obtain⟨rfl,rfl⟩:=D
    have J:=I x y H
    rw[e]at J
    simp only[fy]at J
    obtain⟨V,W,X,Y,Z⟩:=J
    refine⟨V++c.args.map a.eval++W, ?_, ?_⟩
    ·simp[execOp,N,resolve,F,X,Deferred.ofValue,invoke]
    ·have:=gO.append (gO.append Y (u7 I U)) Z
     simpa using this
   ·simp at D
  ·cases hc
 all_goals
  exfalso
  revert D
  try (simp only[Option.map_eq_some_iff]at hc;obtain⟨as,H,rfl⟩:=hc;simp[jd];done)
  try (cases hc;done)
 ·grind [jd]
 ·split at hc
  ·grind [jd]
  ·cases hc
theorem Qz{sh:Nat}{op:Op}{Lm:l9}{ρ:im→T}{x:Option (Nat×List T)}(h:jL P sh op=some Lm)(hc:jd ρ Lm=some x): ∃c,op= .call c∧rW P sh c=some Lm:=by
 cases op with
 |call c=>exact⟨c,rfl,h⟩
 |makeFunc i first D=>
  exfalso
  cases i <;> simp only[jL]at h <;> try (cases h;done)
  grind [jd]
 |makeMap t r=>
  exfalso
  cases r <;> simp only[jL]at h
  ·grind [jd]
  ·cases h
 |_=>
  grind [jL,Option.map_eq_some_iff,jd]
theorem aqO(h:iH B st w β M){f:Nat}{g:List T→Option (List T×Option Nat)}
  (my: ∀r,g []=some ([],r)→r.getD 0=0→ ∀w:World,Calls P f #[oE] w fun e w'=>e= .returned (match r with|none=> .tuple #[]|some _=>oE)∧RowKit.Below w.heap.size w w')
  (wy: ∀cs Y r,g cs=some (Y,r)→Y.length=cs.length→ ∀(w:World) (M:ic) (U off H:Nat) (c:Array Value) (el:TypeId) (vs:List Value),w.heap[U]? =some (.cells c el (0,0))→off+cs.length≤c.size→cs.length≤H→(c.toList.drop off).take cs.length=vs→PList w M cs vs→
    Calls P f #[.slice (some ⟨U,off,none⟩) cs.length H] w fun e w'=> ∃us,e= .returned (NW U off H r)∧PList w M Y us∧RowKit.Below w.heap.size (setBlock w U (.cells (splice c.toList off us).toArray el)) w')
  {J:List T} {D:Array Value} (hv:gO β st.gens w M J D.toList) {r:T} {N:St} (i:Ud g st J=some (r,N)):
  N.fr=st.fr∧Calls P f D w fun e w'=> ∃cv V M',e= .returned cv∧iH B N w' V M'∧Tr st w β M N w' V M'∧w.heap.size≤w'.heap.size∧fy V N.gens w' M' r cv:=by
 unfold Ud at i
 split at i
 ·have hc:D= #[oE]:=by
   grind [gO,fy,Array.toList_inj.1]
  subst hc
  have fin: ∀W:Option Nat,g []=some ([],W)→W.getD 0=0→N=st→(∀V M' w',fy V st.gens w' M' r (match W with|none=> .tuple #[]|some _=>oE))→
    N.fr=st.fr∧Calls P f #[oE] w fun e w'=> ∃cv V M',e= .returned cv∧iH B N w' V M'∧Tr st w β M N w' V M'∧w.heap.size≤w'.heap.size∧fy V N.gens w' M' r cv:=by
   rintro W hg h0 rfl hr
   refine⟨rfl,(my W hg h0 w).mono ?_⟩
   rintro e w' ⟨rfl,I⟩
   obtain⟨o1,o2⟩:=JB h I.os I.tape I.output I.size I.block
   exact⟨_,β,M,rfl,o1,o2,I.size,hr _ _ _⟩
  split at i
  ·grind [Option.some.injEq,Prod.mk.injEq,fy,gO]
  ·rename_i hg
   simp only[Option.some.injEq,Prod.mk.injEq]at i
   obtain⟨rfl,rfl⟩:=i
   simp_all[fy,oE]
  ·cases i
 ·rename_i sp k g0 off len
  simp only[gO,fy]at hv
  obtain⟨u,us,h1,⟨aD3,H,rfl,hlc,hce⟩,rfl⟩:=hv
  have hc:D= #[.slice (some ⟨(β sp k g0).blk,(β sp k g0).off+off,none⟩) len H]:=Array.toList_inj.1 h1
  subst hc
  generalize he:st.get sp k=e0 at i
  obtain⟨O,ob⟩:=e0
  cases ob with
  |none=>cases i
  |map _ _ _=>cases i
  |cells cs wm bx=>
  cases bx with
  |true=>cases i
  |false=>
  dsimp only at i
  split at i
  ·rename_i aqP
   obtain⟨rfl,Jt,vV⟩:=aqP
   split at i
   ·rename_i Y W hg
    split at i
    ·rename_i Y5
     obtain⟨NN,hy2,hy3⟩:=Y5
     simp only[Option.some.injEq,Prod.mk.injEq]at i
     obtain⟨rfl,rfl⟩:=i
     have Bs:=h.obj sp k
     rw[he]at Bs
     unfold kF at Bs
     obtain⟨c,el,fz,GO,h2,h3,h4,h5,h6,h7,h8⟩:=Bs
     dsimp only at GO h2 h3 h4 h5 h6
     subst h4
     have F:((cs.drop off).take len).length=len:=by rw[List.length_take,List.length_drop];omega
     have lX:c.toList.length=c.size:=by simp
     have hpl:PList w M ((cs.drop off).take len) ((c.toList.drop ((β sp k O).off+off)).take len):=by
      have q:=PList.take len (PList.drop off (show PList w M cs ((c.toList.drop (β sp k O).off).take cs.length)from h5))
      rw[List.drop_take,List.take_take,List.drop_drop,Nat.min_eq_left (by omega)]at q
      exact q
     have gU:=wy _ Y W hg (by rw[F];exact NN) w M (β sp k O).blk ((β sp k O).off+off) H c el _ GO (by rw[F];omega) (by rw[F];exact hlc) (by rw[F]) hpl
     rw[F]at gU
     refine⟨aeJ _ _,gU.mono ?_⟩
     rintro e w' ⟨us,rfl,Z,I⟩
     have hul:us.length=len:=by rw[←PList.length _ _ Z];exact NN
     have X:=xX h he O (Nat.le_refl _) GO off us (splice cs off Y) Jt (by omega) (by rw[jW];omega) (by rw[jW];exact h3) (sX h7 hy2) (by
      rw[jW]
      have Us:(splice (c.toList.drop (β sp k O).off) off us).take cs.length=splice ((c.toList.drop (β sp k O).off).take cs.length) off us:=by
       apply List.ext_getElem?
       intro j
       rw[List.getElem?_take,lF,lF,List.getElem?_take,List.length_take]
       by_cases hj:j<cs.length
       ·rw[if_pos hj,if_pos hj]
        by_cases hc:off≤j∧j<off+us.length∧j<(c.toList.drop (β sp k O).off).length
        ·rw[if_pos hc,if_pos (by omega)]
        ·rw[if_neg hc,if_neg (by omega)]
       ·rw[if_neg hj,if_neg hj,if_neg (by omega)]
      rw[Us]
      exact PList.splice h5 Z)
     rw[rY]at X
     have oR:=kM w (β sp k O).blk (.cells (splice c.toList ((β sp k O).off+off) us).toArray el)
     obtain⟨o1,o2⟩:=JB X.1 I.os I.tape I.output I.size fun b hb=>I.block b (by rw[oR]at hb;exact hb)
     refine⟨_,β,M,rfl,o1,X.2.trans o2 (by rw[oR];exact Nat.le_refl _),by rw[←oR];exact I.size, ?_⟩
     cases W with
     |none=>simp[agx,NW,fy,gO]
     |some n=>
      simp only[agx,NW,fy]
      refine⟨?_,H,rfl, ?_,hce⟩
      ·rw[kY,if_pos ⟨rfl,rfl⟩];exact Nat.le_refl _
      ·simp at hy3;omega
    ·cases i
   ·cases i
  ·cases i
 ·cases i
theorem QA(hE:tJ P E)(hO:yg P E call)(h:iH B st w β M){f:Nat}{J:List T}{F:Array Value}(hv:gO β st.gens w M J F.toList){r:T}{U:St}{d:Nat}(D:iR E call d st f J=some (r,U)):
  (callFunc f F).run P w= .ok (.enter f F) w∧U.fr=st.fr∧
  Calls P f F w fun e w'=> ∃cv I M',e= .returned cv∧iH B U w' I M'∧Tr st w β M U w' I M'∧w.heap.size≤w'.heap.size∧fy I U.gens w' M' r cv:=by
 unfold iR at D
 split at D
 ·rename_i af BK
  obtain⟨hs,fn,hf,zY⟩:=hE.1 f af BK
  have hnb:(fn.name== "runtime.NumGoroutine")=false∧fn.body.isSome=true:=by
   grind [Fs]
  refine⟨sY hf hnb.1 hnb.2 _ _, ?_⟩
  split at D
  ·rename_i q hq
   obtain⟨ts,us⟩:=q
   obtain⟨M1,Y,q2,q3,q4,q5,q6⟩:=oQ (fun t=>AR af.eff st iq t) J B st w β M _ ts us _ (Fz.refl st) h hv hq
   split at D
   ·rename_i sZ
    simp only[Option.map_eq_some_iff]at D
    obtain⟨⟨N,iE⟩,gU,D⟩:=D
    simp at D
    obtain⟨rfl,rfl⟩:=D
    refine⟨GN st us, ?_⟩
    have wz:af.own=none:=by
     cases ho:af.own with
     |none=>rfl
     |some j=>rw[((hO f af ts (st.ups us).sh N iE BK gU).2 j ho).1]at sZ;cases sZ
    have X:=(hO f af ts (st.ups us).sh N iE BK gU).1 wz
    rw[sZ]at q4 X
    have hx:nN true β (bare .nil (st.ups us).sh).gens w M1 ts F.toList:=by
     intro I G' p1 p2
     refine q4 I G' (fun k g hg=>p1 k g ?_) (fun k=>Nat.le_trans (Nat.le_of_eq ?_) (p2 k))
     ·have:(bare .nil (st.ups us).sh).gens .S k=(st.ups us).gens .S k:=rfl
      rw[this,q2.gens];exact hg
     ·have:(bare .nil (st.ups us).sh).gens .S k=(st.ups us).gens .S k:=rfl
      rw[this,q2.gens]
    refine(X w β M1 F (Z3 Y .nil) hx).mono ?_
    rintro e w' ⟨cv,I,M',rfl,H,EG,hG,hr⟩
    obtain⟨b1,b2⟩:=ag1 Y H EG hG
    refine⟨cv,_,M',rfl,b1,(Tr.fz q2 q3).trans b2 (Nat.le_refl _),H.size, ?_⟩
    exact hr _ _ (fun _ _ _=>rfl) (fun _=>Nat.le_refl _)
   ·rename_i sZ
    simp at sZ
    split at D
    ·rename_i r0 gU
     obtain⟨N,iE⟩:=r0
     rw[sZ]at q4
     have xc: ∀b,¬kZ [] β b:=by rintro b ⟨k,hl,_⟩;simp[gY,ig]at hl;exact hl.elim
     have EP:iH ⟨w,M1,kZ [] β⟩ (bare .nil []) w β M1:=by
      have h0:=Uw Y .nil
      exact⟨h0.obj,h0.dist,h0.mlt,fun k hl=>h0.lblk k hl,fun k hl=>(h0.sblk k hl).imp (fun e=>e.elim) id,rfl,rfl,rfl,Nat.le_refl _,fun _ _ _=>rfl,ku.refl w M1,fun _ _ _ _ Z=>Z⟩
     have V: ∀(c:Bool),(c=true→ ∀{w1 M1 w2 M2 cv},PRel w1 M1 N cv→PRel w2 M2 N cv)→ ∀(w':World) (cv:Value) (I:iA) (M':ic) (QB:St),QB=(if c=true then st else st.ups us)→iH ⟨w,M1,kZ [] β⟩ (bare .nil iE) w' I M'→PRel w' M' N cv→
       ∃W I M',Ending.returned cv= .returned W∧iH B QB w' I M'∧Tr st w β M QB w' I M'∧w.heap.size≤w'.heap.size∧fy I QB.gens w' M' N W:=by
      intro c LV w' cv I M' QB Dg H hr'
      have O:=fun b (hb:b<w.heap.size)=>H.same b hb (xc b)
      by_cases mF:c=true
      ·rw[if_pos mF]at Dg;subst Dg
       obtain⟨o1,o2⟩:=JB h H.os H.tape H.output H.size O
       exact⟨cv,β,M,rfl,o1,o2,H.size,PRel.toV _ _ _ _ (LV mF hr')⟩
      ·rw[if_neg mF]at Dg;subst Dg
       obtain⟨o1,o2⟩:=JB Y H.os H.tape H.output H.size O
       refine⟨cv,β,M1,rfl,o1,(Tr.fz q2 q3).trans o2 (Nat.le_refl _),H.size,PRel.toV _ _ _ _ (PRel.mono (j6 ?_) _ _ hr')⟩
       intro b x Z
       have hb:=Y.mlt b x Z
       exact H.msup b x hb (xc b) Z
     cases wz:af.own with
     |none=>
      simp only[wz]at D
      simp at D
      obtain⟨rfl,Dg⟩:=D
      have X:=(hO f af ts [] N iE BK gU).1 wz
      rw[sZ]at X
      have ag4:U.fr=st.fr:=by rw[←Dg];split;rfl;exact GN st us
      refine⟨ag4,(X w β M1 F EP q4).mono ?_⟩
      rintro e w' ⟨cv,I,M',rfl,H,EG,hG,hr⟩
      exact V (scalar N) (fun h=>LS h) w' cv I M' U Dg.symm H hr
     |some j=>
      simp only[wz]at D
      have X:=((hO f af ts [] N iE BK gU).2 j wz).2
      unfold wq at D
      have ag4:U.fr=st.fr:=by
       split at D
       ·simp at D;obtain⟨_,rfl⟩:=D;split;rfl;exact GN st us
       ·split at D
        ·simp at D;obtain⟨_,rfl⟩:=D;show(ite _ _ _:St).fr=_;split;rfl;exact GN st us
        ·cases D
       ·cases D
      refine⟨ag4,(X w β M1 F EP q4).mono ?_⟩
      rintro e w' ⟨cv,I,M',rfl,H,hr⟩
      rcases hr with⟨hc,hr⟩|⟨cs,len,hc,S,sz,cap,c,el,s1,s2,s3,s4,s5,s6,s7,s8,s9,s10,s11,s12,s13⟩
      ·rw[hc]at D
       simp at D;obtain⟨rfl,Dg⟩:=D
       exact V (qS N) (fun h=>Qx h) w' cv I M' U Dg.symm H hr
      ·rw[hc]at D
       simp only at D
       split at D
       ·rename_i hcs
        have oR:cs.length/len=sz:=by rw[s8];exact Nat.mul_div_cancel_left _ (Nat.pos_of_ne_zero s9)
        rw[oR]at D
        have O:=fun b (hb:b<w.heap.size)=>H.same b hb (xc b)
        have fin: ∀(QB:St) (M3:ic),iH B QB w β M3→Tr st w β M QB w β M3→(∀β G,fy β G w' (JC M3 S) (iv N j .nilsl) (pH cv j oE))→
          some (iv N j (.isl .L d ((QB.get .L d).g+1) 0 len sz),QB.up (.L,d,⟨(QB.get .L d).g+1,.cells cs 0 false⟩))=some (r,U)→
          ∃W I M',Ending.returned cv= .returned W∧iH B U w' I M'∧Tr st w β M U w' I M'∧w.heap.size≤w'.heap.size∧fy I U.gens w' M' r W:=by
         intro QB M3 h3 t3 Sn D
         simp only[Option.some.injEq,Prod.mk.injEq]at D
         obtain⟨rfl,rfl⟩:=D
         obtain⟨o1,o2⟩:=ag2 h3 H.os H.tape H.output H.size O d ((QB.get .L d).g+1) (Nat.lt_succ_self _) S s1 (qU s2) (.cells cs 0 false) (by
          unfold kF
          simp only[jr]
          exact⟨c,el,(0,0),s2,s3,s4,rfl,vd hcs.1 s5,fun i _ hi=> .inr ⟨rfl,by omega,by omega⟩,s7,Nat.zero_le _⟩)
         refine⟨cv,_,_,rfl,o1,t3.trans o2 (Nat.le_refl _),H.size,Z4 (Sn _ _) s12 ?_ rfl⟩
         simp only[fy]
         rw[jr]
         exact⟨by simp[kY],cap,rfl,s10,by simpa using s11⟩
        by_cases mF:qS (iv N j .nilsl)=true
        ·simp only[mF,if_true]at D
         exact fin st M h (Tr.refl _ _ _ _) (fun β G=>LU mF (s13 β G)) D
        ·simp only[mF,Bool.false_eq_true,if_false]at D
         refine fin (st.ups us) M1 Y (Tr.fz q2 q3) (fun β G=>fy.mono (j6 ?_) (fun _ _ _ _=>rfl) (fun _ _=>Nat.le_refl _) _ _ (s13 β G)) D
         rintro b x (Z|⟨rfl,h1,h2⟩)
         ·exact H.msup b x (Y.mlt b x Z) (xc b) Z
         ·have:=(s6.resolve_left mF) (x-S.off) (by omega)
          rwa [show S.off+(x-S.off)=x by omega]at this
       ·cases D
    ·cases D
  ·cases D
 ·rename_i g BK Ju
  split at D
  ·rename_i q hq
   obtain⟨ts,us⟩:=q
   simp only[Option.map_eq_some_iff]at D
   obtain⟨N,hg,D⟩:=D
   simp at D
   obtain⟨rfl,rfl⟩:=D
   obtain⟨⟨fn,hf,hn,hb⟩,X⟩:=hE.2.1 f g BK Ju
   obtain⟨M1,Y,q2,q3,q4,q5,q6⟩:=oQ (fun t=>AR false st iq t) J B st w β M _ ts us _ (Fz.refl st) h hv hq
   refine⟨sY hf hn hb _ _,rfl,(X ts N hg w M1 F Y.mlt q4).mono ?_⟩
   rintro e w' ⟨cv,rfl,rZ,hr⟩
   obtain⟨o1,o2⟩:=JB h rZ.os rZ.tape rZ.output rZ.size rZ.block
   exact⟨cv,β,M,rfl,o1,o2,rZ.size,PRel.toV _ _ _ _ (PRel.mono (j6 (fun b x Z=>h.mlt b x Z)) _ _ hr)⟩
  ·cases D
 ·rename_i BK Ju
  split at D
  ·rename_i g hwr
   obtain⟨⟨fn,hf,hn,hb⟩,my,X⟩:=hE.2.2 f g BK Ju hwr
   refine⟨sY hf hn hb _ _, ?_⟩
   grind [aqO]
  ·cases D
variable{ops:Array Oper}{Q:Exit→Act→World→Prop}{n:Nat}{K:Act→World→Prop}
theorem LW(i:nL st a w β M n){j d:Nat}(r:(ops[j]?).bind (·.dst)=some d)(D:an st.fr d≠ .any):yielded ops a.tmps j=match an st.fr d with| .b x=>some x|_=>none:=by
 unfold yielded
 rw[r]
 simp only[Option.bind_some]
 have hs:=i.slot d
 rw[Array.getD_eq_getD_getElem?]at hs
 cases hx:a.tmps[d]? with
 |none=>
  rw[hx]at hs
  simp only[Option.getD_none]at hs
  generalize an st.fr d=t at*
  cases t
  case any=>grind
  all_goals (simp only[fy,PRel,undef]at hs;simp_all)
 |some cv=>
  rw[hx]at hs
  simp only[Option.getD_some]at hs
  generalize an st.fr d=t at*
  cases t <;> simp only[fy,PRel]at hs
  case b x=>subst hs;rfl
  case any=>grind
  all_goals first
   |(subst hs;rfl)
   |(obtain⟨_,rfl,_⟩:=hs;rfl)
   |(obtain⟨_,_,rfl,_⟩:=hs;rfl)
   |(obtain⟨_,_,_,rfl,_⟩:=hs;rfl)
   |(obtain⟨_,_,_,_,rfl,_⟩:=hs;rfl)
   |(obtain⟨_,rfl⟩:=hs;rfl)
theorem qX(hE:tJ P E)(hO:yg P E call){hs:List Nat}{ao:dy}{i:Nat}(hi:ops[i]? =some o)(hc:uj P hs ops o=some ao)(h:iH B st w β M)(I:nL st a w β M n){H:St}(N:iN E call n ao st=some H)
  (O: ∀Y w' D M',iH B H w' D M'→nL H Y w' D M' n→Tr st w β M H w' D M'→w.heap.size≤w'.heap.size→K Y w'):wpOp P ops Q i K a w:=by
 have Z:=Ug I
 unfold wpOp
 rw[hi]
 simp only
 unfold uj at hc
 split at hc
 ·rename_i Lm FI
  have core: ∀gd,ao=⟨o.dst,Lm,gd⟩→(match jd st.rho Lm with
    |some (some c)=>match iR E call (o.dst.getD 0) st c.1 c.2 with
     |some r=>(mN st.fr n o.dst r.1).map fun fr=>({r.2 with fr}:St)
     |none=>none
    |some none=>none
    |none=>match(iX (o.dst.getD 0) st.rho Lm).run st.get st.sh.length with
     |some (.val v ups)=>(mN st.fr n o.dst v).map fun fr=>({st.ups ups with fr}:St)
     |none=>none)=some H→o.wp P a w K Q:=by
   intro gd _ Bv
   unfold Oper.wp
   split at Bv
   ·rename_i c gU
    obtain⟨f,U⟩:=c
    split at Bv
    ·rename_i r V
     obtain⟨r,zX⟩:=r
     simp only[Option.map_eq_some_iff]at Bv
     obtain⟨fr,J,rfl⟩:=Bv
     have F:=Qz FI gU
     obtain⟨c,ho,F⟩:=F
     obtain⟨W,hx,uo⟩:=Qy Z ho F gU
     obtain⟨d1,d2,d3⟩:=QA hE hO h uo V
     rw[hx,d1,Oper.upon_enter]
     refine d3.mono ?_
     rintro e w' ⟨cv,D,M',rfl,k1,k2,k3,k4⟩
     refine O _ _ D M' (Z5 k1 fr) ?_ (k2.fr fr) k3
     exact Df I k2 J k4
    ·cases Bv
   ·cases Bv
   ·split at Bv
    ·rename_i v ups hq
     simp only[Option.map_eq_some_iff]at Bv
     obtain⟨fr,J,rfl⟩:=Bv
     obtain⟨nx,cv,w',D,M',r1,r2,r3,r4,r5,r6⟩:=aqI (P:=P) Z h FI hq
     rw[r1]
     have:=O (a.put o.dst cv) w' D M' (Z5 r3 fr) (Df I r4 J r6) (r4.fr fr) r5
     rcases r2 with rfl|⟨rfl,rfl⟩
     ·exact this
     ·exact this
    ·cases Bv
  split at hc
  ·grind [Region.wanted,iN]
  ·rename_i j want hg
   split at hc
   ·rename_i d V
    simp at hc;subst hc
    unfold iN at N
    simp only at N
    have X:an st.fr d≠ .any:=by intro e;rw[e]at N;cases N
    have hy:=LW (ops:=ops) I V X
    have axn:(mN st.fr n o.dst iG).map (fun fr=>({st with fr}:St))=some H→K (a.put o.dst undef) w:=by
     intro hp
     simp only[Option.map_eq_some_iff]at hp
     obtain⟨fr,J,rfl⟩:=hp
     exact O _ _ β M (Z5 h fr) (Df I (Tr.refl _ _ _ _) J (by simp[fy,iG,undef,gO])) ((Tr.refl _ _ _ _).fr fr) (Nat.le_refl _)
    grind [Region.wanted]
   ·cases hc
 ·cases hc
end
end Go.Ev
namespace Go.Ev
open Go
theorem Q.run_congr{α:Type}{h F:Sp→Nat→b8}{r i:Nat}: ∀(q:Q α),(∀κ∈q.log h r,F κ.1 κ.2=h κ.1 κ.2)→(q.asks h r=true→i=r)→q.run F i=q.run h r
 | .ret a,_,_=>rfl
 | .fail,_,_=>rfl
 | .rd sp k f,D,H=>by
   have e:F sp k=h sp k:=D (sp,k) (by simp[Q.log])
   simp only[Q.run,e]
   exact Q.run_congr (f (h sp k)) (fun κ hk=>D κ (by simp[Q.log,hk])) (fun I=>H (by simp[Q.asks,I]))
 | .new f,D,H=>by
   have e:i=r:=H rfl
   subst e
   simp only[Q.run]
   exact Q.run_congr (f i) (fun κ hk=>D κ (by simp[Q.log,hk])) (fun _=>rfl)
theorem nv(f:T→Q (T×List Up))(h:Sp→Nat→b8)(i:Nat)(D: ∀t,(f t).asks h i=false): ∀ts,(iL f ts).asks h i=false:=by
 have r: ∀{α γ:Type} (q:Q α) (g:α→Q γ),q.asks h i=false→(∀a,(g a).asks h i=false)→(q.bind g).asks h i=false:=by
  intro α γ q g F H
  induction q with
  |ret a=>exact H a
  |fail=>rfl
  |rd sp k f ih=>grind [Q.bind,Q.asks]
  |new f ih=>simp[Q.asks]at F
 intro ts
 induction ts with
 |nil=>rfl
 |cons t ts ih=>
  simp only[iL]
  refine r _ _ (D t) (fun p=>r _ _ ih (fun q=>rfl))
theorem NX(h:Sp→Nat→b8)(r:Nat): ∀(keep:Bool) (n:Nat) (t:T),(fz keep n t).asks h r=false:=by
 have i: ∀{α γ:Type} (q:Q α) (g:α→Q γ),q.asks h r=false→(∀a,(g a).asks h r=false)→(q.bind g).asks h r=false:=by
  intro α γ q g D F
  induction q with
  |ret a=>exact F a
  |fail=>rfl
  |rd sp k f ih=>grind [Q.bind,Q.asks]
  |new f ih=>simp[Q.asks]at D
 intro keep n
 induction n generalizing keep with
 |zero=>intro t;rfl
 |succ n ih=>
  intro t
  cases t <;> simp only[fz] <;> try rfl
  ·split
   ·rfl
   ·simp only[Q.asks];split
    ·split
     ·split <;> rfl
     ·split
      ·exact i _ _ (nv _ _ _ (fun t=>ih false t) _) (fun _=>rfl)
      ·rfl
     ·rfl
    ·rfl
  ·split
   ·rfl
   ·simp only[Q.asks];split
    ·split
     ·exact i _ _ (nv _ _ _ (fun t=>ih false t) _) (fun _=>rfl)
     ·rfl
    ·rfl
  ·grind [Q.asks]
  ·exact i _ _ (nv _ _ _ (fun t=>ih keep t) _) (fun _=>i _ _ (nv _ _ _ (fun t=>ih keep t) _) (fun _=>rfl))
  ·exact i _ _ (nv _ _ _ (fun t=>ih keep t) _) (fun _=>rfl)
  ·exact i _ _ (nv _ _ _ (fun t=>ih keep t) _) (fun _=>rfl)
theorem oS{ρ NY:im→T}{l:List im}(h: ∀x∈l,NY x=ρ x):l.map NY=l.map ρ:=List.map_congr_left h
theorem pY{ρ NY:im→T}{d:Nat}{x:Option im}(h: ∀y∈x.toList,NY y=ρ y):kl NY d x=kl ρ d x:=by
 cases x with
 |none=>rfl
 |some y=>grind [kl]
theorem QC{ρ NY:im→T}(d:Nat)(op:l9)(h: ∀x∈zQ op,NY x=ρ x):iX d NY op=iX d ρ op:=by
 cases op <;> simp only[zQ]at h <;> simp only[iX]
 case mv x=>grind
 case pick c a b=>grind
 case box x sh=>grind
 case build z ps=>
  have e: ∀p∈ps,NY p.2.2=ρ p.2.2:=fun p r=>h _ (List.mem_map.2 ⟨p,r,rfl⟩)
  have D:(ps.all fun p=>decide ((cellsOf (NY p.2.2)).length=p.2.1)&&noTup (NY p.2.2))=(ps.all fun p=>decide ((cellsOf (ρ p.2.2)).length=p.2.1)&&noTup (ρ p.2.2)):=by
   grind
  grind [List.map_congr_left]
 case bsl z len ps=>
  grind [List.map_congr_left]
 case ld x n ag=>grind
 case st x v n=>grind
 case nck x=>grind
 case bin o x y=>grind
 case eq n k x y=>grind
 case un o x=>grind
 case cvi k x=>grind
 case b2s x=>rw[h x (by simp)]
 case mkfn f a c=>rw[oS (fun x hx=>h x (by simp[hx])),oS (fun x hx=>h x (by simp[hx]))]
 case mksl z b x sh=>rw[h x (by simp)]
 case slS x l hh=>
  rw[h x (by simp),pY (x:=l) (fun y i=>h y (by simp at i;simp[i]))]
  split
  ·rw[pY (x:=hh) (fun y i=>h y (by simp at i;simp[i]))]
  ·rfl
 case slV sz x l hh m=>
  rw[h x (by simp),pY (x:=l) (fun y i=>h y (by simp at i;simp[i]))]
  split
  ·rfl
  ·rw[pY (x:=hh) (fun y i=>h y (by simp at i;simp[i]))]
   split
   ·rfl
   ·rename_i mm _ _;rw[h mm (by simp)]
   ·rfl
 case fa x o=>rw[h x (by simp)]
 case fld x o n ag=>rw[h x (by simp)]
 case ia x y n=>rw[h x (by simp),h y (by simp)]
 case iaA x y l n=>rw[h x (by simp),h y (by simp)]
 case ixS x y=>rw[h x (by simp),h y (by simp)]
 case ixA x y l n ag=>rw[h x (by simp),h y (by simp)]
 case lk k x y z ok=>rw[h x (by simp),h y (by simp)]
 case mu k x y z=>rw[h x (by simp),h y (by simp),h z (by simp)]
 case ext x j=>rw[h x (by simp)]
 case lenS x=>rw[h x (by simp)]
 case lenV x=>rw[h x (by simp)]
 case lenM x=>rw[h x (by simp)]
 case app s b x y sh nm=>rw[h x (by simp),h y (by simp)]
 case mm b as=>rw[oS h]
theorem GS{ρ NY:im→T}(op:l9)(h: ∀x∈zQ op,NY x=ρ x):jd NY op=jd ρ op:=by
 cases op <;> simp only[zQ]at h <;> simp only[jd]
 case callf f as=>simp_all
 case callv f as=>rw[h f (by simp),oS (fun x hx=>h x (by simp[hx]))]
theorem UA{ρ:im→T}{op:l9}(F:quiet op=true)(d:Nat)(h:Sp→Nat→b8)(D:Nat):jd ρ op=none∧(iX d ρ op).log h D= []∧(iX d ρ op).asks h D=false∧ ∀v i,(iX d ρ op).run h D=some (.val v i)→i= []:=by
 have r: ∀x:Option T,(Ev.val x).log h D= []∧(Ev.val x).asks h D=false∧ ∀v i,(Ev.val x).run h D=some (.val v i)→i= []:=by
  intro x;cases x <;> simp[Ev.val,Q.log,Q.asks,Q.run]
 cases op <;> simp[quiet]at F <;> refine⟨rfl, ?_⟩ <;> simp only[iX]
 case slV sz x l hh m=>
  split
  ·simp[Q.log,Q.asks,Q.run]
  ·split
   ·unfold AO
    grind [Q.bind,Q.log,Q.asks,Q.run]
   ·grind [Q.log,Q.asks,Q.run]
   ·simp[Q.log,Q.asks,Q.run]
 all_goals first
  |exact r _
  |(simp[Q.log,Q.asks,Q.run];done)
  |(repeat' split
    all_goals first
     |exact r _
     |(simp[Q.log,Q.asks,Q.run];done))
end Go.Ev
namespace Go.Ev
open Go
theorem JD{us:List Up}{sp:Sp}{k:Nat}:oB us sp k=true↔(sp,k)∈jX us:=by
 grind [oB,jX]
theorem JE(s p:St): ∀(us:List Up) (sp:Sp) (k:Nat),oB us sp k=true→(s.ups us).get sp k=(p.ups us).get sp k:=by
 intro us
 induction us generalizing s p with
 |nil=>grind [oB]
 |cons u us ih=>
  grind [St.ups,pW,oB,lN]
theorem BL(s p:St)(us:List Up)(sp:Sp)(k:Nat):(s.ups us).get sp k=if(sp,k)∈jX us then(p.ups us).get sp k else s.get sp k:=by
 split
 ·rename_i h;exact JE s p us sp k (JD.2 h)
 ·rename_i h
  refine pW s us sp k ?_
  cases i:oB us sp k with
  |false=>rfl
  |true=>exact absurd (JD.1 i) h
theorem LX(s p:St)(hs:s.sh=p.sh): ∀us,(s.ups us).sh=(p.ups us).sh:=by
 intro us
 induction us generalizing s p with
 |nil=>exact hs
 |cons u us ih=>
  simp only[St.ups]
  refine ih _ _ ?_
  obtain⟨a,b,c⟩:=u
  cases a
  ·exact hs
  ·simp[St.up,hs]
theorem GU(s:St): ∀us,(∀u∈us,u.1= .S→u.2.1<s.sh.length)→(s.ups us).sh.length=s.sh.length:=by
 intro us
 induction us generalizing s with
 |nil=>intro _;rfl
 |cons u us ih=>
  intro h
  obtain⟨a,b,c⟩:=u
  simp only[St.ups]
  have i:(s.up (a,b,c)).sh.length=s.sh.length:=by
   cases a with
   |L=>rfl
   |S=>simp_all[St.up,jz]
  grind
theorem LY{s p:St}{us:List Up}(h:inB p us=true)(r: ∀sp k,(sp,k)∈jX us→s.get sp k=p.get sp k): ∀u∈us,u.1= .S→u.2.1<s.sh.length:=by
 intro u i e
 unfold inB at h
 rw[List.all_eq_true]at h
 have D:=h u i
 obtain⟨a,b,c⟩:=u
 dsimp only at e;subst e
 simp at D
 have F:=r .S b (by unfold jX;exact List.mem_map.2 ⟨_,i,rfl⟩)
 refine NK (st:=s) ?_
 grind [AP,live]
theorem GV{fr fr2:Fr}{n:Nat}{d:Option Nat}{v:T}{g:Fr}(h:mN fr n d v=some g): ∃i,mN fr2 n d v=some i∧ ∀t,an i t=if d=some t then an g t else an fr2 t:=by
 cases d with
 |none=>exact⟨fr2,rfl,fun t=>by simp⟩
 |some d=>
  grind [mN,qa]
def wrote(fp:FP)(sp:Sp)(k:Nat):Prop:=(sp,k)∈fp.w∨(fp.all=true∧sp= .S)
structure Z6 (ao:dy) (fp:FP) (s s' p':St):Prop where
 slot: ∀t,an s'.fr t=if ao.d=some t then an p'.fr t else an s.fr t
 key: ∀sp k,(wrote fp sp k→s'.get sp k=p'.get sp k)∧(¬wrote fp sp k→s'.get sp k=s.get sp k)
 len:(fp.all=true→s'.sh.length=p'.sh.length)∧(fp.all=false→s'.sh.length=s.sh.length)
variable{E:Env}{call:pw}{n:Nat}
theorem QD{s p:St}{ao:dy}(h: ∀t∈looks ao,an s.fr t=an p.fr t): ∀x∈zQ ao.op,s.rho x=p.rho x:=by
 intro x hx
 cases x with
 |t m=>
  refine h m ?_
  grind [looks,tmpsOf]
 |c v=>rfl
theorem Z7{s p:St}{d j:Nat}{r I:T}{us:List Up}{J:St}(i:wq d j r p us=some (I,J))(h: ∀sp k,(sp,k)∈(Sp.L,d)::jX us→s.get sp k=p.get sp k)(O:(s.ups us).sh.length=s.sh.length):
  ∃D,wq d j r s us=some (I,D)∧(∀sp k,((sp,k)∈(Sp.L,d)::jX us→D.get sp k=J.get sp k)∧((sp,k)∉(Sp.L,d)::jX us→D.get sp k=s.get sp k))∧D.sh.length=s.sh.length:=by
 have base: ∀(c:Bool) (sp:Sp) (k:Nat),((sp,k)∈(Sp.L,d)::jX us→(if c=true then s else s.ups us).get sp k=(if c=true then p else p.ups us).get sp k)∧((sp,k)∉(Sp.L,d)::jX us→(if c=true then s else s.ups us).get sp k=s.get sp k):=by
  grind [Bool.false_eq_true,BL]
 have len: ∀c:Bool,(if c=true then s else s.ups us).sh.length=s.sh.length:=by
  grind
 unfold wq at i ⊢
 split at i
 ·rename_i hc
  simp only[Option.some.injEq,Prod.mk.injEq]at i ⊢
  obtain⟨rfl,rfl⟩:=i
  exact⟨_,⟨rfl,rfl⟩,base _,len _⟩
 ·rename_i cs Ui ex hc
  split at i
  ·rename_i H
   rw[if_pos H]
   simp only[Option.some.injEq,Prod.mk.injEq]at i ⊢
   obtain⟨rfl,rfl⟩:=i
   have N:=(base (qS (iv r j .nilsl)) .L d).1 (List.mem_cons_self ..)
   rw[N]
   refine⟨_,⟨rfl,rfl⟩,fun sp k=>⟨fun F=> ?_,fun F=> ?_⟩, ?_⟩
   ·rw[lN,lN]
    split
    ·rfl
    ·exact(base _ sp k).1 F
   ·rw[lN,if_neg (by rintro⟨rfl,rfl⟩;exact F (List.mem_cons_self ..))]
    exact(base _ sp k).2 F
   ·exact len _
  ·cases i
 ·cases i
theorem JF{ao:dy}{fp:FP}{s p J:St}(he:iN E call n ao p=some J)(j4:jy E call ao p=some fp)(h1: ∀t∈looks ao,an s.fr t=an p.fr t)(N: ∀sp k,(sp,k)∈fp.r∨(sp,k)∈fp.w→s.get sp k=p.get sp k)(h3:fp.all=true→s.sh=p.sh):
  ∃I,iN E call n ao s=some I∧Z6 ao fp s I J:=by
 have O:=QD h1
 have axn:(mN p.fr n ao.d iG).map (fun fr=>({p with fr}:St))=some J→fp=nz→ ∃I,(mN s.fr n ao.d iG).map (fun fr=>({s with fr}:St))=some I∧Z6 ao fp s I J:=by
  intro hp hn
  subst hn
  simp only[Option.map_eq_some_iff]at hp
  obtain⟨g,U,rfl⟩:=hp
  obtain⟨g2,V,W⟩:=GV (fr2:=s.fr) U
  refine⟨{s with fr:=g2},by rw[V];rfl,W,fun sp k=>⟨fun hw=> ?_,fun _=>rfl⟩,⟨(fun F=>by cases F),fun _=>rfl⟩⟩
  rcases hw with hw|hw
  ·simp[nz]at hw
  ·cases hw.1
 have core:(match jd p.rho ao.op with
       |some (some c)=>match iR E call (ao.d.getD 0) p c.1 c.2 with
        |some r=>(mN p.fr n ao.d r.1).map fun fr=>({r.2 with fr}:St)
        |none=>none
       |some none=>none
       |none=>match(iX (ao.d.getD 0) p.rho ao.op).run p.get p.sh.length with
        |some (.val v ups)=>(mN p.fr n ao.d v).map fun fr=>({p.ups ups with fr}:St)
        |none=>none)=some J→(match jd p.rho ao.op with
       |some (some c)=>lD E call (ao.d.getD 0) p c.1 c.2
       |some none=>none
       |none=>
        let q:=iX (ao.d.getD 0) p.rho ao.op
        match q.run p.get p.sh.length with
        |some (.val _ ups)=>if q.asks p.get p.sh.length||inB p ups then some (⟨q.asks p.get p.sh.length,q.log p.get p.sh.length,jX ups⟩:FP)else none
        |none=>none)=some fp→
   ∃I,(match jd s.rho ao.op with
    |some (some c)=>match iR E call (ao.d.getD 0) s c.1 c.2 with
     |some r=>(mN s.fr n ao.d r.1).map fun fr=>({r.2 with fr}:St)
     |none=>none
    |some none=>none
    |none=>match(iX (ao.d.getD 0) s.rho ao.op).run s.get s.sh.length with
     |some (.val v ups)=>(mN s.fr n ao.d v).map fun fr=>({s.ups ups with fr}:St)
     |none=>none)=some I∧Z6 ao fp s I J:=by
  intro Bv i
  rw[GS ao.op O]
  split at Bv
  ·rename_i c hc
   obtain⟨f,args⟩:=c
   rw[hc]at i
   simp only[hc]at i ⊢
   split at Bv
   ·rename_i r D
    obtain⟨r,p2⟩:=r
    simp only[Option.map_eq_some_iff]at Bv
    obtain⟨g,U,rfl⟩:=Bv
    obtain⟨g2,V,W⟩:=GV (fr2:=s.fr) U
    suffices hs: ∃s2,iR E call (ao.d.getD 0) s f args=some (r,s2)∧(∀sp k,(wrote fp sp k→s2.get sp k=p2.get sp k)∧(¬wrote fp sp k→s2.get sp k=s.get sp k))∧(fp.all=true→s2.sh.length=p2.sh.length)∧(fp.all=false→s2.sh.length=s.sh.length)by
     obtain⟨s2,d1,d2,d3⟩:=hs
     refine⟨{s2 with fr:=g2},by rw[d1];simp[V],W,d2,d3⟩
    unfold lD at i
    unfold iR at D ⊢
    split at D
    ·rename_i af BK
     simp only[BK]at i ⊢
     cases H:(iL (fz af.eff iq) args).run p.get p.sh.length with
     |none=>simp[H]at D
     |some q=>
      obtain⟨ts,us⟩:=q
      simp only[H]at D i
      split at i
      ·cases i
      ·rename_i QE
       simp at QE
       have tS: ∀κ∈(iL (fz af.eff iq) args).log p.get p.sh.length,κ∈fp.r:=by
        grind
       have X:(iL (fz af.eff iq) args).run s.get s.sh.length=some (ts,us):=by
        rw[←H]
        refine Q.run_congr _ (fun κ hk=>N _ _ (.inl (tS κ hk))) (fun F=> ?_)
        rw[nv _ _ _ (fun t=>NX _ _ _ _ t)]at F;cases F
       rw[X]
       simp only
       split at D
       ·rename_i sZ
        simp only[sZ,if_true]at i ⊢
        simp at i;subst i
        simp only[Option.map_eq_some_iff]at D
        obtain⟨⟨r',iE⟩,gU,D⟩:=D
        simp at D;obtain⟨rfl,rfl⟩:=D
        have Y:=h3 rfl
        have axo:=LX s p Y us
        refine⟨{s.ups us with sh:=iE},by rw[axo,gU];rfl,fun sp k=> ?_,fun _=>rfl,(fun F=>by cases F)⟩
        cases sp with
        |S=>exact⟨fun _=>rfl,fun hw=>absurd (.inr ⟨rfl,rfl⟩) hw⟩
        |L=>
         have:=BL s p us .L k
         refine⟨fun hw=> ?_,fun hw=> ?_⟩
         ·rcases hw with hw|hw
          ·rw[if_pos hw]at this;exact this
          ·cases hw.2
         ·rw[if_neg (fun e=>hw (.inl e))]at this;exact this
       ·rename_i sZ
        simp only[sZ,Bool.false_eq_true,if_false]at i ⊢
        split at D
        ·rename_i r0 gU
         simp only[gU]at i ⊢
         cases wz:af.own with
         |some j=>
          simp only[wz]at i D ⊢
          simp at i;subst i
          obtain⟨s2,g1,g2,g3⟩:=Z7 (s:=s) D (fun sp k hk=>N sp k (.inr hk)) (GU s us (LY QE (fun sp k hk=>N sp k (.inr (List.mem_cons_of_mem _ hk)))))
          refine⟨s2,g1,fun sp k=>⟨fun hw=> ?_,fun hw=>(g2 sp k).2 (fun e=>hw (.inl e))⟩,(fun F=>by cases F),fun _=>g3⟩
          rcases hw with hw|hw
          ·exact(g2 sp k).1 hw
          ·cases hw.1
         |none=>
         simp only[wz]at i D ⊢
         simp at i;subst i
         simp at D;obtain⟨rfl,rfl⟩:=D
         by_cases mF:scalar r0.1=true
         ·simp only[mF,if_true]
          refine⟨s,rfl,fun sp k=>⟨fun hw=> ?_,fun _=>rfl⟩,(fun F=>by cases F),fun _=>rfl⟩
          rcases hw with hw|hw
          ·simp at hw
          ·cases hw.1
         ·simp only[mF,Bool.false_eq_true,if_false]
          refine⟨s.ups us,rfl,fun sp k=> ?_,(fun F=>by cases F),fun _=> ?_⟩
          ·have:=BL s p us sp k
           refine⟨fun hw=> ?_,fun hw=> ?_⟩
           ·rcases hw with hw|hw
            ·rw[if_pos hw]at this;exact this
            ·cases hw.1
           ·rw[if_neg (fun e=>hw (.inl e))]at this;exact this
          ·exact GU s us (LY QE (fun sp k hk=>N sp k (.inr (by simpa[mF]using hk))))
        ·cases D
    ·rename_i g' BK Ju
     simp only[BK,Ju]at i ⊢
     simp at i;subst i
     cases H:(iL (fz false iq) args).run p.get p.sh.length with
     |none=>simp[H]at D
     |some q=>
      simp only[H]at D
      have X:(iL (fz false iq) args).run s.get s.sh.length=some q:=by
       rw[←H]
       refine Q.run_congr _ (fun κ hk=>N _ _ (.inl hk)) (fun F=> ?_)
       rw[nv _ _ _ (fun t=>NX _ _ _ _ t)]at F;cases F
      rw[X]
      simp only[Option.map_eq_some_iff]at D ⊢
      obtain⟨r',hg',D⟩:=D
      simp at D;obtain⟨rfl,rfl⟩:=D
      refine⟨s,⟨r',hg',rfl⟩,fun sp k=>⟨fun hw=> ?_,fun _=>rfl⟩,(fun F=>by cases F),fun _=>rfl⟩
      rcases hw with hw|hw
      ·simp at hw
      ·cases hw.1
    ·rename_i BK Ju
     simp only[BK,Ju]at i
     cases i
   ·cases Bv
  ·cases Bv
  ·rename_i hc
   simp only[hc]at i ⊢
   rw[QC _ ao.op O]
   split at Bv
   ·rename_i v ups H
    simp only[H]at i
    split at i
    ·rename_i QE
     simp at i;subst i
     simp only[Option.map_eq_some_iff]at Bv
     obtain⟨g,U,rfl⟩:=Bv
     obtain⟨g2,V,W⟩:=GV (fr2:=s.fr) U
     have X:(iX (ao.d.getD 0) p.rho ao.op).run s.get s.sh.length=some (.val v ups):=by
      grind [Q.run_congr]
     rw[X]
     refine⟨{s.ups ups with fr:=g2},by simp[V],W,fun sp k=> ?_, ?_⟩
     ·have:=BL s p ups sp k
      refine⟨fun hw=> ?_,fun hw=> ?_⟩
      ·by_cases hm:(sp,k)∈jX ups
       ·rw[if_pos hm]at this;exact this
       ·rcases hw with hw|hw
        ·exact absurd hw hm
        ·obtain⟨Z,rfl⟩:=hw
         have Y:=LX s p (h3 Z) ups
         show gY (s.ups ups).sh k=gY (p.ups ups).sh k
         rw[Y]
      ·rw[if_neg (fun e=>hw (.inl e))]at this;exact this
     ·refine⟨fun Z=> ?_,fun Z=> ?_⟩
      ·have Y:=LX s p (h3 Z) ups
       show(s.ups ups).sh.length=(p.ups ups).sh.length
       rw[Y]
      ·rw[show(iX (ao.d.getD 0) p.rho ao.op).asks p.get p.sh.length=false from Z,Bool.false_or]at QE
       exact GU s ups (LY QE (fun sp k hk=>N sp k (.inr hk)))
    ·cases i
   ·cases Bv
 unfold iN at he ⊢
 unfold jy at j4
 cases hgd:ao.gd with
 |none=>
  grind
 |some g=>
  obtain⟨j,want⟩:=g
  simp only[hgd]at he j4 ⊢
  grind [looks]
end Go.Ev
namespace Go.Ev
open Go
theorem JG(r:List Nat): ∀(ps:List Nat) (D i:Nat),(ps.foldl (fun m p=>m ||| 2 ^ p ||| ig 0 r p) D).testBit i=true↔D.testBit i=true∨ ∃p∈ps,p=i∨(ig 0 r p).testBit i=true
 | [],D,i=>by simp
 |p::ps,D,i=>by
  simp only[List.foldl_cons]
  rw[JG r ps]
  grind
theorem LZ(r ps:List Nat)(i:Nat):(GG r ps).testBit i=true↔ ∃p∈ps,p=i∨(ig 0 r p).testBit i=true:=by
 unfold GG;rw[JG];simp
theorem pe{α:Type}(d:α): ∀(l i:List α) (k:Nat),k<l.length→ig d (l++i) k=ig d l k
 | [],i,k,h=>by simp at h
 |x::xs,i,0,h=>rfl
 |x::xs,i,k+1,h=>by simp_all[List.cons_append,ig,pe]
theorem ve{α:Type}(d:α): ∀(l:List α) (x:α),ig d (l++ [x]) l.length=x
 | [],x=>rfl
 |y::i,x=>by simp_all[List.cons_append,List.length_cons,ig,ve]
theorem Dh: ∀(rE:List (List Nat)) (r:List Nat),(qk rE r).length=r.length+rE.length∧(∀k,k<r.length→ig 0 (qk rE r) k=ig 0 r k)∧
  ∀j ps,rE[j]? =some ps→ ∀i,(ig 0 (qk rE r) (r.length+j)).testBit i=true↔ ∃p∈ps,p=i∨((if p<r.length+j then ig 0 (qk rE r) p else 0).testBit i=true)
 | [],r=>by simp[qk]
 |ps::rE,r=>by
  obtain⟨F,H,I⟩:=Dh rE (r++ [GG r ps])
  simp only[qk]
  refine⟨by rw[F];simp;omega,fun k hk=> ?_,fun j J D i=> ?_⟩
  ·grind [pe]
  ·cases j with
   |zero=>
    simp at D;subst D
    rw[Nat.add_zero,H r.length (by simp),ve,LZ]
    constructor
    ·rintro⟨p,N,e⟩
     refine⟨p,N,e.imp id fun e=> ?_⟩
     by_cases O:p<r.length
     ·grind [pe]
     ·exfalso
      have: ∀(l:List Nat) (k:Nat),l.length≤k→ig 0 l k=0:=by
       intro l
       induction l with
       |nil=>intro k _;rfl
       |cons x xs ih=>intro k hk;cases k with|zero=>simp at hk|succ k=>exact ih k (by simpa using hk)
      grind
    grind [pe]
   |succ j=>
    have:=I j J (by simpa using D) i
    grind
theorem yh: ∀(rE:List (List Nat)) (i:Nat),xJ i rE=true→ ∀j ps,rE[j]? =some ps→ ∀p∈ps,p<i+j
 | [],i,h,j,ps,r,p,D=>by simp at r
 |q::rE,i,h,j,ps,r,p,D=>by
  simp only[xJ,Bool.and_eq_true,List.all_eq_true]at h
  cases j with
  |zero=>grind
  |succ j=>
   have:=yh rE (i+1) h.2 j ps (by simpa using r) p D
   omega
theorem Di{m:Nat}{as:List dy}{k:Nat}{a:dy}:(k,a)∈CW m as↔as[k]? =some a∧m.testBit k=false:=by
 unfold CW
 rw[List.mem_filter,List.mem_map]
 constructor
 ·grind
 ·rintro⟨i,r⟩
  exact⟨⟨(a,k),List.mem_zipIdx_iff_getElem?.2 i,rfl⟩,by simpa using r⟩
theorem yi: ∀(D i:List dy) (J:List Nat),xK J i D=true→ ∀j a,D[j]? =some a→ ∀m,J[j]? =some m→ ∀k F,k<i.length+j→(i++D)[k]? =some F→m.testBit k=false→mr F a=true
 | [],i,J,h,j,a,H,m,I,k,F,hk,N,O=>by simp at H
 |r::D,i,[],h,j,a,H,m,I,k,F,hk,N,O=>by simp at I
 |r::D,i,U::J,h,j,a,H,m,I,k,F,hk,N,O=>by
  simp only[xK,Bool.and_eq_true,List.all_eq_true]at h
  cases j with
  |zero=>
   simp at H I;subst H;subst I
   have:i[k]? =some F:=by rw[List.getElem?_append_left (by omega)]at N;exact N
   exact h.1 (k,F) (Di.2 ⟨this,O⟩)
  |succ j=>
   exact yi D (i++ [r]) J h.2 j a (by simpa using H) m (by simpa using I) k F (by simp;omega) (by simpa using N) O
variable{E:Env}{call:pw}{n:Nat}
theorem Dj: ∀(D i:List dy) (H:List Nat) (jl:List FP) (st F:St),jl.length=i.length→H.length=D.length→iw E call n (rX H i D) jl st=some F→
  ∃(pre:Nat→St) (fp:Nat→FP),pre 0=st∧pre D.length=F∧ ∀j a m,D[j]? =some a→H[j]? =some m→iN E call n a (pre j)=some (pre (j+1))∧jy E call a (pre j)=some (fp j)∧
   ∀k I,k<i.length+j→(i++D)[k]? =some I→m.testBit k=false→quiet a.op=false→quiet I.op=false→apart (if k<i.length then ig ⟨true,[],[]⟩ jl k else fp (k-i.length)) (fp j)=true
 | [],i,H,jl,st,F,X,U,h=>by
   cases H with
   |cons _ _=>simp at U
   |nil=>simp[rX,iw]at h;subst h;exact⟨fun _=>st,fun _=>nz,rfl,rfl,by simp⟩
 |r::D,i,[],jl,st,F,X,U,h=>by simp at U
 |r::D,i,m0::H,jl,st,F,X,U,h=>by
  simp only[rX,iw]at h
  cases Z:jy E call r st with
  |none=>simp[Z]at h
  |some V=>
   simp only[Z]at h
   generalize hu:(if quiet r.op=true then []else((CW m0 i).filter fun p=> !quiet p.2.op).map (·.1))=uno at h
   split at h
   ·rename_i jN
    cases he:iN E call n r st with
    |none=>simp[he]at h
    |some lM=>
     simp only[he]at h
     obtain⟨pre,fp,p1,p2,p3⟩:=Dj D (i++ [r]) H (jl++ [V]) lM F (by simp[X]) (by simpa using U) h
     refine⟨fun j=>match j with|0=>st|j+1=>pre j,fun j=>match j with|0=>V|j+1=>fp j,rfl,p2,fun j a m hj J=> ?_⟩
     cases j with
     |zero=>
      simp at hj J;subst hj;subst J
      refine⟨by simp only;rw[he,p1],Z,fun k I hk Y hb N O=> ?_⟩
      have W:k<i.length:=by omega
      rw[if_pos W]
      have ha':i[k]? =some I:=by rw[List.getElem?_append_left W]at Y;exact Y
      rw[List.all_eq_true]at jN
      refine jN k ?_
      rw[←hu,if_neg (by rw[N];simp)]
      exact List.mem_map.2 ⟨(k,I),List.mem_filter.2 ⟨Di.2 ⟨ha',hb⟩,by simp[O]⟩,rfl⟩
     |succ j=>
      obtain⟨e1,e2,e3⟩:=p3 j a m (by simpa using hj) (by simpa using J)
      refine⟨e1,e2,fun k I hk Y hb N O=> ?_⟩
      have:=e3 k I (by simp;omega) (by simpa using Y) hb N O
      by_cases h1:k<i.length
      ·grind [pe]
      ·rw[if_neg h1]
       by_cases h2:k=i.length
       ·subst h2
        rw[if_pos (by simp),←X,ve]at this
        simpa using this
       ·rw[if_neg (by simp;omega)]at this
        obtain⟨x,hx⟩: ∃x,k-i.length=x+1:=⟨k-i.length-1,by omega⟩
        rw[hx]
        simp only
        have hx2:k-(i++ [r]).length=x:=by simp;omega
        rw[hx2]at this
        exact this
   ·cases h
theorem JH{a:dy}{p:St}{fp:FP}(H:quiet a.op=true)(h:jy E call a p=some fp):fp.all=false∧fp.r= []∧fp.w= []:=by
 obtain⟨I,J,N,O⟩:=UA (ρ:=p.rho) H (a.d.getD 0) p.get p.sh.length
 have F:(match jd p.rho a.op with
       |some (some c)=>lD E call (a.d.getD 0) p c.1 c.2
       |some none=>none
       |none=>
        let q:=iX (a.d.getD 0) p.rho a.op
        match q.run p.get p.sh.length with
        |some (.val _ i)=>if q.asks p.get p.sh.length||inB p i then some (⟨q.asks p.get p.sh.length,q.log p.get p.sh.length,jX i⟩:FP)else none
        |none=>none)=some fp→fp.all=false∧fp.r= []∧fp.w= []:=by
  intro D
  rw[I]at D
  simp only at D
  split at D
  ·rename_i v i hr
   have:=O v i hr;subst this
   split at D
   ·simp at D;subst D;exact⟨N,J,rfl⟩
   ·cases D
  ·cases D
 unfold jy at h
 cases U:a.gd with
 |none=>grind
 |some g=>
  simp only[U]at h
  split at h
  ·split at h
   ·exact F h
   ·simp at h;subst h;exact⟨rfl,rfl,rfl⟩
  ·simp at h;subst h;exact⟨rfl,rfl,rfl⟩
theorem UB: ∀(a b:List b8),(∀k,gY a k=gY b k)→a.length=b.length→a=b
 | [],[],_,_=>rfl
 | [],y::i,_,h=>by simp at h
 |x::xs,[],_,h=>by simp at h
 |x::xs,y::i,h,r=>by
  have D:x=y:=h 0
  rw[D,UB xs i (fun k=>h (k+1)) (by simpa using r)]
end Go.Ev
namespace Go.Ev
open Go
variable{E:Env}{call:pw}{n:Nat}
structure oU (E:Env) (call:pw) (n:Nat) (as:List dy) (rE:List (List Nat)) (bit:Nat→Nat→Bool) (pre:Nat→St) (fp:Nat→FP):Prop where
 len:rE.length=as.length
 edges: ∀(j:Nat) (ps:List Nat),rE[j]? =some ps→ ∀p∈ps,p<j
 bits: ∀(j:Nat) (ps:List Nat),rE[j]? =some ps→ ∀i,bit j i=true↔ ∃p∈ps,p=i∨bit p i=true
 run: ∀(j:Nat) (a:dy),as[j]? =some a→iN E call n a (pre j)=some (pre (j+1))∧jy E call a (pre j)=some (fp j)
 slots: ∀(j:Nat) (a:dy) (k:Nat) (a':dy),as[j]? =some a→as[k]? =some a'→k<j→bit j k=false→mr a' a=true
 apart: ∀(j:Nat) (a:dy) (k:Nat) (a':dy),as[j]? =some a→as[k]? =some a'→k<j→bit j k=false→quiet a.op=false→quiet a'.op=false→Ev.apart (fp k) (fp j)=true
variable{as:List dy}{rE:List (List Nat)}{bit:Nat→Nat→Bool}{pre:Nat→St}{fp:Nat→FP}
def Dk(rE:List (List Nat))(L:Nat→Prop):Prop:= ∀(j:Nat) (ps:List Nat),rE[j]? =some ps→L j→ ∀p∈ps,L p
theorem A0(R:oU E call n as rE bit pre fp){L:Nat→Prop}(hc:Dk rE L): ∀(j:Nat) (ps:List Nat),rE[j]? =some ps→(∀p∈ps,L p)→ ∀i,bit j i=true→L i:=by
 intro j
 induction j using Nat.strongRecOn with
 |_ j ih=>
  intro ps r H i N
  obtain⟨p,D,h2⟩:=(R.bits j ps r i).1 N
  rcases h2 with rfl|h2
  ·exact H p D
  ·have I:=R.edges j ps r p D
   have F:p<rE.length:=Nat.lt_trans I (List.getElem?_eq_some_iff.1 r).1
   have J:rE[p]? =some rE[p]:=List.getElem?_eq_getElem F
   exact ih p I _ J (hc p _ J (H p D)) i h2
theorem uv(R:oU E call n as rE bit pre fp){L:Nat→Prop}(hc:Dk rE L){i j:Nat}(hi:i<as.length)(J:j<as.length)(D: ¬L i)(F: ∀ps,rE[i]? =some ps→ ∀p∈ps,L p)(N:i=j∨(j<i∧bit i j=true)∨(i<j∧bit j i=true)):L j↔j<i:=by
 rcases N with rfl|⟨I,H⟩|⟨I,H⟩
 ·grind
 ·refine⟨fun _=>I,fun _=> ?_⟩
  have O:i<rE.length:=by rw[R.len];exact hi
  have r:rE[i]? =some rE[i]:=List.getElem?_eq_getElem O
  exact A0 R hc i _ r (F _ r) j H
 ·refine⟨fun U=>absurd ?_ D,fun h=>by omega⟩
  have ER:j<rE.length:=by rw[R.len];exact J
  have r:rE[j]? =some rE[j]:=List.getElem?_eq_getElem ER
  exact A0 R hc j _ r (hc j _ r U) i H
structure Inv (as:List dy) (pre:Nat→St) (fp:Nat→FP) (L:Nat→Prop) (s:St):Prop where
 slot: ∀t i,i≤as.length→(∀(j:Nat) (a:dy),as[j]? =some a→a.d=some t→(L j↔j<i))→an s.fr t=an (pre i).fr t
 key: ∀sp k i,i≤as.length→(∀j,j<as.length→wrote (fp j) sp k→(L j↔j<i))→s.get sp k=(pre i).get sp k
 len: ∀i,i≤as.length→(∀j,j<as.length→(fp j).all=true→(L j↔j<i))→s.sh.length=(pre i).sh.length
theorem Dl(R:oU E call n as rE bit pre fp){j:Nat}{a:dy}(i:as[j]? =some a):Z6 a (fp j) (pre j) (pre (j+1)) (pre (j+1)):=by
 obtain⟨r,D⟩:=R.run j a i
 obtain⟨F,H,I⟩:=JF (s:=pre j) r D (fun _ _=>rfl) (fun _ _ _=>rfl) (fun _=>rfl)
 grind
theorem JI(R:oU E call n as rE bit pre fp)(t i:Nat): ∀r,i≤r→r≤as.length→(∀(j:Nat) (a:dy),as[j]? =some a→i≤j→j<r→a.d≠some t)→an (pre r).fr t=an (pre i).fr t:=by
 intro r H
 induction r with
 |zero=>grind
 |succ m ih=>
  intro I J
  by_cases D:i=m+1
  ·subst D;rfl
  ·have Y6:m<as.length:=by omega
   have F:as[m]? =some as[m]:=List.getElem?_eq_getElem Y6
   have N:=(Dl R F).slot t
   grind
theorem NZ(R:oU E call n as rE bit pre fp)(sp:Sp)(k i:Nat): ∀r,i≤r→r≤as.length→(∀j,i≤j→j<r→ ¬wrote (fp j) sp k)→(pre r).get sp k=(pre i).get sp k:=by
 intro r I
 induction r with
 |zero=>grind
 |succ m ih=>
  intro J D
  by_cases F:i=m+1
  ·subst F;rfl
  ·have Y6:m<as.length:=by omega
   have H:as[m]? =some as[m]:=List.getElem?_eq_getElem Y6
   have N:=((Dl R H).key sp k).2 (D m (by omega) (by omega))
   grind
theorem N4(R:oU E call n as rE bit pre fp)(i:Nat): ∀r,i≤r→r≤as.length→(∀j,i≤j→j<r→(fp j).all=false)→(pre r).sh.length=(pre i).sh.length:=by
 intro r I
 induction r with
 |zero=>grind
 |succ m ih=>
  intro J D
  by_cases F:i=m+1
  ·subst F;rfl
  ·have Y6:m<as.length:=by omega
   have H:as[m]? =some as[m]:=List.getElem?_eq_getElem Y6
   have N:=(Dl R H).len.2 (D m (by omega) (by omega))
   grind
theorem either(R:oU E call n as rE bit pre fp){i j:Nat}{a r:dy}(hi:as[i]? =some a)(F:as[j]? =some r)(J:i≠j):
  ((j<i∧bit i j=true)∨(i<j∧bit j i=true))∨((mr a r=true∨mr r a=true)∧(quiet a.op=true∨quiet r.op=true∨Ev.apart (fp i) (fp j)=true∨Ev.apart (fp j) (fp i)=true)):=by
 rcases Nat.lt_or_gt_of_ne J with h|h
 ·cases D:bit j i with
  |true=>grind
  |false=>
   refine .inr ⟨.inl (R.slots j r i a F hi h D), ?_⟩
   cases H:quiet a.op
   ·cases I:quiet r.op
    ·exact .inr (.inr (.inl (R.apart j r i a F hi h D I H)))
    ·grind
   ·exact .inl rfl
 ·cases D:bit i j with
  |true=>grind
  |false=>
   refine .inr ⟨.inr (R.slots i a j r hi F h D), ?_⟩
   cases H:quiet a.op
   ·cases I:quiet r.op
    ·exact .inr (.inr (.inr (R.apart i a j r hi F h D H I)))
    ·grind
   ·exact .inl rfl
theorem ES{x y:dy}(h:mr x y=true∨mr y x=true){t:Nat}:(x.d=some t→t∉looks y∧y.d≠some t):=by
 grind [mr]
theorem vf{xs i:List (Sp×Nat)}(h:lW xs i=true){κ:Sp×Nat}(r:κ∈xs)(D:κ∈i):False:=by
 grind [lW]
theorem zZ{xs:List (Sp×Nat)}(h:Lk xs=true){k:Nat}(i:(Sp.S,k)∈xs):False:=by
 grind [Lk]
theorem UC{x y:FP}(h:Ev.apart x y=true∨Ev.apart y x=true){sp:Sp}{k:Nat}(i:wrote y sp k):(sp,k)∉x.r∧(sp,k)∉x.w∧ ¬(x.all=true∧sp= .S):=by
 rcases h with h|h <;> unfold Ev.apart at h <;> simp only[Bool.and_eq_true,Bool.or_eq_true,Bool.not_eq_true']at h <;> obtain⟨⟨⟨⟨a1,a2⟩,D⟩,a4⟩,a5⟩:=h
 ·rcases i with i|⟨i,rfl⟩
  ·refine⟨fun e=>vf D e i,fun e=>vf a2 e i,fun e=> ?_⟩
   grind [zZ]
  ·rcases a5 with a5|a5
   ·grind
   ·refine⟨fun e=>zZ a5.1 e,fun e=>zZ a5.2 e,fun e=> ?_⟩
    grind
 ·rcases i with i|⟨i,rfl⟩
  ·refine⟨fun e=>vf a1 i e,fun e=>vf a2 i e,fun e=> ?_⟩
   grind [zZ]
  ·rcases a4 with a4|a4
   ·grind
   ·refine⟨fun e=>zZ a4.1.2 e,fun e=>zZ a4.2 e,fun e=> ?_⟩
    grind
theorem UD(R:oU E call n as rE bit pre fp){L:Nat→Prop}(hc:Dk rE L){s:St}(I:Inv as pre fp L s){i:Nat}{a:dy}(hi:as[i]? =some a)(hni: ¬L i)(hpi: ∀ps,rE[i]? =some ps→ ∀p∈ps,L p):
  ∃s',iN E call n a s=some s'∧Inv as pre fp (fun j=>L j∨j=i) s':=by
 have Y:i<as.length:=(List.getElem?_eq_some_iff.1 hi).1
 obtain⟨r1,r2⟩:=R.run i a hi
 have N5: ∀t,(t∈looks a∨a.d=some t)→ ∀(j:Nat) (V:dy),as[j]? =some V→V.d=some t→(L j↔j<i):=by
  intro t ht j V F Z
  have ER:=(List.getElem?_eq_some_iff.1 F).1
  by_cases X:i=j
  ·subst X;exact uv R hc Y ER hni hpi (.inl rfl)
  ·rcases either R hi F X with h|⟨h,_⟩
   ·grind [uv]
   grind [ES]
 have GW: ∀sp k,((sp,k)∈(fp i).r∨(sp,k)∈(fp i).w∨((fp i).all=true∧sp= .S))→ ∀j,j<as.length→wrote (fp j) sp k→(L j↔j<i):=by
  intro sp k ht j ER hw
  have F:as[j]? =some as[j]:=List.getElem?_eq_getElem ER
  by_cases X:i=j
  ·grind
  ·rcases either R hi F X with h|⟨_,h⟩
   ·grind [uv]
   ·exfalso
    rcases h with h|h|h
    ·obtain⟨q1,q2,q3⟩:=JH h r2
     rcases ht with ht|ht|ht
     ·rw[q2]at ht;simp at ht
     ·rw[q3]at ht;simp at ht
     ·rw[q1]at ht;cases ht.1
    ·obtain⟨q1,q2,q3⟩:=JH h (R.run j _ F).2
     rcases hw with hw|hw
     ·rw[q3]at hw;simp at hw
     ·rw[q1]at hw;cases hw.1
    ·obtain⟨z1,z2,z3⟩:=UC h hw
     rcases ht with ht|ht|ht
     ·exact z1 ht
     ·exact z2 ht
     ·exact z3 ht
 have UE:(fp i).all=true→ ∀j,j<as.length→(fp j).all=true→(L j↔j<i):=by
  intro W j ER D
  exact GW .S 0 (.inr (.inr ⟨W,rfl⟩)) j ER (.inr ⟨D,rfl⟩)
 obtain⟨s',e1,e2⟩:=JF (s:=s) r1 r2 (fun t ht=>I.slot t i (Nat.le_of_lt Y) (fun j V F Z=>N5 t (.inl ht) j V F Z))
  (fun sp k ht=>I.key sp k i (Nat.le_of_lt Y) (fun j ER hw=>GW sp k (ht.elim .inl fun h=> .inr (.inl h)) j ER hw))
  (fun W=>UB _ _ (fun k=>I.key .S k i (Nat.le_of_lt Y) (fun j ER hw=>GW .S k (.inr (.inr ⟨W,rfl⟩)) j ER hw)) (I.len i (Nat.le_of_lt Y) (UE W)))
 refine⟨s',e1,fun t H GJ J=> ?_,fun sp k H GJ J=> ?_,fun H GJ J=> ?_⟩
 ·rw[e2.slot t]
  split
  ·rename_i Z
   have N:i<H:=(J i a hi Z).1 (.inr rfl)
   rw[JI R t (i+1) H N GJ]
   intro j V F h1 h2 O
   have hL:=(J j V F O).2 h2
   have:=N5 t (.inr Z) j V F O
   rcases hL with hL|hL
   ·have:=this.1 hL;omega
   ·omega
  ·rename_i Z
   exact I.slot t H GJ (fun j V F O=>by
    have:=J j V F O
    constructor
    ·exact fun hL=>this.1 (.inl hL)
    ·intro oa
     rcases this.2 oa with hL|hL
     ·exact hL
     ·subst hL;rw[hi]at F;simp at F;subst F;exact absurd O Z)
 ·by_cases hw:wrote (fp i) sp k
  ·have N:i<H:=(J i Y hw).1 (.inr rfl)
   rw[(e2.key sp k).1 hw,NZ R sp k (i+1) H N GJ]
   intro j h1 h2 U
   have ER:j<as.length:=by omega
   have hL:=(J j ER U).2 h2
   have:=GW sp k (hw.elim (fun e=> .inr (.inl e)) fun e=> .inr (.inr e)) j ER U
   rcases hL with hL|hL
   ·have:=this.1 hL;omega
   ·omega
  ·rw[(e2.key sp k).2 hw]
   exact I.key sp k H GJ (fun j ER U=>by
    have:=J j ER U
    constructor
    ·exact fun hL=>this.1 (.inl hL)
    ·intro oa
     rcases this.2 oa with hL|hL
     ·exact hL
     ·subst hL;exact absurd U hw)
 ·cases W:(fp i).all with
  |true=>
   have N:i<H:=(J i Y W).1 (.inr rfl)
   rw[e2.len.1 W,N4 R (i+1) H N GJ]
   intro j h1 h2
   cases D:(fp j).all with
   |false=>rfl
   |true=>
    have ER:j<as.length:=by omega
    have hL:=(J j ER D).2 h2
    have:=UE W j ER D
    rcases hL with hL|hL
    ·have:=this.1 hL;omega
    ·omega
  |false=>
   rw[e2.len.2 W]
   exact I.len H GJ (fun j ER D=>by
    have:=J j ER D
    constructor
    ·exact fun hL=>this.1 (.inl hL)
    ·intro oa
     rcases this.2 oa with hL|hL
     ·exact hL
     ·subst hL;rw[W]at D;cases D)
end Go.Ev
namespace Go.Ev
open Go
section
variable{P:Program}{E:Env}{call:pw}{n:Nat}{hs:List Nat}{ops:Array Oper}
theorem oV: ∀{i:List Oper} {as:List dy},kq P hs ops i=some as→as.length=i.length∧ ∀(j:Nat) (o:Oper),i[j]? =some o→ ∃a,as[j]? =some a∧uj P hs ops o=some a
 | [],as,h=>by grind [kq]
 |o::i,as,h=>by
  simp only[kq]at h
  split at h
  ·rename_i a r F D
   simp at h;subst h
   obtain⟨H,I⟩:=oV D
   grind
  ·cases h
theorem UF(O:tJ P E)(U:yg P E call){Q:Exit→Act→World→Prop}: ∀(k i:Nat) (as:List dy),i+k=ops.size→kq P hs ops (ops.toList.drop i)=some as→
  ∀{B:lK} {st D:St} {a:Act} {w:World} {β:iA} {M:ic},iH B st w β M→nL st a w β M n→dE E call n as st=some D→
  (∀H w' F M',iH B D w' F M'→nL D H w' F M' n→Tr st w β M D w' F M'→w.heap.size≤w'.heap.size→Q .normal H w')→wpOps P ops Q (List.range' i k) a w
 |0,i,as,NQ,hc,B,st,D,a,w,β,M,h,I,r,J=>by
  have W:ops.toList.drop i= []:=List.drop_eq_nil_of_le (by simp;omega)
  rw[W]at hc
  simp[kq]at hc;subst hc
  simp[dE]at r;subst r
  simp only[List.range',wpOps]
  exact J a w β M h I (Tr.refl _ _ _ _) (Nat.le_refl _)
 |k+1,i,as,NQ,hc,B,st,D,a,w,β,M,h,I,r,J=>by
  have hi:i<ops.toList.length:=by simp;omega
  rw[List.drop_eq_getElem_cons hi]at hc
  simp only[kq]at hc
  split at hc
  ·rename_i ao N X Y
   simp at hc;subst hc
   simp only[dE]at r
   split at r
   ·rename_i lM EH
    rw[List.range'_succ,wpOps_cons]
    refine qX O U (o:=ops.toList[i]) (by simp at hi ⊢) X h I EH ?_
    intro H w' F M' Z r2 r3 V
    exact UF O U k (i+1) N (by omega) Y Z r2 r (fun a2 w2 UG M2 s1 s2 s3 s4=>J a2 w2 UG M2 s1 s2 (r3.trans s3 V) (Nat.le_trans V s4))
   ·cases r
  ·cases hc
theorem aeO{B:lK}{s D:St}{w:World}{β:iA}{M:ic}(i: ∀sp k,D.get sp k=s.get sp k)(h:iH B s w β M):iH B D w β M:=by
 have ET:D.gens=s.gens:=by funext sp k;show(D.get sp k).g=_;rw[i]
 refine⟨fun sp k=>by rw[i,ET];exact h.obj sp k,fun sp k I k' F H e=> ?_,h.mlt,fun k r=> ?_,fun k r=> ?_,h.os,h.tape,h.output,h.size,h.same,h.keep,h.msup⟩
 ·rw[i]at F H;rw[ET]at e;exact h.dist sp k I k' F H e
 ·rw[i]at r;rw[ET];exact h.lblk k r
 ·rw[i]at r;rw[ET];exact h.sblk k r
theorem aeP{s i:St}{a:Act}{w:World}{β:iA}{M:ic}(r: ∀sp k,i.get sp k=s.get sp k)(D: ∀t,an i.fr t=an s.fr t)(h:nL s a w β M n):nL i a w β M n:=by
 have ET:i.gens=s.gens:=by funext sp k;show(i.get sp k).g=_;rw[r]
 exact⟨h.size,h.defers,fun t=>by rw[ET,D];exact h.slot t⟩
theorem UH{st s i:St}{w w':World}{β iC:iA}{M M':ic}(r: ∀sp k,i.get sp k=s.get sp k)(h:Tr st w β M s w' iC M'):Tr st w β M i w' iC M':=by
 have ET:i.gens=s.gens:=by funext sp k;show(i.get sp k).g=_;rw[r]
 exact⟨h.keep,h.beta,by rw[ET];exact h.gens⟩
theorem ag8(hE:tJ P E)(hO:yg P E call){Q:Exit→Act→World→Prop}{as:List dy}{bit:Nat→Nat→Bool}{pre:Nat→St}{fp:Nat→FP}(hc:kq P hs ops ops.toList=some as)
  (R:oU E call n as (ops.toList.map jJ) bit pre fp) {B:lK} {st:St} {w:World} {β:iA} {M:ic}:
  ∀(D:Nat) (r:Array Bool) (s:St) (a:Act) (F:World) (Ib:iA) (M1:ic),r.size=ops.size→((List.range ops.size).filter fun i=> !r.getD i true).length≤D→Dk (ops.toList.map jJ) (fun j=>r.getD j false=true)→
   Inv as pre fp (fun j=>r.getD j false=true) s→iH B s F Ib M1→nL s a F Ib M1 n→Tr st w β M s F Ib M1→w.heap.size≤F.heap.size→
   (∀N w' J M',iH B (pre as.length) w' J M'→nL (pre as.length) N w' J M' n→Tr st w β M (pre as.length) w' J M'→w.heap.size≤w'.heap.size→Q .normal N w')→
   wpAny P .any ops Q D r a F:=by
 obtain⟨hlen,L0⟩:=oV hc
 have N6:as.length=ops.size:=by simpa using hlen
 have done: ∀(r:Array Bool) (s:St) (a:Act) (F:World) (Ib:iA) (M1:ic),r.size=ops.size→Dk (ops.toList.map jJ) (fun j=>r.getD j false=true)→Inv as pre fp (fun j=>r.getD j false=true) s→iH B s F Ib M1→nL s a F Ib M1 n→Tr st w β M s F Ib M1→w.heap.size≤F.heap.size→
   (∀N w' J M',iH B (pre as.length) w' J M'→nL (pre as.length) N w' J M' n→Tr st w β M (pre as.length) w' J M'→w.heap.size≤w'.heap.size→Q .normal N w')→Region.ready .any ops r= []→Q .normal a F:=by
  intro r s a F Ib M1 H W I h X Y O Z hr
  have all: ∀j,j<ops.size→r.getD j false=true:=by
   intro j
   induction j using Nat.strongRecOn with
   |_ j ih=>
    intro hj
    cases hb:r.getD j false with
    |true=>rfl
    |false=>
     exfalso
     have:j∈Region.ready .any ops r:=by
      unfold Region.ready
      rw[List.mem_filter]
      refine⟨List.mem_range.2 hj, ?_⟩
      have h1:r.getD j true=false:=by
       grind
      rw[h1]
      simp only[Bool.not_false,Bool.true_and]
      have ho:ops[j]? =some ops[j]:=Array.getElem?_eq_getElem hj
      rw[ho]
      simp only[Option.map_some,Option.getD_some]
      rw[←Array.all_toList,List.all_eq_true]
      intro e he
      cases vY:Region.binds .any e with
      |false=>rfl
      |true=>
       simp only[Bool.not_true,Bool.false_or]
       have axr:e.on∈jJ ops[j]:=by
        unfold jJ
        exact List.mem_map.2 ⟨e,List.mem_filter.2 ⟨he,vY⟩,rfl⟩
       have hpj:(ops.toList.map jJ)[j]? =some (jJ ops[j]):=by simp[ho]
       have oa:=R.edges j _ hpj e.on axr
       exact ih e.on oa (by omega)
     grind
  have cond: ∀j,j<as.length→(r.getD j false=true↔j<as.length):=fun j hj=>⟨fun _=>hj,fun _=>all j (by omega)⟩
  have g1: ∀sp k,(pre as.length).get sp k=s.get sp k:=fun sp k=>(I.key sp k as.length (Nat.le_refl _) (fun j hj _=>cond j hj)).symm
  have g2: ∀t,an (pre as.length).fr t=an s.fr t:=fun t=>(I.slot t as.length (Nat.le_refl _) (fun j a hj _=>cond j (List.getElem?_eq_some_iff.1 hj).1)).symm
  exact Z a F Ib M1 (aeO g1 h) (aeP g1 g2 X) (UH g1 Y) O
 intro D
 induction D with
 |zero=>
  intro r s a F Ib M1 H Z8 W I h X Y O Z
  have hr:Region.ready .any ops r= []:=by
   simp_all[Region.ready,List.filter_eq_nil_iff,Bool.and_eq_true,List.eq_nil_of_length_eq_zero]
  exact⟨hr,done r s a F Ib M1 H W I h X Y O Z hr⟩
 |succ D ih=>
  intro r s a F Ib M1 H Z8 W I h X Y O Z
  refine⟨done r s a F Ib M1 H W I h X Y O Z,fun i hi=> ?_⟩
  unfold Region.ready at hi
  rw[List.mem_filter]at hi
  obtain⟨hir,Et⟩:=hi
  have qJ:i<ops.size:=List.mem_range.1 hir
  have ho:ops[i]? =some ops[i]:=Array.getElem?_eq_getElem qJ
  rw[ho]at Et
  simp only[Bool.and_eq_true,Bool.not_eq_true',Option.map_some,Option.getD_some]at Et
  obtain⟨A2,EU⟩:=Et
  have U:i<r.size:=by omega
  have Jz: ¬(r.getD i false=true):=by
   simp[Array.getD_eq_getD_getElem?,Array.getElem?_eq_getElem U]at A2 ⊢; exact A2
  have aqX: ∀ps,(ops.toList.map jJ)[i]? =some ps→ ∀p∈ps,r.getD p false=true:=by
   intro ps ta p hp
   simp[ho]at ta;subst ta
   unfold jJ at hp
   obtain⟨e,he,rfl⟩:=List.mem_map.1 hp
   obtain⟨EH,Y0⟩:=List.mem_filter.1 he
   rw[←Array.all_toList,List.all_eq_true]at EU
   have:=EU e EH
   simpa[Y0]using this
  obtain⟨ao,hao,tb⟩:=L0 i ops[i] (by simp)
  obtain⟨s',he,I'⟩:=UD R W I hao Jz aqX
  refine qX hE hO ho tb h X he ?_
  intro N w' J M' r1 r2 r3 r4
  have Jx: ∀j,(r.setIfInBounds i true).getD j false=true↔(r.getD j false=true∨j=i):=by
   intro j
   simp only[Array.getD_eq_getD_getElem?,Array.getElem?_setIfInBounds]
   by_cases hj:i=j
   ·subst hj;simp[U]
   ·rw[if_neg hj]
    exact⟨.inl,fun e=>e.resolve_right (fun e=>hj e.symm)⟩
  refine ih (r.setIfInBounds i true) s' N w' J M' (by simp[H]) ?_ ?_ ?_ r1 r2 (Y.trans r3 O) (Nat.le_trans O r4) Z
  ·have hfe:(List.range ops.size).filter (fun j=> !(r.setIfInBounds i true).getD j true)=((List.range ops.size).filter (fun j=> !r.getD j true)).filter (fun j=>decide (j≠i)):=by
    rw[List.filter_filter]
    apply List.filter_congr
    intro j hj
    simp only[Array.getD_eq_getD_getElem?,Array.getElem?_setIfInBounds]
    by_cases V:i=j
    ·subst V;simp[U]
    ·have: ¬j=i:=fun e=>V e.symm
     rw[if_neg V];simp[this]
   rw[hfe]
   have oa:(((List.range ops.size).filter (fun j=> !r.getD j true)).filter (fun j=>decide (j≠i))).length<((List.range ops.size).filter (fun j=> !r.getD j true)).length:=by
    rw[List.length_filter_lt_length_iff_exists]
    exact⟨i,List.mem_filter.2 ⟨hir,by rw[A2];rfl⟩,by simp⟩
   omega
  ·intro j ps ta hj p hp
   rw[Jx]at hj ⊢
   rcases hj with hj|hj
   ·exact .inl (W j ps ta hj p hp)
   ·subst hj;exact .inl (aqX ps ta p hp)
  ·have:(fun j=>(r.setIfInBounds i true).getD j false=true)=(fun j=>r.getD j false=true∨j=i):=by funext j;exact propext (Jx j)
   rw[this];exact I'
end
end Go.Ev
namespace Go.Ev
open Go
def aha:Out→Exit
 | .nrm=> .normal
 | .ext id=> .exit id
 | .ret=> .ret
section
variable{P:Program}{E:Env}{call:pw}{n:Nat}{hs:List Nat}
theorem UI{l:List Nat}{j:Nat}(h:j<l.length):l[j]? =some (ig 0 l j):=by
 induction l generalizing j with
 |nil=>simp at h
 |cons x xs ih=>
  cases j with
  |zero=>rfl
  |succ j=>grind [ig]
theorem UJ(hE:tJ P E)(hO:yg P E call)(hm:P.follows .mixedOrders=true){id:Nat}{ops:Array Oper}{as:List dy}(hc:kq P hs ops ops.toList=some as)(EH:xJ 0 (ops.toList.map jJ)=true)(Y0:xK (qk (ops.toList.map jJ) []) [] as=true)
  {B:lK} {st J:St} {a:Act} {w:World} {β:iA} {M:ic} (h:iH B st w β M) (O:nL st a w β M n) (U:iw E call n (rX (qk (ops.toList.map jJ) []) [] as) [] st=some J) {Q:Exit→Act→World→Prop}
  (hq: ∀I w' V M',iH B J w' V M'→nL J I w' V M' n→Tr st w β M J w' V M'→w.heap.size≤w'.heap.size→Q .normal I w'):(Code.region id ops true).wp P Q a w:=by
 obtain⟨D,L0⟩:=oV hc
 obtain⟨m1,m2,m3⟩:=Dh (ops.toList.map jJ) []
 have Y6:(qk (ops.toList.map jJ) []).length=as.length:=by rw[m1,D];simp
 obtain⟨pre,fp,W,p2,p3⟩:=Dj as [] _ [] st J rfl Y6 U
 have H: ∀j,j<as.length→(qk (ops.toList.map jJ) [])[j]? =some (ig 0 (qk (ops.toList.map jJ) []) j):=fun j r=>UI (by rw[Y6];exact r)
 have X:=yh _ 0 EH
 have R:oU E call n as (ops.toList.map jJ) (fun j i=>(ig 0 (qk (ops.toList.map jJ) []) j).testBit i) pre fp:=by
  refine⟨by rw[D];simp,fun j ps r p hp=>by have:=X j ps r p hp;omega,fun j ps r i=> ?_,fun j I r=> ?_,fun j a1 k a2 r hk F hb=> ?_,fun j a1 k a2 r hk F hb hq1 hq2=> ?_⟩
  ·have:=m3 j ps r i
   simp only[List.length_nil,Nat.zero_add]at this
   grind
  ·obtain⟨e1,e2,_⟩:=p3 j I _ r (H j (List.getElem?_eq_some_iff.1 r).1)
   grind
  ·exact yi as [] _ Y0 j a1 r _ (H j (List.getElem?_eq_some_iff.1 r).1) k a2 (by simpa using F) (by simpa using hk) hb
  ·obtain⟨_,_,e3⟩:=p3 j a1 _ r (H j (List.getElem?_eq_some_iff.1 r).1)
   simp_all
 obtain⟨d1,d2⟩:=GI h (w.drawn+1)
 refine wp_region_any hm ?_
 have Z9: ∀j,((Array.replicate ops.size false).getD j false=true)↔False:=by
  intro j
  simp only[Array.getD_eq_getD_getElem?,Array.getElem?_replicate]
  split <;> simp
 have hI:Inv as pre fp (fun j=>(Array.replicate ops.size false).getD j false=true) st:=by
  have Y:(fun j=>(Array.replicate ops.size false).getD j false=true)=fun _=>False:=by funext j;exact propext (Z9 j)
  rw[Y]
  refine⟨fun t i hi N=> ?_,fun sp k i hi N=> ?_,fun i hi N=> ?_⟩
  ·rw[JI R t 0 i (Nat.zero_le _) hi (fun j I r _ F hd=>(N j I r hd).2 F),W]
  ·rw[NZ R sp k 0 i (Nat.zero_le _) hi (fun j _ F hw=>(N j (by omega) hw).2 F),W]
  ·rw[N4 R 0 i (Nat.zero_le _) hi (fun j _ F=>by
    cases Z:(fp j).all with
    |false=>rfl
    |true=>exact((N j (by omega) Z).2 F).elim),W]
 refine ag8 (st:=st) (w:=w) (β:=β) (M:=M) hE hO hc R ops.size _ st a _ β M (by simp) ?_ ?_ hI d1 ⟨O.size,O.defers,fun t=>d2.val (O.slot t)⟩ d2 (Nat.le_refl _) ?_
 ·exact Nat.le_trans (List.length_filter_le _ _) (by simp)
 ·intro j ps _ r
  exact((Z9 j).1 r).elim
 grind
theorem lP{ops:Array Oper}{L:Array Bool}{i:Nat}(hi:i<ops.size):i∈Region.ready .any ops L↔L.getD i true=false∧ ∀p∈jJ ops[i],L.getD p false=true:=by
 have r:ops[i]? =some ops[i]:=Array.getElem?_eq_getElem hi
 unfold Region.ready
 rw[List.mem_filter,List.mem_range,r]
 simp only[Bool.and_eq_true,Bool.not_eq_true',Option.map_some,Option.getD_some,hi,true_and]
 refine and_congr_right fun _=> ?_
 rw[←Array.all_toList,List.all_eq_true]
 grind [jJ]
theorem sa{ops:Array Oper}{L:Array Bool}{i:Nat}(h:i∈Region.ready .any ops L):i<ops.size:=by
 grind [Region.ready]
theorem lV{o:dy}{i:List dy}{st s:St}(h:dE E call n (o::i) st=some s): ∃t,iN E call n o st=some t∧dE E call n i t=some s:=by
 grind [dE]
theorem aaa(hE:tJ P E)(hO:yg P E call)(hm:P.follows .mixedOrders=true){id:Nat}{ops:Array Oper}{o0 o1 o2 o3:dy}(hc:kq P hs ops ops.toList=some [o0,o1,o2,o3])(D:GH (ops.toList.map jJ)=true)
  {B:lK} {st s1 s2:St} {a:Act} {w:World} {β:iA} {M:ic} (h:iH B st w β M) (hf:nL st a w β M n) (O:dE E call n [o0,o1,o2,o3] st=some s1) (U:dE E call n [o0,o2,o1,o3] st=some s2) {Q:Exit→Act→World→Prop}
  (q1: ∀H w' r M',iH B s1 w' r M'→nL s1 H w' r M' n→Tr st w β M s1 w' r M'→w.heap.size≤w'.heap.size→Q .normal H w')
  (q2: ∀H w' r M',iH B s2 w' r M'→nL s2 H w' r M' n→Tr st w β M s2 w' r M'→w.heap.size≤w'.heap.size→Q .normal H w'):(Code.region id ops true).wp P Q a w:=by
 obtain⟨hlen,L0⟩:=oV hc
 have oR:ops.size=4:=by simpa using hlen.symm
 obtain⟨t0,f0,O⟩:=lV O
 obtain⟨t1,f1,O⟩:=lV O
 obtain⟨t2,f2,O⟩:=lV O
 obtain⟨t3,f3,O⟩:=lV O
 simp only[dE,Option.some.injEq]at O
 subst O
 obtain⟨t0',g0,U⟩:=lV U
 obtain⟨u1,g1,U⟩:=lV U
 obtain⟨u2,g2,U⟩:=lV U
 obtain⟨u3,g3,U⟩:=lV U
 simp only[dE,Option.some.injEq]at U
 subst U
 rw[f0]at g0
 injection g0 with g0
 subst g0
 have k9: ∀j (hj:j<ops.size) (ao:dy),[o0,o1,o2,o3][j]? =some ao→uj P hs ops ops[j]=some ao:=by
  intro j hj ao hao
  obtain⟨x,hx,hy⟩:=L0 j ops[j] (by simp)
  grind
 have ta: ∃p1 p2 p3,ops.toList.map jJ= [[],p1,p2,p3]∧0∈p1∧0∈p2∧(∀x∈p1,x<1)∧(∀x∈p2,x<1)∧1∈p3∧2∈p3∧ ∀x∈p3,x<3:=by
  unfold GH at D
  grind
 obtain⟨p1,p2,p3,aEa,a1,a2,b1,b2,c1,c2,c3⟩:=ta
 have V: ∀j (hj:j<ops.size) (ps:List Nat),[[],p1,p2,p3][j]? =some ps→jJ ops[j]=ps:=by
  grind
 have W:0<ops.size:=by omega
 have F:1<ops.size:=by omega
 have J:2<ops.size:=by omega
 have X:3<ops.size:=by omega
 have r0:=V 0 W [] rfl
 have r1:=V 1 F p1 rfl
 have r2:=V 2 J p2 rfl
 have r3:=V 3 X p3 rfl
 obtain⟨d1,d2⟩:=GI h (w.drawn+1)
 refine wp_region_any hm ?_
 rw[oR]
 have base:nL st a {w with drawn:=w.drawn+1} β M n:=⟨hf.size,hf.defers,fun t=>d2.val (hf.slot t)⟩
 have sz0:w.heap.size≤{w with drawn:=w.drawn+1}.heap.size:=Nat.le_refl _
 have Z: ∀(t s:St),iN E call n o3 t=some s→(∀H w' r M',iH B s w' r M'→nL s H w' r M' n→Tr st w β M s w' r M'→w.heap.size≤w'.heap.size→Q .normal H w')→
   ∀H w' r M',iH B t w' r M'→nL t H w' r M' n→Tr st w β M t w' r M'→w.heap.size≤w'.heap.size→wpAny P .any ops Q 1 #[true,true,true,false] H w':=by
  intro t s he hq H w' r M' x1 x2 x3 x4
  refine⟨fun hr=> ?_,fun i hi=> ?_⟩
  ·have:3∈Region.ready .any ops #[true,true,true,false]:=(lP X).2 ⟨rfl,fun p D=>by
    rw[r3]at D
    have:=c3 p D
    have:p=0∨p=1∨p=2:=by omega
    rcases this with rfl|rfl|rfl <;> rfl⟩
   rw[hr]at this;cases this
  ·have N:=sa hi
   obtain⟨I,_⟩:=(lP N).1 hi
   have:i=0∨i=1∨i=2∨i=3:=by omega
   rcases this with rfl|rfl|rfl|rfl
   ·cases I
   ·cases I
   ·cases I
   ·refine qX hE hO (o:=ops[3]) (Array.getElem?_eq_getElem X) (k9 3 X o3 rfl) x1 x2 he ?_
    intro a2 w2 UG M2 z1 z2 z3 z4
    have hr0:Region.ready .any ops (#[true,true,true,false].setIfInBounds 3 true)= []:=by
     rw[List.eq_nil_iff_forall_not_mem]
     intro i hi
     have N:=sa hi
     obtain⟨I,_⟩:=(lP N).1 hi
     have:i=0∨i=1∨i=2∨i=3:=by omega
     rcases this with rfl|rfl|rfl|rfl <;> cases I
    exact⟨hr0,hq a2 w2 UG M2 z1 z2 (x3.trans z3 x4) (Nat.le_trans x4 z4)⟩
 refine⟨fun hr=> ?_,fun i hi=> ?_⟩
 ·have:0∈Region.ready .any ops (Array.replicate 4 false):=(lP W).2 ⟨rfl,fun p D=>by rw[r0]at D;cases D⟩
  rw[hr]at this;cases this
 ·have N:=sa hi
  obtain⟨I,Y⟩:=(lP N).1 hi
  have:i=0∨i=1∨i=2∨i=3:=by omega
  rcases this with rfl|rfl|rfl|rfl
  ·refine qX hE hO (o:=ops[0]) (Array.getElem?_eq_getElem W) (k9 0 W o0 rfl) d1 base f0 ?_
   intro H w' r M' x1 x2 x3 x4
   have x3':Tr st w β M t0 w' r M':=d2.trans x3 sz0
   show wpAny P .any ops Q 3 #[true,false,false,false] H w'
   refine⟨fun hr=> ?_,fun i hi=> ?_⟩
   ·have:1∈Region.ready .any ops #[true,false,false,false]:=(lP F).2 ⟨rfl,fun p D=>by
     rw[r1]at D
     have:=b1 p D
     have:p=0:=by omega
     subst this;rfl⟩
    rw[hr]at this;cases this
   ·have N:=sa hi
    obtain⟨I,Y⟩:=(lP N).1 hi
    have:i=0∨i=1∨i=2∨i=3:=by omega
    rcases this with rfl|rfl|rfl|rfl
    ·cases I
    ·refine qX hE hO (o:=ops[1]) (Array.getElem?_eq_getElem F) (k9 1 F o1 rfl) x1 x2 f1 ?_
     intro a2 w2 UG M2 z1 z2 z3 z4
     have z3':=x3'.trans z3 x4
     show wpAny P .any ops Q 2 #[true,true,false,false] a2 w2
     refine⟨fun hr=> ?_,fun i hi=> ?_⟩
     ·have:2∈Region.ready .any ops #[true,true,false,false]:=(lP J).2 ⟨rfl,fun p D=>by
       rw[r2]at D
       have:=b2 p D
       have:p=0:=by omega
       subst this;rfl⟩
      rw[hr]at this;cases this
     ·have N:=sa hi
      obtain⟨I,Y⟩:=(lP N).1 hi
      have:i=0∨i=1∨i=2∨i=3:=by omega
      rcases this with rfl|rfl|rfl|rfl
      ·cases I
      ·cases I
      ·refine qX hE hO (o:=ops[2]) (Array.getElem?_eq_getElem J) (k9 2 J o2 rfl) z1 z2 f2 ?_
       intro a3 w3 β3 M3 v1 v2 v3 v4
       exact Z t2 t3 f3 q1 a3 w3 β3 M3 v1 v2 (z3'.trans v3 (Nat.le_trans x4 z4)) (Nat.le_trans x4 (Nat.le_trans z4 v4))
      ·have:=Y 2 (by rw[r3];exact c2);cases this
    ·refine qX hE hO (o:=ops[2]) (Array.getElem?_eq_getElem J) (k9 2 J o2 rfl) x1 x2 g1 ?_
     intro a2 w2 UG M2 z1 z2 z3 z4
     have z3':=x3'.trans z3 x4
     show wpAny P .any ops Q 2 #[true,false,true,false] a2 w2
     refine⟨fun hr=> ?_,fun i hi=> ?_⟩
     ·have:1∈Region.ready .any ops #[true,false,true,false]:=(lP F).2 ⟨rfl,fun p D=>by
       rw[r1]at D
       have:=b1 p D
       have:p=0:=by omega
       subst this;rfl⟩
      rw[hr]at this;cases this
     ·have N:=sa hi
      obtain⟨I,Y⟩:=(lP N).1 hi
      have:i=0∨i=1∨i=2∨i=3:=by omega
      rcases this with rfl|rfl|rfl|rfl
      ·cases I
      ·refine qX hE hO (o:=ops[1]) (Array.getElem?_eq_getElem F) (k9 1 F o1 rfl) z1 z2 g2 ?_
       intro a3 w3 β3 M3 v1 v2 v3 v4
       exact Z u2 u3 g3 q2 a3 w3 β3 M3 v1 v2 (z3'.trans v3 (Nat.le_trans x4 z4)) (Nat.le_trans x4 (Nat.le_trans z4 v4))
      ·cases I
      ·have:=Y 1 (by rw[r3];exact c1);cases this
    ·have:=Y 1 (by rw[r3];exact c1);cases this
  ·have:=Y 0 (by rw[r1];exact a1);cases this
  ·have:=Y 0 (by rw[r2];exact a2);cases this
  ·have:=Y 1 (by rw[r3];exact c1);cases this
theorem sd(ks:List Nat)(f:Fr)(j:Nat):an (xI ks f) j=if j∈ks then .any else an f j:=by
 induction ks with
 |nil=>simp[xI]
 |cons k ks ih=>
  grind [xI,qa]
theorem FJ(ks:List Nat)(l i:gW b8)(j:Nat):gW.get lG (CQ ks l i) j=if j∈ks then⟨max (gW.get lG l j).g (gW.get lG i j).g,.none⟩else gW.get lG l j:=by
 induction ks with
 |nil=>simp[CQ]
 |cons k ks ih=>
  grind [CQ,gW.get_set]
theorem uw(ks:List Nat)(s t:St)(sp:Sp)(k:Nat):(rU ks s t).get sp k=if sp= .L∧k∈ks then⟨max (s.get sp k).g (t.get sp k).g,.none⟩else s.get sp k:=by
 cases sp with
 |S=>rw[if_neg (by simp)];rfl
 |L=>
  show gW.get lG (CQ ks s.lh t.lh) k=_
  rw[FJ]
  by_cases h:k∈ks
  ·rw[if_pos h,if_pos ⟨rfl,h⟩];rfl
  ·rw[if_neg h,if_neg (by simp[h])];rfl
theorem Aa(ks:List Nat)(s t:St)(sp:Sp)(k:Nat):s.gens sp k≤(rU ks s t).gens sp k:=by
 show(s.get sp k).g≤((rU ks s t).get sp k).g
 rw[uw]
 grind
theorem se{ks:List Nat}{s t:St}{sp:Sp}{k:Nat}(h:live ((rU ks s t).get sp k)):(rU ks s t).get sp k=s.get sp k∧live (s.get sp k):=by
 rw[uw]at h ⊢
 split at h
 ·exact h.elim
 ·grind
theorem tc{ks:List Nat}{s t:St}{sp:Sp}{k:Nat}(h:live ((rU ks s t).get sp k)):(rU ks s t).gens sp k=s.gens sp k:=by
 show((rU ks s t).get sp k).g=(s.get sp k).g
 rw[(se h).1]
theorem UK(ks:List Nat)(t:St){B:lK}{s:St}{w:World}{β:iA}{M:ic}(h:iH B s w β M):iH B (rU ks s t) w β M:=by
 refine⟨fun sp k=> ?_,fun sp k F k' r D e=> ?_,h.mlt,fun k i=> ?_,fun k i=> ?_,h.os,h.tape,h.output,h.size,h.same,h.keep,h.msup⟩
 ·rw[uw]
  split
  ·unfold kF;trivial
  ·exact kF.mono (ku.refl w M) (fun _ _ _ _=>rfl) (Aa ks s t) (Nat.le_refl _) (fun _=>rfl) (fun _ _ h=>h) (h.obj sp k)
 ·rw[tc r,tc D]at e;exact h.dist sp k F k' (se r).2 (se D).2 e
 ·rw[tc i];exact h.lblk k (se i).2
 ·rw[tc i];exact h.sblk k (se i).2
theorem UL(ks:List Nat)(t:St){s:St}{a:Act}{w:World}{β:iA}{M:ic}(h:nL s a w β M n):nL (rU ks s t) a w β M n:=by
 refine⟨h.size,h.defers,fun i=> ?_⟩
 show fy β (rU ks s t).gens w M (an (xI ks s.fr) i) _
 rw[sd]
 split
 ·simp only[fy]
 ·exact fy.mono (ku.refl w M) (fun _ _ _ _=>rfl) (Aa ks s t) _ _ (h.slot i)
theorem UM(ks:List Nat)(t:St){st s:St}{w w':World}{β iC:iA}{M M':ic}(h:Tr st w β M s w' iC M'):Tr st w β M (rU ks s t) w' iC M':=⟨h.keep,h.beta,fun sp k=>Nat.le_trans (h.gens sp k) (Aa ks s t sp k)⟩
theorem Dm{ks:List Nat}{s t:St}(h:CT ks s t)(sp:Sp)(k:Nat):(rU ks s t).get sp k=(rU ks t s).get sp k:=by
 obtain⟨i,_,r⟩:=h
 cases sp with
 |S=>show gY s.sh k=gY t.sh k;rw[i]
 |L=>
  rw[uw,uw]
  by_cases hk:k∈ks
  ·grind
  ·rw[if_neg (by simp[hk]),if_neg (by simp[hk])]
   exact r k hk
theorem aab{ks:List Nat}{s t:St}(h:CT ks s t)(k:Nat):an (rU ks s t).fr k=an (rU ks t s).fr k:=by
 show an (xI ks s.fr) k=an (xI ks t.fr) k
 rw[sd,sd]
 split
 ·rfl
 ·rename_i hk;exact h.2.1 k hk
theorem wD{ks:List Nat}{D F:Option (Out×St)}{o:Out}{s:St}(h:NF ks D F=some (o,s)): ∃i r,D=some (o,i)∧F=some (o,r)∧CT ks i r∧s=rU ks i r:=by
 unfold NF at h
 grind
theorem JJ(a:Code)(r i:fx):NG P hs a r i= .seq r i∨ ∃id ops D F H I,a= .region id ops true∧kq P hs ops ops.toList=some [D,F,H,I]∧GH (ops.toList.map jJ)=true∧NG P hs a r i= .fork [D,F,H,I] [D,H,F,I] i:=by
 unfold NG
 grind
theorem ahd(hE:tJ P E)(hO:yg P E call)(hm:P.follows .mixedOrders=true)(fl:Nat): ∀(c:Code) (ac:fx),mL P hs c=some ac→
  ∀{B:lK} {st W:St} {a:Act} {w:World} {β:iA} {M:ic} {o:Out},iH B st w β M→nL st a w β M n→mq E call fl n ac st=some (o,W)→ ∀{Q:Exit→Act→World→Prop},
  (∀J w' N M',iH B W w' N M'→nL W J w' N M' n→Tr st w β M W w' N M'→w.heap.size≤w'.heap.size→Q (aha o) J w')→c.wp P Q a w:=by
 intro c
 induction c with
 |skip=>
  intro ac hc B st W a w β M o h D i Q r
  simp[mL]at hc;subst hc
  simp[mq]at i;obtain⟨rfl,rfl⟩:=i
  exact wp_skip (r a w β M h D (Tr.refl _ _ _ _) (Nat.le_refl _))
 |region id ops draw=>
  intro ac hc B st W a w β M o h D i Q r
  cases draw with
  |false=>
   simp only[mL,Option.map_eq_some_iff]at hc
   obtain⟨as,H,rfl⟩:=hc
   simp only[mq,Option.map_eq_some_iff]at i
   obtain⟨Y,Z,h3⟩:=i
   simp at h3;obtain⟨rfl,rfl⟩:=h3
   refine wp_region ?_
   rw[List.range_eq_range']
   exact UF hE hO ops.size 0 as (by omega) (by simpa using H) h D Z r
  |true=>
   simp only[mL]at hc
   split at hc
   ·rename_i as H
    split at hc
    ·rename_i hcc
     simp only[Bool.and_eq_true]at hcc
     simp at hc;subst hc
     simp only[mq,Option.map_eq_some_iff]at i
     obtain⟨Y,Z,h3⟩:=i
     simp at h3;obtain⟨rfl,rfl⟩:=h3
     exact UJ hE hO hm H hcc.1 hcc.2 h D Z r
    ·cases hc
   ·cases hc
 |seq x y X UN=>
  intro ac hc B st W a w β M o h D i Q r
  simp only[mL]at hc
  split at hc
  ·rename_i F ay H Z
   simp only[Option.some.injEq]at hc
   rcases JJ (P:=P) (hs:=hs) x F ay with hj|⟨id,ops,o0,o1,o2,o3,rfl,tb,N7,hj⟩
   rotate_left
   ·rw[hj]at hc
    subst hc
    simp only[mq]at i
    split at i
    ·rename_i s1 s2 e1 e2
     obtain⟨t1,t2,g1,g2,vG,rfl⟩:=wD i
     refine wp_seq ?_
     refine aaa hE hO hm tb N7 h D e1 e2 ?_ ?_
     ·intro J w' N M' O U V I
      exact UN ay Z O U g1 (fun a2 w2 UG M2 z1 z2 z3 z4=>r a2 w2 UG M2 (UK _ _ z1) (UL _ _ z2) (UM _ _ (V.trans z3 I)) (Nat.le_trans I z4))
     ·intro J w' N M' O U V I
      exact UN ay Z O U g2 (fun a2 w2 UG M2 z1 z2 z3 z4=>r a2 w2 UG M2 (aeO (Dm vG) (UK _ _ z1)) (aeP (Dm vG) (aab vG) (UL _ _ z2)) (UH (Dm vG) (UM _ _ (V.trans z3 I))) (Nat.le_trans I z4))
    ·cases i
   rw[hj]at hc
   subst hc
   simp only[mq]at i
   refine wp_seq ?_
   cases hx:mq E call fl n F st with
   |none=>simp[hx]at i
   |some p=>
    obtain⟨ox,Y⟩:=p
    cases ox with
    |nrm=>
     simp only[hx]at i
     refine X F H h D hx ?_
     intro J w' N M' O U V I
     exact UN ay Z O U i (fun a2 w2 UG M2 s1 s2 s3 s4=>r a2 w2 UG M2 s1 s2 (V.trans s3 I) (Nat.le_trans I s4))
    |ext id=>
     simp[hx]at i;obtain⟨rfl,rfl⟩:=i
     exact X F H h D hx r
    |ret=>
     simp[hx]at i;obtain⟨rfl,rfl⟩:=i
     exact X F H h D hx r
  ·cases hc
 |cond c x y X UN=>
  intro ac hc B st W a w β M o h D i Q r
  simp only[mL]at hc
  split at hc
  ·rename_i c' F ay h0 H Z
   simp at hc;subst hc
   simp only[mq]at i
   have vc:=Ug D c c' h0
   split at i
   ·rename_i e
    rw[e]at vc
    exact wp_cond_true vc.bool (X F H h D i r)
   ·rename_i e
    rw[e]at vc
    exact wp_cond_false vc.bool (UN ay Z h D i r)
   ·cases i
  ·cases hc
 |block id x ih=>
  intro ac hc B st W a w β M o h D i Q r
  simp only[mL,Option.map_eq_some_iff]at hc
  obtain⟨F,H,rfl⟩:=hc
  simp only[mq]at i
  refine wp_block ?_
  cases hx:mq E call fl n F st with
  |none=>simp[hx]at i
  |some p=>
   obtain⟨ox,Y⟩:=p
   cases ox with
   |nrm=>simp[hx]at i;obtain⟨rfl,rfl⟩:=i;exact ih F H h D hx r
   |ret=>simp[hx]at i;obtain⟨rfl,rfl⟩:=i;exact ih F H h D hx r
   |ext Qr=>
    simp only[hx]at i
    by_cases hid:Qr=id
    ·simp only[hid,if_true,Option.some.injEq,Prod.mk.injEq]at i
     obtain⟨rfl,rfl⟩:=i
     refine ih F H h D hx ?_
     intro J w' N M' O U V I
     show Exit.inBlock id Q (.exit Qr) J w'
     simp only[Exit.inBlock,hid,if_true]
     exact r J w' N M' O U V I
    ·simp only[hid,if_false,Option.some.injEq,Prod.mk.injEq]at i
     obtain⟨rfl,rfl⟩:=i
     refine ih F H h D hx ?_
     intro J w' N M' O U V I
     show Exit.inBlock id Q (.exit Qr) J w'
     simp only[Exit.inBlock,hid,if_false]
     exact r J w' N M' O U V I
 |loop x ih=>
  intro ac hc B st W a w β M o h D i Q r
  simp only[mL,Option.map_eq_some_iff]at hc
  obtain⟨F,H,rfl⟩:=hc
  simp only[mq]at i
  have key: ∀(m:Nat) (Y:St) (a1:Act) (w1:World) (Ib:iA) (M1:ic),iH B Y w1 Ib M1→nL Y a1 w1 Ib M1 n→Tr st w β M Y w1 Ib M1→w.heap.size≤w1.heap.size→iter (mq E call fl n F) m Y=some (o,W)→Code.rounds P x Q m a1 w1:=by
   intro m
   induction m with
   |zero=>grind [iter]
   |succ m ihm=>
    intro Y a1 w1 Ib M1 g1 g2 g3 g4 hi
    rw[rounds_succ]
    simp only[iter]at hi
    cases hx:mq E call fl n F Y with
    |none=>simp[hx]at hi
    |some p=>
     obtain⟨ox,zX⟩:=p
     cases ox with
     |nrm=>
      simp only[hx]at hi
      refine ih F H g1 g2 hx ?_
      intro J w' N M' O U V I
      exact ihm zX J w' N M' O U (g3.trans V g4) (Nat.le_trans g4 I) hi
     |ext id=>
      simp[hx]at hi;obtain⟨rfl,rfl⟩:=hi
      refine ih F H g1 g2 hx ?_
      intro J w' N M' O U V I
      exact r J w' N M' O U (g3.trans V g4) (Nat.le_trans g4 I)
     |ret=>
      simp[hx]at hi;obtain⟨rfl,rfl⟩:=hi
      refine ih F H g1 g2 hx ?_
      intro J w' N M' O U V I
      exact r J w' N M' O U (g3.trans V g4) (Nat.le_trans g4 I)
  exact wp_loop_rounds fl (key fl st a w β M h D (Tr.refl _ _ _ _) (Nat.le_refl _) i)
 |exit id=>
  intro ac hc B st W a w β M o h D i Q r
  simp[mL]at hc;subst hc
  simp[mq]at i;obtain⟨rfl,rfl⟩:=i
  exact wp_exit (r a w β M h D (Tr.refl _ _ _ _) (Nat.le_refl _))
 |ret=>
  intro ac hc B st W a w β M o h D i Q r
  simp[mL]at hc;subst hc
  simp[mq]at i;obtain⟨rfl,rfl⟩:=i
  exact wp_ret (r a w β M h D (Tr.refl _ _ _ _) (Nat.le_refl _))
 |rangeFunc _ _ _ _=>grind [mL]
 |scope _=>grind [mL]
 |label _=>grind [mL]
 |goto _=>grind [mL]
 |refuse _=>grind [mL]
end
end Go.Ev
namespace Go.Ev
open Go
section
variable{P:Program}{E:Env}{n:Nat}
def GX(ts:Array Value)(r:ResultVar):Sem Value:=
 match r with
 | .tmp t=>pure (ts.getD t undef)
 | .cell ad t=>do loadVar t (←asAddr (ts.getD ad undef))
theorem L1(r:Func)(ts:Array Value):results r ts=(do
  let i ←(List.toArray <$> r.results.toList.mapM (GX ts))
  pure (if h:i.size=1 then i[0]else .tuple i)):=by
 unfold results
 rw[Array.mapM_eq_mapM_toList]
 congr 2
theorem wE{B:lK}{st:St}{a:Act}{w:World}{β:iA}{M:ic}(h:iH B st w β M)(H:nL st a w β M n): ∀(rs:List ResultVar) (i:List pU) (F:List T),sQ P rs=some i→nh st i=some F→
  ∃D:List Value,(rs.mapM (GX a.tmps)).run P w=Result.ok D w∧gO β st.gens w M F D
 | [],i,F,hc,hr=>by
   simp_all[sQ,nh,gO]
 | .tmp t::rs,i,F,hc,hr=>by
   simp only[sQ,Option.map_eq_some_iff]at hc
   obtain⟨r,J,rfl⟩:=hc
   simp only[nh,Jh]at hr
   split at hr
   ·rename_i v N I O
    simp at hr I;subst hr;subst I
    obtain⟨D,U,V⟩:=wE h H rs r N J O
    refine⟨a.tmps.getD t undef::D, ?_, ?_⟩
    ·grind [GX,Sem.run_bind,Sem.run_pure,Result.andThen_ok]
    ·simp only[gO];exact⟨_,_,rfl,H.slot t,V⟩
   ·cases hr
 | .cell ad t::rs,i,F,hc,hr=>by
   simp only[sQ]at hc
   split at hc
   ·rename_i sz ag r J W X
    simp at hc;subst hc
    simp only[nh,Jh]at hr
    split at hr
    ·rename_i v N I O
     simp at hr;subst hr
     obtain⟨D,U,V⟩:=wE h H rs r N X O
     obtain⟨Y,cv,Z,q2,q3⟩:=Jo (P:=P) h J W (H.slot ad) I
     refine⟨cv::D, ?_, ?_⟩
     ·rw[List.mapM_cons]
      simp only[GX,Sem.run_bind,Z,asAddr,Sem.run_pure,Result.andThen_ok,q2,U]
     ·grind [gO]
    ·cases hr
   ·cases hc
theorem QF{β:iA}{G:Sp→Nat→Nat}{w:World}{M:ic}{args:List T}{i:Array Value}(F:gO β G w M args i.toList)(k:Nat)(t:Nat):fy β G w M (an (pF args) t) ((i++Array.replicate k undef).getD t undef):=by
 have r:=gO.length _ _ F
 by_cases I:t<args.length
 ·have J:args[t]? =some args[t]:=List.getElem?_eq_getElem I
  obtain⟨cv,N,V⟩:=F.get J
  have H:an (pF args) t=args[t]:=by
   rw[Fw]
   have: ∀(l:List T) (j:Nat) (D:j<l.length),ig iG l j=l[j]:=by
    intro l
    induction l with
    |nil=>grind
    |cons x xs ih=>intro j D;cases j with|zero=>rfl|succ j=>exact ih j (by simpa using D)
   grind
  have O:i[t]? =some cv:=by simpa using N
  have W:t<i.size:=by simp at r;omega
  simp_all[Array.getD_eq_getD_getElem?,Array.getElem?_append_left]
 ·have H:an (pF args) t=iG:=by
   rw[Fw]
   have: ∀(l:List T) (j:Nat),l.length≤j→ig iG l j=iG:=by
    intro l
    induction l with
    |nil=>intro j _;rfl
    |cons x xs ih=>intro j D;cases j with|zero=>simp at D|succ j=>exact ih j (by simpa using D)
   grind
  have U:(i++Array.replicate k undef).getD t undef=undef:=by
   rw[Array.getD_eq_getD_getElem?,Array.getElem?_append_right (by simp at r;omega),Array.getElem?_replicate]
   split <;> rfl
  rw[H,U]
  simp[fy,iG,undef,gO]
def pack:List T→T
 | [v]=>v
 |vs=> .tup vs
theorem L2{keep:Bool}{n:Nat}:fz keep (n+1) .nilsl= .ret (.nilsl,[]):=rfl
theorem yj{f:T→Q (T×List Up)}{h:Sp→Nat→b8}{r:Nat}(I:f .nilsl= .ret (.nilsl,[])): ∀(ts:List T) {j:Nat} {q:List T×List Up},(iL f ts).run h r=some q→ts[j]? =some .nilsl→q.1[j]? =some .nilsl
 | [],j,q,_,D=>by simp at D
 |t::ts,j,q,i,D=>by
  simp only[iL,Q.run_bind]at i
  cases H:(f t).run h r with
  |none=>simp[H]at i
  |some p=>
   simp only[H,Option.bind_some]at i
   cases F:(iL f ts).run h r with
   |none=>simp[F]at i
   |some J=>
    simp only[F,Option.bind_some,Q.run,Option.some.injEq]at i
    subst i
    cases j with
    |zero=>
     grind [Q.run]
    |succ j=>simpa using yj I ts F (by simpa using D)
theorem GY{f:T→Q (T×List Up)}{h:Sp→Nat→b8}{r:Nat}: ∀(ts:List T) {j:Nat} {q:List T×List Up} {x:T},(iL f ts).run h r=some q→ts[j]? =some x→ ∃p,(f x).run h r=some p∧q.1[j]? =some p.1
 | [],j,q,x,_,D=>by simp at D
 |t::ts,j,q,x,i,D=>by
  simp only[iL,Q.run_bind]at i
  cases H:(f t).run h r with
  |none=>simp[H]at i
  |some p=>
   simp only[H,Option.bind_some]at i
   cases F:(iL f ts).run h r with
   |none=>simp[F]at i
   |some I=>
    simp only[F,Option.bind_some,Q.run,Option.some.injEq]at i
    subst i
    cases j with
    |zero=>grind
    |succ j=>simpa using GY ts F (by simpa using D)
theorem GZ{n:Nat}{cs:List T}{h:Sp→Nat→b8}{i:Nat}{p:T×List Up}(r:(fz false (n+1) (.agg cs)).run h i=some p): ∃q,(iL (fz false n) cs).run h i=some q∧p.1= .agg q.1:=by
 have r:((iL (fz false n) cs).bind fun q=>Q.ret (T.agg q.1,q.2)).run h i=some p:=r
 rw[Q.run_bind]at r
 cases D:(iL (fz false n) cs).run h i with
 |none=>simp[D]at r
 |some q=>
  grind [Q.run,Option.some.injEq]
theorem ahf{r t y:T}{us:List Up}{h:Sp→Nat→b8}{F j:Nat}(i:(fz false iq (iv r j .nilsl)).run h F=some (t,us))(hc:kO r j=some y):okC t j:=by
 cases r
 case tup vs=>
  by_cases H:j<100
  ·simp only[iv,H,if_true]at i
   have i:((iL (fz false 7) (vs.set j .nilsl)).bind fun q=>Q.ret (T.tup q.1,q.2)).run h F=some (t,us):=i
   rw[Q.run_bind]at i
   cases D:(iL (fz false 7) (vs.set j .nilsl)).run h F with
   |none=>simp[D]at i
   |some q=>
    simp only[D,Option.bind_some,Q.run,Option.some.injEq,Prod.mk.injEq]at i
    obtain⟨rfl,rfl⟩:=i
    exact .inl H
  ·simp only[kO,H,if_false]at hc
   cases hi:vs[j/100-1]? with
   |none=>grind
   |some I=>
    rw[hi]at hc
    cases I <;> try (simp only at hc;cases hc;done)
    rename_i cs
    simp only[iv,H,if_false,hi]at i
    have i:((iL (fz false 7) (vs.set (j/100-1) (.agg (cs.set (j%100) .nilsl)))).bind fun q=>Q.ret (T.tup q.1,q.2)).run h F=some (t,us):=i
    rw[Q.run_bind]at i
    cases D:(iL (fz false 7) (vs.set (j/100-1) (.agg (cs.set (j%100) .nilsl)))).run h F with
    |none=>simp[D]at i
    |some q=>
     simp only[D,Option.bind_some,Q.run,Option.some.injEq,Prod.mk.injEq]at i
     obtain⟨rfl,rfl⟩:=i
     obtain⟨p,J,N⟩:=GY _ D (List.getElem?_set_self (List.getElem?_eq_some_iff.1 hi).1)
     obtain⟨O,_,e⟩:=GZ J
     exact .inr ⟨O.1,by rw[N,e]⟩
 case agg vs=>
  simp only[iv]at i
  obtain⟨q,_,e⟩:=GZ (n:=7) i
  rw[show t=_ from e]
  trivial
 case any=>simp[kO]at hc
 all_goals
  simp[iv,iq,fz,Q.run]at i
  obtain⟨rfl,rfl⟩:=i
  trivial
theorem aac{r t:T}{us:List Up}{h:Sp→Nat→b8}{F j:Nat}(i:(fz false iq r).run h F=some (t,us))(hc:kO r j=some .nilsl):kO t j=some .nilsl:=by
 cases r
 case tup vs=>
  have i:((iL (fz false 7) vs).bind fun q=>Q.ret (T.tup q.1,q.2)).run h F=some (t,us):=i
  rw[Q.run_bind]at i
  cases D:(iL (fz false 7) vs).run h F with
  |none=>simp[D]at i
  |some q=>
   simp only[D,Option.bind_some,Q.run,Option.some.injEq,Prod.mk.injEq]at i
   obtain⟨rfl,rfl⟩:=i
   simp only[kO]at hc ⊢
   by_cases H:j<100
   ·rw[if_pos H]at hc ⊢
    exact yj L2 vs D hc
   ·rw[if_neg H]at hc ⊢
    cases hi:vs[j/100-1]? with
    |none=>grind
    |some I=>
     rw[hi]at hc
     cases I <;> try (simp only at hc;cases hc;done)
     rename_i cs
     obtain⟨p,J,N⟩:=GY _ D hi
     obtain⟨V,O,U⟩:=GZ J
     rw[N,U]
     exact yj L2 cs O hc
 case agg vs=>
  have i:((iL (fz false 7) vs).bind fun q=>Q.ret (T.agg q.1,q.2)).run h F=some (t,us):=i
  rw[Q.run_bind]at i
  cases D:(iL (fz false 7) vs).run h F with
  |none=>simp[D]at i
  |some q=>
   simp only[D,Option.bind_some,Q.run,Option.some.injEq,Prod.mk.injEq]at i
   obtain⟨rfl,rfl⟩:=i
   exact yj L2 vs D hc
 all_goals
  simp only[kO,Option.some.injEq]at hc
  try (cases hc;done)
 simp[iq,fz,Q.run]at i
 obtain⟨rfl,rfl⟩:=i
 rfl
theorem Dn(hE:tJ P E)(hm:P.follows .mixedOrders=true){m:Nat}(hO:yg P E (jP E m)){f:Nat}{af:gP}{args:List T}{sh:List b8}{r:T}{X:List b8}(BK:E.fn f=some af)(i:jP E (m+1) f args sh=some (r,X))
  {w:World} {β:iA} {M:ic} {cargs:Array Value} (AQ:iH ⟨w,M,kZ sh β⟩ (bare .nil sh) w β M) (Y:gO β (bare .nil sh).gens w M args cargs.toList) {Q:Ending→World→Prop}
  (hQ: ∀I D w' O M' v,iH ⟨w,M,kZ sh β⟩ I w' O M'→sP af.own af.eff D I=some (r,X)→fy O I.gens w' M' (pack D) v→Tr (bare (pF args) sh) w β M I w' O M'→Q (.returned v) w'):Calls P f cargs w Q:=by
  obtain⟨hs,fn,hf,F⟩:=hE.1 f af BK
  simp only[jP,BK]at i
  split at i
  ·cases i
  ·rename_i hlen
   unfold Fs at F
   split at F
   ·cases F
   ·split at F
    ·cases F
    ·rename_i code Z
     split at F
     ·rename_i ac V h1 h2
      simp at F
      have hV:gO β (bare (pF args) sh).gens w M args cargs.toList:=Y
      have lX:=gO.length _ _ hV
      have hn:fn.ntmps=af.n:=by rw[←F]
      have aq0:af.code=ac:=by rw[←F]
      have EN:af.res=V:=by rw[←F]
      rw[aq0]at i
      cases H:mq E (jP E m) m af.n ac {fr:=pF args,lh:= .nil,sh}with
      |none=>simp[H]at i
      |some p=>
       obtain⟨o,I⟩:=p
       have Qu:o≠ .nrm→o≠ .ret→False:=by
        intro n1 n2
        cases o with
        |nrm=>exact n1 rfl
        |ret=>exact n2 rfl
        |ext id=>simp[H]at i
       have Ab: ∃D,nh I af.res=some D∧sP af.own af.eff D I=some (r,X):=by
        cases o with
        |nrm=>
         simp only[H]at i
         split at i
         ·rename_i D hv
          exact⟨D,hv,i⟩
         ·cases i
        |ret=>
         simp only[H]at i
         split at i
         ·rename_i D hv
          exact⟨D,hv,i⟩
         ·cases i
        |ext id=>exact(Qu (by simp) (by simp)).elim
       obtain⟨J,axx,Ab⟩:=Ab
       have hF:nL (bare (pF args) sh) {tmps:=cargs++Array.replicate (fn.ntmps-cargs.size) undef,defers:= []} w β M af.n:=by
        refine⟨by simp at lX ⊢; omega,rfl,fun t=>QF hV _ t⟩
       refine calls_of_wp hf Z ?_
       refine ahd (n:=af.n) hE hO hm m code ac h1 (B:=⟨w,M,kZ sh β⟩) (st:=bare (pF args) sh) (Z5 AQ (pF args)) hF H ?_
       intro a' w' O M' r1 r2 r3 r4
       have post:a'.defers= []∧ ∃v,(results fn a'.tmps).run P w'= .ok v w'∧Q (.returned v) w':=by
        refine⟨r2.defers, ?_⟩
        have W:=axx
        rw[EN]at W
        obtain⟨N,q1,U⟩:=wE (P:=P) r1 r2 fn.results.toList V J h2 W
        have aq1:(results fn a'.tmps).run P w'= .ok (if hh:N.toArray.size=1 then N.toArray[0]else .tuple N.toArray) w':=by
         rw[L1]
         simp only[Sem.run_bind,Sem.run_map,q1,Result.andThen_ok,Sem.run_pure]
        have UO:fy O I.gens w' M' (pack J) (if hh:N.toArray.size=1 then N.toArray[0]else .tuple N.toArray):=by
         have Ll:=gO.length _ _ U
         cases J with
         |nil=>
          simp only[gO]at U;subst U
          simp[pack,fy,gO]
         |cons v D=>
          cases D with
          |nil=>
           simp only[gO]at U
           obtain⟨u,us,rfl,k1,rfl⟩:=U
           simpa[pack]using k1
          |cons v2 D=>
           have:N.toArray.size≠1:=by simp at Ll ⊢; omega
           rw[dif_neg this]
           simp only[pack,fy]
           exact⟨_,rfl,by simpa using U⟩
        exact⟨_,aq1,hQ I J w' O M' _ r1 Ab UO r3⟩
       cases o with
       |nrm=>exact post
       |ret=>exact post
       |ext id=>exact(Qu (by simp) (by simp)).elim
     ·cases F
theorem A3(i:Bool)(r:List T)(st:St):answer i r st=match(fz i iq (pack r)).run st.get st.sh.length with
 |some p=>some (p.1,(st.ups p.2).sh)
 |none=>none:=by
 cases r with
 |nil=>rfl
 |cons v r=>cases r <;> rfl
theorem G0(j:Nat)(i:List T)(st:St):qT j i st=match kO (pack i) j with
 |some .nilsl=>answer false i st
 |some (.isl .L k g 0 len sz)=>
  (match(fz false iq (iv (pack i) j .nilsl)).run st.get st.sh.length with
  |some p=>(match(st.ups p.2).get .L k with
   |⟨r,.cells cs wm false⟩=>if r=g∧cs.length=len*sz∧len≠0∧(wm=0∨qS (iv p.1 j .nilsl)=true)then some (iv p.1 j (.sl cs len false),(st.ups p.2).sh)else none
   |_=>none)
  |none=>none)
 |_=>none:=by
 cases i with
 |nil=>rfl
 |cons v i=>cases i <;> rfl
theorem FL{B:lK}{i:St}{I:List T}{w':World}{F:iA}{M':ic}{v:Value}{D:Bool}{r:T}{J:List b8}(N:iH B i w' F M')(H:answer D I i=some (r,J))(UO:fy F i.gens w' M' (pack I) v):
  ∃M2 us,iH B (i.ups us) w' F M2∧(i.ups us).gens=i.gens∧J=(i.ups us).sh∧sS D F i.gens w' M2 r v:=by
 rw[A3]at H
 split at H
 ·rename_i p O
  obtain⟨U,us⟩:=p
  simp at H
  obtain⟨rfl,rfl⟩:=H
  obtain⟨M2,V,W,Y,X,Z⟩:=AR D i iq _ _ i w' F M' _ U us _ (Fz.refl i) N UO O
  exact⟨M2,us,V,W.gens,rfl,X⟩
 ·cases H
theorem JK(hE:tJ P E)(hm:P.follows .mixedOrders=true): ∀m,yg P E (jP E m)
 |0=>by
  intro f af args sh r iE BK hc
  simp[jP]at hc
 |m+1=>by
  have hO:=JK hE hm m
  intro f af args sh r iE BK gU
  refine⟨fun wz=> ?_,fun j wz=> ?_⟩
  ·intro w β M N AQ H
   refine Dn hE hm hO BK gU AQ (nN.toV H) ?_
   intro F vs w' I M' v Z D hv r3
   rw[wz]at D
   obtain⟨M2,us,O,z2,rfl,J⟩:=FL Z D hv
   refine⟨v,I,M2,rfl,GR O .nil,fun k g hg=>r3.beta .S k g hg,fun k=> ?_, ?_⟩
   ·have e1:(gY (F.ups us).sh k).g=(F.ups us).gens .S k:=rfl
    rw[e1,z2]
    exact r3.gens .S k
   ·have U: ∀k,(bare .nil (F.ups us).sh).gens .S k=F.gens .S k:=by
     intro k
     have e1:(bare .nil (F.ups us).sh).gens .S k=(F.ups us).gens .S k:=rfl
     rw[e1,z2]
    cases V:af.eff with
    |false=>rw[V]at J;exact J
    |true=>
     rw[V]at J
     intro b g p q
     exact J b g (fun k x hx=>p k x (by rw[U];exact hx)) (fun k=>by rw[←U];exact q k)
  ·have V:af.eff=false:=by
    grind [jP,sP]
   refine⟨V, ?_⟩
   intro w β M N AQ H
   refine Dn hE hm hO BK gU AQ (nN.toV H) ?_
   intro F vs w' I M' v Z D hv r3
   rw[wz,V]at D
   have D:qT j vs F=some (r,iE):=by simpa[sP]using D
   rw[G0]at D
   split at D
   ·rename_i hc
    obtain⟨M2,us,O,z2,rfl,J⟩:=FL Z D hv
    refine⟨v,I,M2,rfl,GR O .nil,.inl ⟨?_,J⟩⟩
    grind [A3,aac]
   ·rename_i k g len sz hc
    split at D
    ·rename_i p hz
     obtain⟨t',us⟩:=p
     have hn:fy I F.gens w' M' .nilsl oE:=by simp only[fy]
     obtain⟨⟨x,hx,W⟩,LH⟩:=Ux hv hc hn rfl
     obtain⟨M2,O,z2,z3,J,z5⟩:=AR false F iq _ _ F w' I M' _ t' us _ (Fz.refl F) Z LH hz
     dsimp only at D
     split at D
     ·rename_i g' cs wm EP
      split at D
      ·rename_i hcs
       obtain⟨rfl,lX,AU,Jt⟩:=hcs
       simp at D
       obtain⟨rfl,rfl⟩:=D
       simp only[fy]at W
       obtain⟨aEe,cap,rfl,hlc,hcx⟩:=W
       have ho:=O.obj .L k
       rw[EP]at ho
       unfold kF at ho
       obtain⟨c,el,fzz,o1,o2,o3,o4,o5,o6,o7,o8⟩:=ho
       dsimp only at o1 o2 o3 o4 o5 o6
       subst o4
       have X:=fun(b:iA) (G:Sp→Nat→Nat)=>Uy (cs:=cs) (len:=len) (ex:=false) (ahf hz hc) (PRel.toV b G _ _ J) hx
       have Fx:live ((F.ups us).get .L k):=by rw[EP];trivial
       have ET:(F.ups us).gens .L k=g':=by show((F.ups us).get .L k).g=g';rw[EP]
       have Y:=O.lblk k Fx
       rw[ET]at Y
       refine⟨v,I,M2,rfl,GR O .nil,.inr ⟨cs,len,(X I F.gens).1,I .L k g',sz,cap,c,el,Y,o1,o2,o3,o5, ?_,o7,lX,AU,hlc,by simpa using hcx,hx,fun b G=>(X b G).2⟩⟩
       rcases Jt with rfl|Jt
       ·exact .inr fun i hi=>o6 i (Nat.zero_le _) hi
       ·exact .inl (by rw[LR _ _ _ _ rfl];exact Jt)
      ·cases D
     ·cases D
    ·cases D
   ·cases D
end
theorem pure_call{P:Program}{E:Env}(U:tJ P E)(I:P.follows .mixedOrders=true){m f:Nat}{af:gP}(BK:E.fn f=some af)(V:af.eff=false)(W:af.own=none){args:List T}{r:T}{J:List b8}(hc:jP E m f args []=some (r,J))(w:World)(i:Array Value)
  (F:PList w (fun _ _=>False) args i.toList):Calls P f i w fun e w'=> ∃cv,e= .returned cv∧RowKit.Below w.heap.size w w'∧PRel w' (fun _ _=>False) r cv:=by
 have N:=(JK U I m f af args [] r J BK hc).1 W
 rw[V]at N
 let β:iA:=fun _ _ _=>⟨0,0,0⟩
 have X: ∀b,¬kZ [] β b:=by rintro b ⟨k,D,_⟩;simp[gY,ig]at D;exact D.elim
 have AQ:iH ⟨w,fun _ _=>False,kZ [] β⟩ (bare .nil []) w β (fun _ _=>False):=by
  have e: ∀sp k,(bare .nil []).get sp k=lG:=by intro sp k;cases sp <;> simp[bare,St.get,gY,ig,gW.get_nil]
  refine⟨fun sp k=> ?_,fun sp k Z k' O _ _=> ?_,fun _ _ h=>h.elim,fun k D=> ?_,fun k D=> ?_,rfl,rfl,rfl,Nat.le_refl _,fun _ _ _=>rfl,ku.refl _ _,fun _ _ _ _ I=>I⟩
  ·grind [kF,lG]
  ·rw[e]at O;exact O.elim
  ·rw[e]at D;exact D.elim
  ·rw[e]at D;exact D.elim
 refine(N w β _ i AQ F).mono ?_
 rintro e w' ⟨cv,iC,M',rfl,H,_,_,hr⟩
 refine⟨cv,rfl,⟨H.os,H.tape,H.output,H.size,fun b Y=>H.same b Y (X b)⟩, ?_⟩
 exact PRel.mono (j6 (fun _ _ h=>h.elim)) _ _ hr
end Go.Ev
namespace Go.Ev
open Go
inductive Ft where
 |nil
 |nd (l:Ft) (k:Nat) (v:gP) (r:Ft)
def Ft.find:Ft→Nat→Option gP
 | .nil,_=>none
 | .nd l k v r,f=>bif Nat.beq f k then some v else bif Nat.ble f k then l.find f else r.find f
def Ft.All(p:Nat→gP→Prop):Ft→Prop
 | .nil=>True
 | .nd l k v r=>Ft.All p l∧p k v∧Ft.All p r
theorem Ft.all_find{p:Nat→gP→Prop}{f:Nat}{v:gP}: ∀{t:Ft},Ft.All p t→t.find f=some v→p f v
 | .nil,_,h=>by simp[Ft.find]at h
 | .nd l k u r,D,h=>by
   obtain⟨F,H,I⟩:=D
   simp only[Ft.find]at h
   cases i:Nat.beq f k with
   |true=>
    rw[i,cond_true]at h
    have:f=k:=Nat.eq_of_beq_eq_true i
    subst this
    cases h;exact H
   |false=>
    rw[i,cond_false]at h
    cases hc:Nat.ble f k with
    |true=>rw[hc,cond_true]at h;exact Ft.all_find F h
    |false=>rw[hc,cond_false]at h;exact Ft.all_find I h
def GB(P:Program)(f:Nat)(af:gP):Prop:= ∃hs i,P.funcs[f]? =some i∧Fs P hs af.eff i=some af
theorem codeOk{P:Program}{f:Nat}{af:gP}{hs:List Nat}{i:Func}(h:P.funcs[f]? =some i)(k:Fs P hs af.eff i=some af):GB P f af:=⟨hs,i,h,k⟩
def ExtOk(P:Program)(f:Nat)(g:List T→Option T):Prop:=
 (∃D,P.funcs[f]? =some D∧(D.name== "runtime.NumGoroutine")=false∧D.body.isSome=true)∧
   ∀args r,g args=some r→ ∀(w:World) (M:ic) (i:Array Value),(∀b o,M b o→b<w.heap.size)→PList w M args i.toList→
    Calls P f i w fun e w'=> ∃cv,e= .returned cv∧RowKit.Below w.heap.size w w'∧PRel w' (fun b _=>b<w.heap.size) r cv
theorem aoE{P:Program}{t:Ft}{x:Nat→Option (List T→Option T)}{y:Nat→Option (List T→Option (List T×Option Nat))}(h:Ft.All (GB P) t)(hx: ∀f g,x f=some g→ExtOk P f g)
  (D: ∀f g,y f=some g→(∃i,P.funcs[f]? =some i∧(i.name== "runtime.NumGoroutine")=false∧i.body.isSome=true)∧aqN P f g):tJ P ⟨t.find,x,y⟩:=
 ⟨fun f af F=>Ft.all_find h F,fun f g _ r=>hx f g r,fun f g _ _ r=>D f g r⟩
noncomputable abbrev aeS(E:Env)(m f:Nat)(args:List T)(sh:List b8):Option (T×List b8):=jP E m f args sh
theorem mz{E:Env}{m f:Nat}{args:List T}{sh:List b8}{r:Option (T×List b8)}(h:aeS E m f args sh=r):jP E m f args sh=r:=h
theorem gN{E:Env}{m f:Nat}{args:List T}{sh:List b8}:aeS E m f args sh=jP E m f args sh:=rfl
end Go.Ev
