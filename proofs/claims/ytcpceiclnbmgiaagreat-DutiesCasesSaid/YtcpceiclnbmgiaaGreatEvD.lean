/- A tree evaluator over the model, proved against it (part D): where it answers, the call returns that answer. Conditions: none beyond its theorems' own. -/
import Derived.Test.YtcpceiclnbmgiaaGreatEvC
set_option linter.unusedSimpArgs false
set_option linter.unusedVariables false
namespace Go.Ev
open Go
def bare(fr:Fr)(sh:List ah):St:={fr,lh:= .nil,sh}
theorem Bh(fr:Fr)(sh:List ah)(k:Nat):(bare fr sh).get .L k=fv:=by simp[bare,St.get,aE,aJ,aB.get_nil]
theorem ev.shared{β bf:aV}{G G':Sp→Nat→Nat}{w:World}{M:aG}{k:Nat}{e:ah}(C0: ∀n g,g≤G .S n→bf .S n g=β .S n g)(r: ∀n,G .S n≤G' .S n)(D:e.g≤G .S k)(h:ev β G w M .S k e):ev bf G' w M .S k e:=by
 unfold ev at h ⊢
 rw[C0 k _ D]
 obtain⟨g,ob⟩:=e
 cases ob with
 |none=>trivial
 |cells cs wm bx=>
  obtain⟨c,el,fz,h1,h2,h3,h4,h5,h6,F⟩:=h
  refine⟨c,el,fz,h1,h2,h3,h4, ?_,h6,F⟩
  cases bx
  ·exact h5
  ·exact uz.mono (dX.refl w M) C0 r h5
 |map ks H fz=>exact h
theorem FD{B:fA}{st:St}{w:World}{β:aV}{M:aG}(h:bh B st w β M)(fr:Fr):bh B (bare fr st.sh) w β M:=by
 refine⟨fun sp k=> ?_,fun sp k H k' D F I=> ?_,h.mlt,fun k r=> ?_,fun k r=>h.sblk k r,h.os,h.tape,h.output,h.size,h.same,h.keep,h.msup⟩
 ·cases sp with
  |L=>grind [ev,fv,Bh]
  |S=>exact ev.shared (G:=st.gens) (β:=β) (fun _ _ _=>rfl) (fun _=>Nat.le_refl _) (Nat.le_refl _) (h.obj .S k)
 ·cases sp with
  |L=>rw[Bh]at D;exact D.elim
  |S=>
   cases H with
   |L=>rw[Bh]at F;exact F.elim
   |S=>exact h.dist .S k .S k' D F I
 ·rw[Bh]at r;exact r.elim
def eQ(sh:List ah)(β:aV)(b:Nat):Prop:= ∃k,live (aE sh k)∧(β .S k (aE sh k).g).blk=b
theorem acR{B:fA}{st:St}{w:World}{β:aV}{M:aG}(h:bh B st w β M)(fr:Fr):bh ⟨w,M,eQ st.sh β⟩ (bare fr st.sh) w β M:=by
 have D:=FD h fr
 refine⟨D.obj,D.dist,h.mlt,fun k r=> ?_,fun k r=> .inl ⟨k,r,rfl⟩,rfl,rfl,rfl,Nat.le_refl _,fun _ _ _=>rfl,dX.refl w M,fun _ _ _ _ F=>F⟩
 rw[Bh]at r;exact r.elim
theorem VJ{B:fA}{st:St}{w:World}{β:aV}{M:aG}(h:bh B st w β M)(fr:Fr):bh ⟨w,M,fun _=>False⟩ (bare fr []) w β M:=by
 have e: ∀sp k,(bare fr []).get sp k=fv:=by intro sp k;cases sp <;> simp[bare,St.get,aE,aJ,aB.get_nil]
 refine⟨fun sp k=> ?_,fun sp k H k' D _ _=> ?_,h.mlt,fun k r=> ?_,fun k r=> ?_,rfl,rfl,rfl,Nat.le_refl _,fun _ _ _=>rfl,dX.refl w M,fun _ _ _ _ F=>F⟩
 ·grind [ev,fv]
 ·rw[e]at D;exact D.elim
 ·rw[e]at r;exact r.elim
 ·rw[e]at r;exact r.elim
theorem Ir{B:fA}{st:St}{w w':World}{β:aV}{M:aG}(h:bh B st w β M)(F:w'.os=w.os)(H:w'.tape=w.tape)(C8:w'.output=w.output)(J:w.heap.size≤w'.heap.size)(D: ∀b,b<w.heap.size→w'.heap[b]? =w.heap[b]?):
  bh B st w' β M∧Tr st w β M st w' β M:=by
 have hk:dX w M w' M:=⟨fun b o v r _=>by rw[jv (w:=w) (D b (uy r))];exact r,fun b O c r _=>by rw[D b (mZ r)];exact r,fun _ _ _ h=>h⟩
 refine⟨⟨fun sp k=> ?_,h.dist,fun b o I=>Nat.lt_of_lt_of_le (h.mlt b o I) J,h.lblk,h.sblk,F.trans h.os,H.trans h.tape,C8.trans h.output,Nat.le_trans h.size J,fun b h1 h2=>(D b (Nat.lt_of_lt_of_le h1 h.size)).trans (h.same b h1 h2),h.keep.trans hk h.size,h.msup⟩,hk,fun _ _ _ _=>rfl,fun _ _=>Nat.le_refl _⟩
 exact ev.mono hk (fun _ _ _ _=>rfl) (fun _ _=>Nat.le_refl _) (Nat.le_refl _) (fun N=>D _ (h.lt N)) (fun _ _ I=>I) (h.obj sp k)
theorem ak3{B:fA}{st:St}{w w':World}{β bf:aV}{M M':aG}{aY:List ah}(h:bh B st w β M)(r:bh ⟨w,M,eQ st.sh β⟩ (bare .nil aY) w' bf M')(C0: ∀n g,g≤st.gens .S n→bf .S n g=β .S n g)(hG: ∀n,st.gens .S n≤(aE aY n).g):
  bh B {st with sh:=aY} w' (fun sp k g=>match sp with| .L=>β .L k g| .S=>bf .S k g) M'∧Tr st w β M {st with sh:=aY} w' (fun sp k g=>match sp with| .L=>β .L k g| .S=>bf .S k g) M':=by
 have V: ∀k,({st with sh:=aY}:St).get .L k=st.get .L k:=fun k=>rfl
 have W: ∀k,({st with sh:=aY}:St).get .S k=aE aY k:=fun k=>rfl
 have VD: ∀sp k g,g≤st.gens sp k→(fun(sp:Sp) k g=>match sp with| .L=>β .L k g| .S=>bf .S k g:aV) sp k g=β sp k g:=by
  grind
 have DT: ∀sp k,st.gens sp k≤({st with sh:=aY}:St).gens sp k:=by
  grind
 have notS: ∀k,live (st.get .L k)→ ¬eQ st.sh β (β .L k (st.gens .L k)).blk:=by
  rintro k D ⟨k',J,F⟩
  have:=h.dist .S k' .L k J D F
  cases this.1
 have X: ∀b,eQ st.sh β b→B.SB b∨B.w.heap.size≤b:=by
  rintro b ⟨k,D,rfl⟩
  exact h.sblk k D
 have N: ∀k,live (aE aY k)→B.SB (bf .S k (aE aY k).g).blk∨B.w.heap.size≤(bf .S k (aE aY k).g).blk:=by
  intro k D
  rcases r.sblk k D with e|e
  ·exact X _ e
  ·exact .inr (Nat.le_trans h.size e)
 refine⟨⟨fun sp k=> ?_,fun sp k U k' H I F=> ?_,r.mlt,fun k D=>h.lblk k D,fun k D=>N k D,r.os.trans h.os,r.tape.trans h.tape,r.output.trans h.output,Nat.le_trans h.size r.size,fun b h1 h2=> ?_,h.keep.trans r.keep h.size,fun b o h1 h2 h3=> ?_⟩,r.keep,VD,DT⟩
 ·cases sp with
  |L=>
   refine ev.mono r.keep VD DT (Nat.le_refl _) (fun D=> ?_) (fun D o Y=> ?_) (h.obj .L k)
   ·exact r.same _ (h.lt D) (notS k D)
   ·exact r.msup _ o (h.lt D) (notS k D) Y
  |S=>exact ev.shared (G:=(bare .nil aY).gens) (β:=bf) (fun _ _ _=>rfl) (fun _=>Nat.le_refl _) (Nat.le_refl _) (r.obj .S k)
 ·cases sp with
  |L=>
   cases U with
   |L=>exact h.dist .L k .L k' H I F
   |S=>
    exfalso
    have NC:(β .L k (st.gens .L k)).blk=(bf .S k' (aE aY k').g).blk:=F
    rcases r.sblk k' I with e|e
    ·exact notS k H (by rw[NC];exact e)
    ·have:=h.lt (sp:= .L) (k:=k) H
     have Z:w.heap.size≤(bf .S k' (aE aY k').g).blk:=e
     omega
  |S=>
   cases U with
   |L=>
    exfalso
    have NC:(bf .S k (aE aY k).g).blk=(β .L k' (st.gens .L k')).blk:=F
    rcases r.sblk k H with e|e
    ·exact notS k' I (by rw[←NC];exact e)
    ·have:=h.lt (sp:= .L) (k:=k') I
     have Z:w.heap.size≤(bf .S k (aE aY k).g).blk:=e
     omega
   |S=>exact r.dist .S k .S k' H I F
 ·have O: ¬eQ st.sh β b:=fun hs=>by
   grind
  exact(r.same b (Nat.lt_of_lt_of_le h1 h.size) O).trans (h.same b h1 h2)
 ·have O: ¬eQ st.sh β b:=fun hs=>by
   grind
  exact r.msup b o (Nat.lt_of_lt_of_le h1 h.size) O (h.msup b o h1 h2 h3)
def Is(M:aG)(S:H8):aG:=fun b x=>M b x∨(b=S.blk∧S.off≤x∧x<S.off+S.ext)
theorem ak4{B:fA}{st:St}{w w':World}{β:aV}{M:aG}(h:bh B st w β M)(V:w'.os=w.os)(W:w'.tape=w.tape)(C8:w'.output=w.output)(kl:w.heap.size≤w'.heap.size)(D: ∀b,b<w.heap.size→w'.heap[b]? =w.heap[b]?)
  (k g:Nat) (hg:st.gens .L k<g) (S:H8) (hS:w.heap.size≤S.blk) (hS2:S.blk<w'.heap.size) (ob:Ob)
  (ho:ev (iQ β .L k g S) (st.up (.L,k,⟨g,ob⟩)).gens w' (Is M S) .L k ⟨g,ob⟩):
  bh B (st.up (.L,k,⟨g,ob⟩)) w' (iQ β .L k g S) (Is M S)∧Tr st w β M (st.up (.L,k,⟨g,ob⟩)) w' (iQ β .L k g S) (Is M S):=by
 have hk:dX w M w' (Is M S):=⟨fun b o v H _=>by rw[jv (w:=w) (D b (uy H))];exact H,fun b es c H _=>by rw[D b (mZ H)];exact H,fun b x I hm=>hm.resolve_right (fun e=>by have:=e.1;omega)⟩
 have I: ∀r k' X,X≤st.gens r k'→iQ β .L k g S r k' X=β r k' X:=by
  grind [uA]
 have hG: ∀r k',st.gens r k'≤(st.up (.L,k,⟨g,ob⟩)).gens r k':=by
  intro r k'
  rw[eP]
  grind
 have U: ∀r k',(iQ β .L k g S r k' ((st.up (.L,k,⟨g,ob⟩)).gens r k'))=if r= .L∧k'=k then S else β r k' (st.gens r k'):=by
  grind [eP,bX]
 refine⟨⟨fun r k'=> ?_,fun Y k1 Z k2 J N O=> ?_,fun b x hm=> ?_,fun k' F=> ?_,fun k' F=> ?_,V.trans h.os,W.trans h.tape,C8.trans h.output,Nat.le_trans h.size kl,fun b I hn=> ?_,h.keep.trans hk h.size,fun b x h1 h2 h3=> .inl (h.msup b x h1 h2 h3)⟩,hk,I,hG⟩
 ·rw[fF]
  split
  ·grind
  ·exact ev.mono hk I hG (Nat.le_refl _) (fun F=>D _ (h.lt F)) (fun _ _ hm=> .inl hm) (h.obj r k')
 ·rw[U,U]at O
  rw[fF]at J N
  by_cases e1:Y= .L∧k1=k <;> by_cases e2:Z= .L∧k2=k
  ·grind
  ·rw[if_pos e1,if_neg e2]at O;rw[if_neg e2]at N
   have:=h.lt N;omega
  ·rw[if_neg e1,if_pos e2]at O;rw[if_neg e1]at J
   have:=h.lt J;omega
  ·rw[if_neg e1,if_neg e2]at O;rw[if_neg e1]at J;rw[if_neg e2]at N
   exact h.dist _ _ _ _ J N O
 ·rcases hm with hm|hm
  ·exact Nat.lt_of_lt_of_le (h.mlt b x hm) kl
  ·grind
 ·rw[U];rw[fF]at F
  split
  ·exact Nat.le_trans h.size hS
  ·rename_i e;rw[if_neg e]at F;exact h.lblk k' F
 ·rw[U];rw[fF]at F
  rw[if_neg (by rintro⟨e,_⟩;cases e)]at F ⊢
  exact h.sblk k' F
 ·have:=h.size
  rw[D b zO];exact h.same b I hn
theorem rU{w w':World}{M M':aG}: ∀{cs:List T} {r:List Value},cs.all jg=true→PList w M cs r→PList w' M' cs r
 | [],r,_,h=>by grind [PList]
 |t::ts,r,hs,h=>by
  simp only[List.all_cons,Bool.and_eq_true]at hs
  simp only[PList]at h ⊢
  obtain⟨u,us,rfl,h1,h2⟩:=h
  refine⟨u,us,rfl, ?_,rU hs.2 h2⟩
  have D:=hs.1
  cases t <;> simp[jg]at D <;> simpa only[PRel]using h1
def ND:Value→Nat→Option Value
 | .tuple a,j=>if j<100 then a[j]? else match a[j/100-1]? with
   |some (.agg b)=>b[j%100]?
   |_=>none
 | .agg a,j=>a[j]?
 |v,_=>some v
def ll:Value→Nat→Value→Value
 | .tuple a,j,x=>if j<100 then .tuple (a.setIfInBounds j x)else match a[j/100-1]? with
   |some (.agg b)=> .tuple (a.setIfInBounds (j/100-1) (.agg (b.setIfInBounds (j%100) x)))
   |_=> .tuple a
 | .agg a,j,x=> .agg (a.setIfInBounds j x)
 |_,_,x=>x
abbrev jZ:Value:= .slice none 0 0
section
variable{β:aV}{G:Sp→Nat→Nat}{w:World}{M:aG}
theorem au.set: ∀{ts:List T} {r:List Value} (j:Nat) {t:T} {v:Value},au β G w M ts r→aq β G w M t v→au β G w M (ts.set j t) (r.set j v)
 | [],r,j,t,v,h,_=>by grind [au]
 |t::ts,r,0,F,H,h,D=>by
  grind [au]
 |t::ts,r,j+1,F,H,h,D=>by
  simp only[au]at h;obtain⟨u,us,rfl,h1,h2⟩:=h
  simp only[List.set_cons_succ,au]
  exact⟨_,_,rfl,h1,au.set j h2 D⟩
theorem uO{cs:List T}{j:Nat}{t:T}(h:cs.all single=true)(r:single t=true):(cs.set j t).all single=true:=by
 grind
theorem Bi{cs:List T}{j:Nat}{t u:T}(h:(cs.set j u).all single=true)(r:single t=true):(cs.set j t).all single=true:=by
 have:=uO (j:=j) h r
 simp_all
theorem VK{r y t:T}{v u:Value}{j:Nat}(h:aq β G w M r v)(D:eG r j=some y)(F:aq β G w M t u)(hs:single t=true):
  (∃x,ND v j=some x∧aq β G w M y x)∧aq β G w M (aO r j t) (ll v j u):=by
 cases r
 case tup vs=>
  simp only[aq]at h;obtain⟨a,rfl,H⟩:=h
  simp only[eG]at D
  by_cases Bj:j<100
  ·rw[if_pos Bj]at D
   obtain⟨x,h1,h2⟩:=H.get D
   refine⟨⟨x,by simpa[ND,Bj]using h1,h2⟩, ?_⟩
   simp only[aO,ll,aq,Bj,if_true]
   exact⟨_,rfl,by simpa using au.set j H F⟩
  ·rw[if_neg Bj]at D
   cases hi:vs[j/100-1]? with
   |none=>grind
   |some U=>
    rw[hi]at D
    cases U <;> try (simp only at D;cases D;done)
    rename_i cs
    simp only at D
    obtain⟨x0,V,N⟩:=H.get hi
    simp only[aq]at N;obtain⟨b,rfl,O,W⟩:=N
    obtain⟨x,h1,h2⟩:=O.get D
    have I:a[j/100-1]? =some (.agg b):=by simpa using V
    refine⟨⟨x,by simpa[ND,Bj,I]using h1,h2⟩, ?_⟩
    simp only[aO,ll,Bj,if_false,hi,I,aq]
    refine⟨_,rfl, ?_⟩
    rw[Array.toList_setIfInBounds]
    refine au.set _ H ?_
    simp only[aq]
    exact⟨_,rfl,by simpa using au.set (j%100) O F,uO W hs⟩
 case agg cs=>
  simp only[aq]at h;obtain⟨a,rfl,H,J⟩:=h
  simp only[eG]at D
  obtain⟨x,h1,h2⟩:=H.get D
  refine⟨⟨x,by simpa[ND]using h1,h2⟩, ?_⟩
  simp only[aO,ll,aq]
  exact⟨_,rfl,by simpa using au.set j H F,uO J hs⟩
 case any=>simp[eG]at D
 all_goals
  simp only[eG,Option.some.injEq]at D;subst D
  refine⟨⟨v, ?_,h⟩, ?_⟩
  ·simp only[aq,PRel]at h
   first
    |(subst h;rfl)
    |(obtain⟨_,rfl,_⟩:=h;rfl)
    |(obtain⟨_,_,rfl,_⟩:=h;rfl)
    |(obtain⟨_,_,_,rfl,_⟩:=h;rfl)
    |(obtain⟨_,_,_,_,rfl,_⟩:=h;rfl)
    |(obtain⟨_,rfl⟩:=h;rfl)
  ·simp only[aq,PRel]at h
   first
    |(subst h;exact F)
    |(obtain⟨_,rfl,_⟩:=h;exact F)
    |(obtain⟨_,_,rfl,_⟩:=h;exact F)
    |(obtain⟨_,_,_,rfl,_⟩:=h;exact F)
    |(obtain⟨_,_,_,_,rfl,_⟩:=h;exact F)
    |(obtain⟨_,rfl⟩:=h;exact F)
theorem qL{a:Array Value}{j:Nat}{x y:Value}(h:a[j]? =some x):(a.toList.set j y).set j x=a.toList:=by
 rw[List.set_set]
 have r:a.toList[j]? =some x:=by simpa using h
 grind [List.getElem?_eq_some_iff.1,List.set_getElem_self]
theorem Bk(a:Array Value)(j:Nat)(x:Value): ∃b,ll (.tuple a) j x= .tuple b:=by
 simp only[ll]
 split
 ·grind
 ·split <;> exact⟨_,rfl⟩
theorem Bl{v:Value}{j:Nat}(h: ∀a,ll v j jZ≠ .tuple a)(r: ∀a,ll v j jZ≠ .agg a):ll v j jZ=jZ∧ND v j=some v:=by
 cases v
 case tuple a=>obtain⟨b,D⟩:=Bk a j jZ;exact absurd D (h _)
 all_goals first|exact⟨rfl,rfl⟩|exact absurd rfl (r _)
theorem acS{r t:T}{cv x:Value}{j:Nat}(h:aq β G w M (aO r j .nilsl) (ll cv j jZ))(hx:ND cv j=some x)(I:aq β G w M t x)(hs:single t=true):aq β G w M (aO r j t) cv:=by
 cases r
 case tup vs=>
  by_cases Bj:j<100
  ·simp only[aO,Bj,if_true,aq]at h ⊢
   obtain⟨a,D,F⟩:=h
   cases cv <;> simp[ll,Bj]at D
   rename_i a0
   subst D
   simp only[ND,Bj,if_true]at hx
   refine⟨a0,rfl, ?_⟩
   have:=au.set j F I
   grind [List.set_set,Array.toList_setIfInBounds,qL]
  ·have N: ∃a0 b,cv= .tuple a0∧a0[j/100-1]? =some (.agg b)∧b[j%100]? =some x:=by
    cases cv
    case tuple a0=>
     grind [ND,hi]
    all_goals
     exfalso
     simp only[aO,Bj,if_false]at h
     split at h <;> (simp only[ll,aq]at h;obtain⟨_,h,_⟩:=h;cases h)
   obtain⟨a0,b,rfl,J,V⟩:=N
   simp only[ll,Bj,if_false,J]at h
   simp only[aO,Bj,if_false]at h ⊢
   split at h
   ·rename_i cs hi
    simp only[aq]at h ⊢
    obtain⟨a,D,F⟩:=h
    cases D
    refine⟨a0,rfl, ?_⟩
    have W:j/100-1<vs.length:=(List.getElem?_eq_some_iff.1 hi).1
    have H:aq β G w M (.agg (cs.set (j%100) .nilsl)) (.agg (b.setIfInBounds (j%100) jZ)):=by
     obtain⟨x1,e1,e2⟩:=F.get (List.getElem?_set_self W)
     rw[Array.toList_setIfInBounds,List.getElem?_set_self (by have:=(Array.getElem?_eq_some_iff.1 J).1;simpa using this)]at e1
     cases e1;exact e2
    have O:aq β G w M (.agg (cs.set (j%100) t)) (.agg b):=by
     simp only[aq]at H ⊢
     obtain⟨b1,X,A8,Y⟩:=H
     cases X
     refine⟨b,rfl, ?_,Bi Y hs⟩
     have:=au.set (j%100) A8 I
     rw[List.set_set,Array.toList_setIfInBounds,qL V]at this
     exact this
    have:=au.set (j/100-1) F O
    rw[List.set_set,Array.toList_setIfInBounds,qL J]at this
    exact this
   ·simp only[aq]at h ⊢
    obtain⟨a,D,F⟩:=h
    cases D
    refine⟨a0,rfl, ?_⟩
    have:=au.set (j/100-1) (t:= .any) (v:= .agg b) F (by simp only[aq])
    rw[List.set_set,Array.toList_setIfInBounds,qL J]at this
    exact this
 case agg cs=>
  simp only[aO,aq]at h ⊢
  obtain⟨a,D,F,U⟩:=h
  cases cv
  case tuple a'=>obtain⟨b,Z⟩:=Bk a' j jZ;rw[Z]at D;cases D
  all_goals simp[ll]at D
  rename_i a0
  subst D
  simp only[ND]at hx
  refine⟨a0,rfl, ?_,Bi U hs⟩
  have:=au.set j F I
  grind [List.set_set,Array.toList_setIfInBounds,qL]
 case any=>simp only[aO,aq]
 all_goals
  simp only[aO,aq]at h ⊢
  obtain⟨h1,h2⟩:=Bl (v:=cv) (j:=j) (fun a e=>by rw[e]at h;cases h) (fun a e=>by rw[e]at h;cases h)
  rw[h2]at hx
  cases hx
  exact I
def okC:T→Nat→Prop
 | .any,_=>False
 | .tup r,j=>j<100∨ ∃cs,r[j/100-1]? =some (.agg cs)
 |_,_=>True
theorem VL{p:T}{v x:Value}{j:Nat}{cs:List T}{len:Nat}{ex:Bool}(H:okC p j)(h:aq β G w M p (ll v j jZ))(hx:ND v j=some x):
  eG (aO p j (.sl cs len ex)) j=some (.sl cs len ex)∧aq β G w M (aO (aO p j (.sl cs len ex)) j .nilsl) (ll v j jZ):=by
 have I:aq β G w M .nilsl jZ:=by simp only[aq]
 cases p
 case tup vs=>
  simp only[aq]at h
  obtain⟨a,r,D⟩:=h
  by_cases Bj:j<100
  ·cases v <;> simp[ll,Bj]at r
   rename_i a0
   subst r
   simp only[ND,Bj,if_true]at hx
   have J:=au.length _ _ D
   simp at J
   obtain⟨V,_⟩:=Array.getElem?_eq_some_iff.1 hx
   refine⟨by simp only[aO,eG,Bj,if_true];rw[List.getElem?_set_self zO], ?_⟩
   simp only[aO,ll,aq,List.set_set,Bj,if_true]
   refine⟨_,rfl, ?_⟩
   have:=au.set j D I
   rw[Array.toList_setIfInBounds,List.set_set]at this
   rw[Array.toList_setIfInBounds];exact this
  ·have H:j<100∨ ∃cs,vs[j/100-1]? =some (.agg cs):=H
   obtain⟨Qh,hi⟩:=H.resolve_left Bj
   cases v
   case tuple a0=>
    simp only[ND,Bj,if_false]at hx
    cases hk:a0[j/100-1]? with
    |none=>grind
    |some W=>
     rw[hk]at hx
     cases W <;> try (simp only at hx;cases hx;done)
     rename_i b
     simp only at hx
     simp only[ll,Bj,if_false,hk]at r ⊢
     cases r
     have U:j/100-1<vs.length:=(List.getElem?_eq_some_iff.1 hi).1
     have F:aq β G w M (.agg Qh) (.agg (b.setIfInBounds (j%100) jZ)):=by
      obtain⟨x1,e1,e2⟩:=D.get hi
      rw[Array.toList_setIfInBounds,List.getElem?_set_self (by have:=(Array.getElem?_eq_some_iff.1 hk).1;simpa using this)]at e1
      cases e1;exact e2
     simp only[aq]at F
     obtain⟨b1,X,A8,Y⟩:=F
     cases X
     have N:=au.length _ _ A8
     simp at N
     obtain⟨Z,_⟩:=Array.getElem?_eq_some_iff.1 hx
     refine⟨?_, ?_⟩
     ·simp only[aO,eG,Bj,if_false,hi]
      rw[List.getElem?_set_self U]
      simp only
      rw[List.getElem?_set_self zO]
     ·simp only[aO,Bj,if_false,hi]
      rw[List.getElem?_set_self U]
      simp only[List.set_set,aq]
      refine⟨_,rfl, ?_⟩
      have h3:aq β G w M (.agg (Qh.set (j%100) .nilsl)) (.agg (b.setIfInBounds (j%100) jZ)):=by
       simp only[aq]
       refine⟨_,rfl, ?_,uO Y rfl⟩
       have:=au.set (j%100) A8 I
       rw[Array.toList_setIfInBounds,List.set_set]at this
       rw[Array.toList_setIfInBounds];exact this
      have:=au.set (j/100-1) D h3
      rw[Array.toList_setIfInBounds,List.set_set]at this
      rw[Array.toList_setIfInBounds];exact this
   all_goals (simp only[ll]at r;cases r)
 case agg vs=>
  simp only[aq]at h
  obtain⟨a,r,D,O⟩:=h
  cases v
  case tuple a'=>obtain⟨b,hb⟩:=Bk a' j jZ;rw[hb]at r;cases r
  all_goals simp[ll]at r
  rename_i a0
  subst r
  simp only[ND]at hx
  have J:=au.length _ _ D
  simp at J
  obtain⟨V,_⟩:=Array.getElem?_eq_some_iff.1 hx
  refine⟨by simp only[aO,eG];rw[List.getElem?_set_self zO], ?_⟩
  simp only[aO,ll,aq,List.set_set]
  refine⟨_,rfl, ?_,uO O rfl⟩
  have:=au.set j D I
  rw[Array.toList_setIfInBounds,List.set_set]at this
  rw[Array.toList_setIfInBounds];exact this
 case any=>exact H.elim
 all_goals
  refine⟨rfl, ?_⟩
  simp only[aO]
  have hp:ll v j jZ=jZ:=by
   grind [aq,PRel,Bl]
  rw[hp];exact I
end
def VM(P:Program)(f:Nat)(F:Bool)(args:List T)(sh:List ah)(r:T)(H:List ah):Prop:=
 ∀(w:World) (β:aV) (M:aG) (D:Array Value),bh ⟨w,M,eQ sh β⟩ (bare .nil sh) w β M→jw F β (bare .nil sh).gens w M args D.toList→
  Calls P f D w fun e w'=> ∃cv I M',e= .returned cv∧bh ⟨w,M,eQ sh β⟩ (bare .nil H) w' I M'∧(∀n g,g≤(aE sh n).g→I .S n g=β .S n g)∧(∀n,(aE sh n).g≤(aE H n).g)∧oZ F I (bare .nil H).gens w' M' r cv
theorem Lm(p x y:T)(j:Nat)(h:single x=true):aO (aO p j x) j y=aO p j y:=by
 cases p
 case tup vs=>
  by_cases r:j<100
  ·grind [aO,List.set_set]
  grind [aO,List.set_eq_of_length_le,hi,List.getElem?_set_self,List.set_set,List.getElem?_eq_none_iff.1,List.getElem?_eq_some_iff.1]
 case agg vs=>simp only[aO,List.set_set]
 all_goals first|(simp only[aO];done)|(simp only[aO];cases x <;> first|rfl|cases h)
def awI(w w':World)(M:aG)(r:T)(j:Nat)(cs:List T)(len:Nat)(cv:Value):Prop:=
 ∃(S:H8) (sz D:Nat) (c:Array Value) (el:TypeId),w.heap.size≤S.blk∧w'.heap[S.blk]? =some (.cells c el (0,0))∧S.off+S.ext≤c.size∧cs.length≤S.ext∧PList w' M cs ((c.toList.drop S.off).take cs.length)∧(mX (aO r j .nilsl)=true∨ ∀i,i<S.ext→M S.blk (S.off+i))∧
  cs.all single=true∧cs.length=len*sz∧len≠0∧len≤D∧D*sz≤S.ext∧ND cv j=some (.slice (some ⟨S.blk,S.off,none⟩) len D)∧ ∀β G,aq β G w' M (aO r j .nilsl) (ll cv j jZ)
def Qi(P:Program)(f:Nat)(args:List T)(sh:List ah)(j:Nat)(r:T)(F:List ah):Prop:=
 ∀(w:World) (β:aV) (M:aG) (D:Array Value),bh ⟨w,M,eQ sh β⟩ (bare .nil sh) w β M→jw false β (bare .nil sh).gens w M args D.toList→
  Calls P f D w fun e w'=> ∃cv H M',e= .returned cv∧bh ⟨w,M,eQ sh β⟩ (bare .nil F) w' H M'∧
   ((eG r j=some .nilsl∧PRel w' M' r cv)∨ ∃cs len,eG r j=some (.sl cs len false)∧awI w w' M' r j cs len cv)
def NF(r off D:Nat):Option Nat→Value
 |none=> .tuple #[]
 |some n=> .slice (some ⟨r,off,none⟩) n D
def awJ(P:Program)(f:Nat)(h:List T→Option (List T×Option Nat)):Prop:=
 (∀r,h []=some ([],r)→r.getD 0=0→ ∀w:World,Calls P f #[jZ] w fun e w'=>e= .returned (match r with|none=> .tuple #[]|some _=>jZ)∧RowKit.Below w.heap.size w w')∧
 ∀cs H r,h cs=some (H,r)→H.length=cs.length→ ∀(w:World) (M:aG) (D off F:Nat) (c:Array Value) (el:TypeId) (I:List Value),w.heap[D]? =some (.cells c el (0,0))→off+cs.length≤c.size→cs.length≤F→(c.toList.drop off).take cs.length=I→PList w M cs I→
  Calls P f #[.slice (some ⟨D,off,none⟩) cs.length F] w fun e w'=> ∃us,e= .returned (NF D off F r)∧PList w M H us∧RowKit.Below w.heap.size (setBlock w D (.cells (splice c.toList off us).toArray el)) w'
def pW(P:Program)(E:Env):Prop:=
 (∀f af,E.fn f=some af→ ∃hs F,P.funcs[f]? =some F∧DD P hs af.eff F=some af)∧
 (∀f g,E.fn f=none→E.ext f=some g→(∃F,P.funcs[f]? =some F∧(F.name== "runtime.NumGoroutine")=false∧F.body.isSome=true)∧
   ∀args r,g args=some r→ ∀(w:World) (M:aG) (D:Array Value),(∀b o,M b o→b<w.heap.size)→PList w M args D.toList→
    Calls P f D w fun e w'=> ∃cv,e= .returned cv∧RowKit.Below w.heap.size w w'∧PRel w' (fun b _=>b<w.heap.size) r cv)∧
 (∀f h,E.fn f=none→E.ext f=none→E.wr f=some h→(∃F,P.funcs[f]? =some F∧(F.name== "runtime.NumGoroutine")=false∧F.body.isSome=true)∧
   awJ P f h)
def uP(P:Program)(E:Env)(call:kg):Prop:= ∀f af args sh r D,E.fn f=some af→call f args sh=some (r,D)→(af.own=none→VM P f af.eff args sh r D)∧(∀j,af.own=some j→af.eff=false∧Qi P f args sh j r D)
theorem Bm{st bu:St}{a:Act}{w w':World}{β bf:aV}{M M':aG}{n:Nat}{d:Option Nat}{v:T}{cv:Value}{fr:Fr}(r:ju st a w β M n)(H:Tr st w β M bu w' bf M')(D:iI st.fr n d v=some fr)(I:aq bf bu.gens w' M' v cv):
  ju {bu with fr} (a.put d cv) w' bf M' n:=by
 cases d with
 |none=>
  simp[iI]at D;subst D
  exact⟨r.size,r.defers,fun t=>H.val (r.slot t)⟩
 |some d=>
  simp only[iI]at D
  split at D
  ·rename_i J
   simp at D;subst D
   refine⟨by simp[Act.put,r.size],r.defers,fun t=> ?_⟩
   have e1:aa (cQ st.fr d v) t=if t=d then v else aa st.fr t:=lL st.fr d v t
   have e2:(a.put (some d) cv).tmps.getD t undef=if t=d then cv else a.tmps.getD t undef:=by
    simp only[Act.put,Array.getD_eq_getD_getElem?,Array.getElem?_setIfInBounds]
    by_cases F:d=t
    ·subst F;rw[if_pos rfl,if_pos (by rw[r.size];exact J),if_pos rfl];rfl
    ·grind
   show aq bf bu.gens w' M' (aa (cQ st.fr d v) t) _
   rw[e1,e2]
   split
   ·exact I
   ·exact H.val (r.slot t)
  ·cases D
end Go.Ev
namespace Go.Ev
open Go
theorem acT{B:fA}{st:St}{w:World}{β:aV}{M:aG}(h:bh B st w β M)(fr:Fr):bh B {st with fr} w β M:=
 ⟨h.obj,h.dist,h.mlt,h.lblk,h.sblk,h.os,h.tape,h.output,h.size,h.same,h.keep,h.msup⟩
theorem Tr.fr{st bu:St}{w w':World}{β bf:aV}{M M':aG}(h:Tr st w β M bu w' bf M')(fr:Fr):Tr st w β M {bu with fr} w' bf M':=⟨h.keep,h.beta,h.gens⟩
theorem Ln{w w':World}{M M':aG}{r:T}{cv:Value}(hs:scalar r=true)(h:PRel w M r cv):PRel w' M' r cv:=by
 cases r <;> simp[scalar]at hs
 case tup vs=>
  simp only[PRel]at h ⊢
  obtain⟨a,rfl,D⟩:=h
  refine⟨a,rfl, ?_⟩
  generalize a.toList=l at D
  induction vs generalizing l with
  |nil=>grind [PList]
  |cons t ts ih=>
   simp only[PList]at D ⊢
   obtain⟨u,us,rfl,h1,h2⟩:=D
   have F:=hs t xv
   grind [PRel]
 all_goals simpa only[PRel]using h
theorem ti{β bf:aV}{G G':Sp→Nat→Nat}{w w':World}{M M':aG}: ∀{cs:List T} {r:List Value},cs.all jg=true→au β G w M cs r→au bf G' w' M' cs r
 | [],r,_,h=>by grind [au]
 |t::ts,r,hs,h=>by
  simp only[List.all_cons,Bool.and_eq_true]at hs
  simp only[au]at h ⊢
  obtain⟨u,us,rfl,h1,h2⟩:=h
  refine⟨u,us,rfl, ?_,ti hs.2 h2⟩
  have D:=hs.1
  cases t <;> simp[jg]at D <;> simpa only[aq]using h1
theorem Qj{w w':World}{M M':aG}{r:T}{cv:Value}(hs:mX r=true)(h:PRel w M r cv):PRel w' M' r cv:=by
 cases r <;> simp[mX,jg]at hs
 case tup vs=>
  simp only[PRel]at h ⊢
  obtain⟨a,rfl,D⟩:=h
  refine⟨a,rfl, ?_⟩
  generalize a.toList=l at D
  induction vs generalizing l with
  |nil=>grind [PList]
  |cons t ts ih=>
   simp only[PList]at D ⊢
   obtain⟨u,us,rfl,h1,h2⟩:=D
   have H:=hs t xv
   refine⟨u,us,rfl, ?_,ih (fun x hx=>hs x (by simp[hx])) us h2⟩
   cases t <;> simp[jg]at H <;> try (simpa only[PRel]using h1;done)
   simp only[PRel]at h1 ⊢
   obtain⟨b,rfl,I,F⟩:=h1
   exact⟨b,rfl,rU (List.all_eq_true.2 fun x hx=>H x hx) I,F⟩
 case agg vs=>
  simp only[PRel]at h ⊢
  obtain⟨a,rfl,D,F⟩:=h
  exact⟨a,rfl,rU (List.all_eq_true.2 fun x hx=>hs x hx) D,F⟩
 all_goals simpa only[PRel]using h
theorem Lo{β bf:aV}{G G':Sp→Nat→Nat}{w w':World}{M M':aG}{r:T}{cv:Value}(hs:mX r=true)(h:aq β G w M r cv):aq bf G' w' M' r cv:=by
 cases r <;> simp[mX,jg]at hs
 case tup vs=>
  simp only[aq]at h ⊢
  obtain⟨a,rfl,D⟩:=h
  refine⟨a,rfl, ?_⟩
  generalize a.toList=l at D
  induction vs generalizing l with
  |nil=>grind [au]
  |cons t ts ih=>
   simp only[au]at D ⊢
   obtain⟨u,us,rfl,h1,h2⟩:=D
   have H:=hs t xv
   refine⟨u,us,rfl, ?_,ih (fun x hx=>hs x (by simp[hx])) us h2⟩
   cases t <;> simp[jg]at H <;> try (simpa only[aq]using h1;done)
   simp only[aq]at h1 ⊢
   obtain⟨b,rfl,I,F⟩:=h1
   exact⟨b,rfl,ti (List.all_eq_true.2 fun x hx=>H x hx) I,F⟩
 case agg vs=>
  simp only[aq]at h ⊢
  obtain⟨a,rfl,D,F⟩:=h
  exact⟨a,rfl,ti (List.all_eq_true.2 fun x hx=>hs x hx) D,F⟩
 all_goals simpa only[aq]using h
section
variable{P:Program}{E:Env}{call:kg}{B:fA}{st:St}{a:Act}{w:World}{β:aV}{M:aG}{o:Oper}
theorem pe{f:Nat}{D:Func}(H:P.funcs[f]? =some D)(I:(D.name== "runtime.NumGoroutine")=false)(F:D.body.isSome=true)(r:Array Value)(w:World):(callFunc f r).run P w= .ok (.enter f r) w:=by
 have h1: ¬D.name= "runtime.NumGoroutine" :=by simpa using I
 have h2: ¬D.body=none:=by intro e;rw[e]at F;simp at F
 simp[callFunc,H,h1,h2]
theorem Qk(I:kH β st.gens w M st.rho a.eval){c:Call}(N:o.op= .call c){sh:Nat}{KL:mV}(hc:nY P sh c=some KL){f:Nat}{r:List T}(F:bI st.rho KL=some (some (f,r))):
  ∃D:Array Value,(execOp a.eval o).run P w=(callFunc f D).run P w∧au β st.gens w M r D.toList:=by
 unfold nY at hc
 split at hc
 ·rename_i O H
  simp only[Option.map_eq_some_iff]at hc
  obtain⟨as,h1,rfl⟩:=hc
  simp[bI]at F
  obtain⟨rfl,rfl⟩:=F
  refine⟨c.args.map a.eval, ?_,by simpa using rR I h1⟩
  simp[execOp,N,resolve,H,Deferred.ofValue,Act.eval,invoke]
 ·rename_i x Y H
  split at hc
  ·rename_i y as h1 h2
   simp at hc;subst hc
   simp only[bI,Option.some.injEq]at F
   split at F
   ·rename_i O Z fc e
    simp at F
    obtain⟨rfl,rfl⟩:=F
    have J:=I x y h1
    rw[e]at J
    simp only[aq]at J
    obtain⟨U,V,e1,W,X⟩:=J
    refine⟨U++c.args.map a.eval++V, ?_, ?_⟩
    ·simp[execOp,N,resolve,H,e1,Deferred.ofValue,invoke]
    ·have:=au.append (au.append W (rR I h2)) X
     simpa using this
   ·simp at F
  ·cases hc
 all_goals
  exfalso
  revert F
  try (simp only[Option.map_eq_some_iff]at hc;obtain⟨as,h1,rfl⟩:=hc;simp[bI];done)
  try (cases hc;done)
 ·grind [bI]
 ·split at hc
  ·grind [bI]
  ·cases hc
theorem Ql{sh:Nat}{op:Op}{KL:mV}{ρ:aX→T}{x:Option (Nat×List T)}(h:cN P sh op=some KL)(hc:bI ρ KL=some x): ∃c,op= .call c∧nY P sh c=some KL:=by
 cases op with
 |call c=>exact⟨c,rfl,h⟩
 |makeFunc D first F=>
  exfalso
  cases D <;> simp only[cN]at h <;> try (cases h;done)
  grind [bI]
 |makeMap t r=>
  exfalso
  cases r <;> simp only[cN]at h
  ·grind [bI]
  ·cases h
 |_=>
  grind [cN,Option.map_eq_some_iff,bI]
theorem awK(h:bh B st w β M){f:Nat}{g:List T→Option (List T×Option Nat)}
  (gq: ∀r,g []=some ([],r)→r.getD 0=0→ ∀w:World,Calls P f #[jZ] w fun e w'=>e= .returned (match r with|none=> .tuple #[]|some _=>jZ)∧RowKit.Below w.heap.size w w')
  (tj: ∀cs Z r,g cs=some (Z,r)→Z.length=cs.length→ ∀(w:World) (M:aG) (V off I:Nat) (c:Array Value) (el:TypeId) (vs:List Value),w.heap[V]? =some (.cells c el (0,0))→off+cs.length≤c.size→cs.length≤I→(c.toList.drop off).take cs.length=vs→PList w M cs vs→
    Calls P f #[.slice (some ⟨V,off,none⟩) cs.length I] w fun e w'=> ∃us,e= .returned (NF V off I r)∧PList w M Z us∧RowKit.Below w.heap.size (setBlock w V (.cells (splice c.toList off us).toArray el)) w')
  {N:List T} {F:Array Value} (hv:au β st.gens w M N F.toList) {r:T} {O:St} (D:Vr g st N=some (r,O)):
  O.fr=st.fr∧Calls P f F w fun e w'=> ∃cv W M',e= .returned cv∧bh B O w' W M'∧Tr st w β M O w' W M'∧w.heap.size≤w'.heap.size∧aq W O.gens w' M' r cv:=by
 unfold Vr at D
 split at D
 ·have hc:F= #[jZ]:=by
   grind [au,aq,Array.toList_inj.1]
  subst hc
  have fin: ∀X:Option Nat,g []=some ([],X)→X.getD 0=0→O=st→(∀W M' w',aq W st.gens w' M' r (match X with|none=> .tuple #[]|some _=>jZ))→
    O.fr=st.fr∧Calls P f #[jZ] w fun e w'=> ∃cv W M',e= .returned cv∧bh B O w' W M'∧Tr st w β M O w' W M'∧w.heap.size≤w'.heap.size∧aq W O.gens w' M' r cv:=by
   rintro X hg h0 rfl hr
   refine⟨rfl,(gq X hg h0 w).mono ?_⟩
   rintro e w' ⟨rfl,J⟩
   obtain⟨o1,o2⟩:=Ir h J.os J.tape J.output J.size J.block
   exact⟨_,β,M,rfl,o1,o2,J.size,hr _ _ _⟩
  split at D
  ·grind [Option.some.injEq,Prod.mk.injEq,aq,au]
  ·rename_i hg
   simp only[Option.some.injEq,Prod.mk.injEq]at D
   obtain⟨rfl,rfl⟩:=D
   simp_all[aq,jZ]
  ·cases D
 ·rename_i sp k g0 off len
  simp only[au,aq]at hv
  obtain⟨u,us,h1,⟨aJ9,I,rfl,hlc,hce⟩,rfl⟩:=hv
  have hc:F= #[.slice (some ⟨(β sp k g0).blk,(β sp k g0).off+off,none⟩) len I]:=Array.toList_inj.1 h1
  subst hc
  generalize he:st.get sp k=e0 at D
  obtain⟨U,ob⟩:=e0
  cases ob with
  |none=>cases D
  |map _ _ _=>cases D
  |cells cs wm bx=>
  cases bx with
  |true=>cases D
  |false=>
  dsimp only at D
  split at D
  ·rename_i awL
   obtain⟨rfl,Ik,jY⟩:=awL
   split at D
   ·rename_i Z X hg
    split at D
    ·rename_i hys
     obtain⟨Qe,hy2,hy3⟩:=hys
     simp only[Option.some.injEq,Prod.mk.injEq]at D
     obtain⟨rfl,rfl⟩:=D
     have yy:=h.obj sp k
     rw[he]at yy
     unfold ev at yy
     obtain⟨c,el,fz,sQ,h2,h3,h4,h5,h6,h7,h8⟩:=yy
     dsimp only at sQ h2 h3 h4 h5 h6
     subst h4
     have H:((cs.drop off).take len).length=len:=by rw[List.length_take,List.length_drop];omega
     have ee:c.toList.length=c.size:=xv
     have hpl:PList w M ((cs.drop off).take len) ((c.toList.drop ((β sp k U).off+off)).take len):=by
      have q:=PList.take len (PList.drop off (show PList w M cs ((c.toList.drop (β sp k U).off).take cs.length)from h5))
      rw[List.drop_take,List.take_take,List.drop_drop,Nat.min_eq_left zO]at q
      exact q
     have aC:=tj _ Z X hg (by rw[H];exact Qe) w M (β sp k U).blk ((β sp k U).off+off) I c el _ sQ (by rw[H];omega) (by rw[H];exact hlc) (by rw[H]) hpl
     rw[H]at aC
     refine⟨aiM _ _,aC.mono ?_⟩
     rintro e w' ⟨us,rfl,hpu,J⟩
     have hul:us.length=len:=by rw[←PList.length _ _ hpu];exact Qe
     have Y:=uJ h he U (Nat.le_refl _) sQ off us (splice cs off Z) Ik zO (by rw[df];omega) (by rw[df];exact h3) (pd h7 hy2) (by
      rw[df]
      have VF:(splice (c.toList.drop (β sp k U).off) off us).take cs.length=splice ((c.toList.drop (β sp k U).off).take cs.length) off us:=by
       apply List.ext_getElem?
       intro j
       rw[List.getElem?_take,fu,fu,List.getElem?_take,List.length_take]
       by_cases hj:j<cs.length
       ·rw[if_pos hj,if_pos hj]
        by_cases hc:off≤j∧j<off+us.length∧j<(c.toList.drop (β sp k U).off).length
        ·rw[if_pos hc,if_pos zO]
        ·rw[if_neg hc,if_neg zO]
       ·rw[if_neg hj,if_neg hj,if_neg zO]
      rw[VF]
      exact PList.splice h5 hpu)
     rw[n4]at Y
     have kl:=eF w (β sp k U).blk (.cells (splice c.toList ((β sp k U).off+off) us).toArray el)
     obtain⟨o1,o2⟩:=Ir Y.1 J.os J.tape J.output J.size fun b hb=>J.block b (by rw[kl]at hb;exact hb)
     refine⟨_,β,M,rfl,o1,Y.2.trans o2 (by rw[kl];exact Nat.le_refl _),by rw[←kl];exact J.size, ?_⟩
     cases X with
     |none=>simp[akD,NF,aq,au]
     |some n=>
      simp only[akD,NF,aq]
      refine⟨?_,I,rfl, ?_,hce⟩
      ·rw[eP,if_pos ⟨rfl,rfl⟩];exact Nat.le_refl _
      ·simp at hy3;omega
    ·cases D
   ·cases D
  ·cases D
 ·cases D
theorem Qm(hE:pW P E)(hO:uP P E call)(h:bh B st w β M){f:Nat}{J:List T}{F:Array Value}(hv:au β st.gens w M J F.toList){r:T}{U:St}{d:Nat}(D:bB E call d st f J=some (r,U)):
  (callFunc f F).run P w= .ok (.enter f F) w∧U.fr=st.fr∧
  Calls P f F w fun e w'=> ∃cv I M',e= .returned cv∧bh B U w' I M'∧Tr st w β M U w' I M'∧w.heap.size≤w'.heap.size∧aq I U.gens w' M' r cv:=by
 unfold bB at D
 split at D
 ·rename_i af Y
  obtain⟨hs,fn,hf,wN⟩:=hE.1 f af Y
  have hnb:(fn.name== "runtime.NumGoroutine")=false∧fn.body.isSome=true:=by
   grind [DD]
  refine⟨pe hf hnb.1 hnb.2 _ _, ?_⟩
  split at D
  ·rename_i q hq
   obtain⟨ts,us⟩:=q
   obtain⟨M1,Z,q2,q3,q4,q5,q6⟩:=ki (fun t=>xR af.eff st aL t) J B st w β M _ ts us _ (Fz.refl st) h hv hq
   split at D
   ·rename_i pg
    simp only[Option.map_eq_some_iff]at D
    obtain⟨⟨N,aY⟩,aC,D⟩:=D
    simp at D
    obtain⟨rfl,rfl⟩:=D
    refine⟨FA st us, ?_⟩
    have tm:af.own=none:=by
     cases ho:af.own with
     |none=>rfl
     |some j=>rw[((hO f af ts (st.ups us).sh N aY Y aC).2 j ho).1]at pg;cases pg
    have X:=(hO f af ts (st.ups us).sh N aY Y aC).1 tm
    rw[pg]at q4 X
    have hx:jw true β (bare .nil (st.ups us).sh).gens w M1 ts F.toList:=by
     intro I G' p1 p2
     refine q4 I G' (fun k g hg=>p1 k g ?_) (fun k=>Nat.le_trans (Nat.le_of_eq ?_) (p2 k))
     ·have:(bare .nil (st.ups us).sh).gens .S k=(st.ups us).gens .S k:=rfl
      rw[this,q2.gens];exact hg
     ·have:(bare .nil (st.ups us).sh).gens .S k=(st.ups us).gens .S k:=rfl
      rw[this,q2.gens]
    refine(X w β M1 F (acR Z .nil) hx).mono ?_
    rintro e w' ⟨cv,I,M',rfl,H,C0,hG,hr⟩
    obtain⟨b1,b2⟩:=ak3 Z H C0 hG
    refine⟨cv,_,M',rfl,b1,(Tr.fz q2 q3).trans b2 (Nat.le_refl _),H.size, ?_⟩
    exact hr _ _ (fun _ _ _=>rfl) (fun _=>Nat.le_refl _)
   ·rename_i pg
    simp at pg
    split at D
    ·rename_i r0 aC
     obtain⟨N,aY⟩:=r0
     rw[pg]at q4
     have yD: ∀b,¬eQ [] β b:=by rintro b ⟨k,hl,_⟩;simp[aE,aJ]at hl;exact hl.elim
     have C9:bh ⟨w,M1,eQ [] β⟩ (bare .nil []) w β M1:=by
      have h0:=VJ Z .nil
      exact⟨h0.obj,h0.dist,h0.mlt,fun k hl=>h0.lblk k hl,fun k hl=>(h0.sblk k hl).imp (fun e=>e.elim) id,rfl,rfl,rfl,Nat.le_refl _,fun _ _ _=>rfl,dX.refl w M1,fun _ _ _ _ hm=>hm⟩
     have V: ∀(c:Bool),(c=true→ ∀{w1 M1 w2 M2 cv},PRel w1 M1 N cv→PRel w2 M2 N cv)→ ∀(w':World) (cv:Value) (I:aV) (M':aG) (Qn:St),Qn=(if c=true then st else st.ups us)→bh ⟨w,M1,eQ [] β⟩ (bare .nil aY) w' I M'→PRel w' M' N cv→
       ∃W I M',Ending.returned cv= .returned W∧bh B Qn w' I M'∧Tr st w β M Qn w' I M'∧w.heap.size≤w'.heap.size∧aq I Qn.gens w' M' N W:=by
      intro c NG w' cv I M' Qn sC H hr'
      have O:=fun b (hb:b<w.heap.size)=>H.same b hb (yD b)
      by_cases fK:c=true
      ·rw[if_pos fK]at sC;subst sC
       obtain⟨o1,o2⟩:=Ir h H.os H.tape H.output H.size O
       exact⟨cv,β,M,rfl,o1,o2,H.size,PRel.toV _ _ _ _ (NG fK hr')⟩
      ·rw[if_neg fK]at sC;subst sC
       obtain⟨o1,o2⟩:=Ir Z H.os H.tape H.output H.size O
       refine⟨cv,β,M1,rfl,o1,(Tr.fz q2 q3).trans o2 (Nat.le_refl _),H.size,PRel.toV _ _ _ _ (PRel.mono (dz ?_) _ _ hr')⟩
       intro b x hm
       have hb:=Z.mlt b x hm
       exact H.msup b x hb (yD b) hm
     cases tm:af.own with
     |none=>
      simp only[tm]at D
      simp at D
      obtain⟨rfl,sC⟩:=D
      have X:=(hO f af ts [] N aY Y aC).1 tm
      rw[pg]at X
      have ak7:U.fr=st.fr:=by rw[←sC];split;rfl;exact FA st us
      refine⟨ak7,(X w β M1 F C9 q4).mono ?_⟩
      rintro e w' ⟨cv,I,M',rfl,H,C0,hG,hr⟩
      exact V (scalar N) (fun h=>Ln h) w' cv I M' U sC.symm H hr
     |some j=>
      simp only[tm]at D
      have X:=((hO f af ts [] N aY Y aC).2 j tm).2
      unfold tg at D
      have ak7:U.fr=st.fr:=by
       split at D
       ·simp at D;obtain⟨_,rfl⟩:=D;split;rfl;exact FA st us
       ·split at D
        ·simp at D;obtain⟨_,rfl⟩:=D;show(ite _ _ _:St).fr=_;split;rfl;exact FA st us
        ·cases D
       ·cases D
      refine⟨ak7,(X w β M1 F C9 q4).mono ?_⟩
      rintro e w' ⟨cv,I,M',rfl,H,hr⟩
      rcases hr with⟨hc,hr⟩|⟨cs,len,hc,S,sz,cap,c,el,s1,s2,s3,s4,s5,s6,s7,s8,s9,s10,s11,s12,s13⟩
      ·rw[hc]at D
       simp at D;obtain⟨rfl,sC⟩:=D
       exact V (mX N) (fun h=>Qj h) w' cv I M' U sC.symm H hr
      ·rw[hc]at D
       simp only at D
       split at D
       ·rename_i hcs
        have kl:cs.length/len=sz:=by rw[s8];exact Nat.mul_div_cancel_left _ (Nat.pos_of_ne_zero s9)
        rw[kl]at D
        have O:=fun b (hb:b<w.heap.size)=>H.same b hb (yD b)
        have fin: ∀(Qn:St) (M3:aG),bh B Qn w β M3→Tr st w β M Qn w β M3→(∀β G,aq β G w' (Is M3 S) (aO N j .nilsl) (ll cv j jZ))→
          some (aO N j (.isl .L d ((Qn.get .L d).g+1) 0 len sz),Qn.up (.L,d,⟨(Qn.get .L d).g+1,.cells cs 0 false⟩))=some (r,U)→
          ∃W I M',Ending.returned cv= .returned W∧bh B U w' I M'∧Tr st w β M U w' I M'∧w.heap.size≤w'.heap.size∧aq I U.gens w' M' r W:=by
         intro Qn M3 h3 t3 SP D
         simp only[Option.some.injEq,Prod.mk.injEq]at D
         obtain⟨rfl,rfl⟩:=D
         obtain⟨o1,o2⟩:=ak4 h3 H.os H.tape H.output H.size O d ((Qn.get .L d).g+1) (Nat.lt_succ_self _) S s1 (mZ s2) (.cells cs 0 false) (by
          unfold ev
          simp only[bX]
          exact⟨c,el,(0,0),s2,s3,s4,rfl,rU hcs.1 s5,fun i _ hi=> .inr ⟨rfl,by omega,by omega⟩,s7,Nat.zero_le _⟩)
         refine⟨cv,_,_,rfl,o1,t3.trans o2 (Nat.le_refl _),H.size,acS (SP _ _) s12 ?_ rfl⟩
         simp only[aq]
         rw[bX]
         exact⟨by simp[eP],cap,rfl,s10,by simpa using s11⟩
        by_cases fK:mX (aO N j .nilsl)=true
        ·simp only[fK,if_true]at D
         exact fin st M h (Tr.refl _ _ _ _) (fun β G=>Lo fK (s13 β G)) D
        ·simp only[fK,Bool.false_eq_true,if_false]at D
         refine fin (st.ups us) M1 Z (Tr.fz q2 q3) (fun β G=>aq.mono (dz ?_) (fun _ _ _ _=>rfl) (fun _ _=>Nat.le_refl _) _ _ (s13 β G)) D
         rintro b x (hm|⟨rfl,h1,h2⟩)
         ·exact H.msup b x (Z.mlt b x hm) (yD b) hm
         ·have:=(s6.resolve_left fK) (x-S.off) zO
          rwa [show S.off+(x-S.off)=x by omega]at this
       ·cases D
    ·cases D
  ·cases D
 ·rename_i g Y Il
  split at D
  ·rename_i q hq
   obtain⟨ts,us⟩:=q
   simp only[Option.map_eq_some_iff]at D
   obtain⟨N,hg,D⟩:=D
   simp at D
   obtain⟨rfl,rfl⟩:=D
   obtain⟨⟨fn,hf,hn,hb⟩,X⟩:=hE.2.1 f g Y Il
   obtain⟨M1,Z,q2,q3,q4,q5,q6⟩:=ki (fun t=>xR false st aL t) J B st w β M _ ts us _ (Fz.refl st) h hv hq
   refine⟨pe hf hn hb _ _,rfl,(X ts N hg w M1 F Z.mlt q4).mono ?_⟩
   rintro e w' ⟨cv,rfl,n5,hr⟩
   obtain⟨o1,o2⟩:=Ir h n5.os n5.tape n5.output n5.size n5.block
   exact⟨cv,β,M,rfl,o1,o2,n5.size,PRel.toV _ _ _ _ (PRel.mono (dz (fun b x hm=>h.mlt b x hm)) _ _ hr)⟩
  ·cases D
 ·rename_i Y Il
  split at D
  ·rename_i g hwr
   obtain⟨⟨fn,hf,hn,hb⟩,gq,X⟩:=hE.2.2 f g Y Il hwr
   refine⟨pe hf hn hb _ _, ?_⟩
   grind [awK]
  ·cases D
variable{ops:Array Oper}{Q:Exit→Act→World→Prop}{n:Nat}{K:Act→World→Prop}
theorem Lq(r:ju st a w β M n){j d:Nat}(D:(ops[j]?).bind (·.dst)=some d)(F:aa st.fr d≠ .any):yielded ops a.tmps j=match aa st.fr d with| .b x=>some x|_=>none:=by
 unfold yielded
 rw[D]
 simp only[Option.bind_some]
 have hs:=r.slot d
 rw[Array.getD_eq_getD_getElem?]at hs
 cases hx:a.tmps[d]? with
 |none=>
  rw[hx]at hs
  simp only[Option.getD_none]at hs
  generalize aa st.fr d=t at*
  cases t
  case any=>grind
  all_goals (simp only[aq,PRel,undef]at hs;simp_all)
 |some cv=>
  rw[hx]at hs
  simp only[Option.getD_some]at hs
  generalize aa st.fr d=t at*
  cases t <;> simp only[aq,PRel]at hs
  case b x=>subst hs;rfl
  case any=>grind
  all_goals first
   |(subst hs;rfl)
   |(obtain⟨_,rfl,_⟩:=hs;rfl)
   |(obtain⟨_,_,rfl,_⟩:=hs;rfl)
   |(obtain⟨_,_,_,rfl,_⟩:=hs;rfl)
   |(obtain⟨_,_,_,_,rfl,_⟩:=hs;rfl)
   |(obtain⟨_,rfl⟩:=hs;rfl)
theorem na(hE:pW P E)(hO:uP P E call){hs:List Nat}{U:aF}{i:Nat}(hi:ops[i]? =some o)(hc:qE P hs ops o=some U)(h:bh B st w β M)(J:ju st a w β M n){I:St}(O:br E call n U st=some I)
  (hK: ∀Z w' F M',bh B I w' F M'→ju I Z w' F M' n→Tr st w β M I w' F M'→w.heap.size≤w'.heap.size→K Z w'):wpOp P ops Q i K a w:=by
 have ep:=Vu J
 unfold wpOp
 rw[hi]
 simp only
 unfold qE at hc
 split at hc
 ·rename_i KL Bg
  have core: ∀gd,U=⟨o.dst,KL,gd⟩→(match bI st.rho KL with
    |some (some c)=>match bB E call (o.dst.getD 0) st c.1 c.2 with
     |some r=>(iI st.fr n o.dst r.1).map fun fr=>({r.2 with fr}:St)
     |none=>none
    |some none=>none
    |none=>match(bC (o.dst.getD 0) st.rho KL).run st.get st.sh.length with
     |some (.val v ups)=>(iI st.fr n o.dst v).map fun fr=>({st.ups ups with fr}:St)
     |none=>none)=some I→o.wp P a w K Q:=by
   intro gd _ D
   unfold Oper.wp
   split at D
   ·rename_i c aC
    obtain⟨f,V⟩:=c
    split at D
    ·rename_i r W
     obtain⟨r,wM⟩:=r
     simp only[Option.map_eq_some_iff]at D
     obtain⟨fr,N,rfl⟩:=D
     have H:=Ql Bg aC
     obtain⟨c,ho,H⟩:=H
     obtain⟨X,hx,qv⟩:=Qk ep ho H aC
     obtain⟨d1,d2,d3⟩:=Qm hE hO h qv W
     rw[hx,d1,Oper.upon_enter]
     refine d3.mono ?_
     rintro e w' ⟨cv,F,M',rfl,k1,k2,k3,k4⟩
     refine hK _ _ F M' (acT k1 fr) ?_ (k2.fr fr) k3
     exact Bm J k2 N k4
    ·cases D
   ·cases D
   ·split at D
    ·rename_i v ups hq
     simp only[Option.map_eq_some_iff]at D
     obtain⟨fr,N,rfl⟩:=D
     obtain⟨nx,cv,w',F,M',r1,r2,r3,r4,r5,r6⟩:=awE (P:=P) ep h Bg hq
     rw[r1]
     have:=hK (a.put o.dst cv) w' F M' (acT r3 fr) (Bm J r4 N r6) (r4.fr fr) r5
     rcases r2 with rfl|⟨rfl,rfl⟩
     ·exact this
     ·exact this
    ·cases D
  split at hc
  ·grind [Region.wanted,br]
  ·rename_i j want hg
   split at hc
   ·rename_i d W
    simp at hc;subst hc
    unfold br at O
    simp only at O
    have Y:aa st.fr d≠ .any:=by intro e;rw[e]at O;cases O
    have hy:=Lq (ops:=ops) J W Y
    have aD3:(iI st.fr n o.dst ba).map (fun fr=>({st with fr}:St))=some I→K (a.put o.dst undef) w:=by
     intro hp
     simp only[Option.map_eq_some_iff]at hp
     obtain⟨fr,N,rfl⟩:=hp
     exact hK _ _ β M (acT h fr) (Bm J (Tr.refl _ _ _ _) N (by simp[aq,ba,undef,au])) ((Tr.refl _ _ _ _).fr fr) (Nat.le_refl _)
    grind [Region.wanted]
   ·cases hc
 ·cases hc
end
end Go.Ev
namespace Go.Ev
open Go
theorem Q.run_congr{α:Type}{h F:Sp→Nat→ah}{nx r:Nat}: ∀(q:Q α),(∀κ∈q.log h nx,F κ.1 κ.2=h κ.1 κ.2)→(q.asks h nx=true→r=nx)→q.run F r=q.run h nx
 | .ret a,_,_=>rfl
 | .fail,_,_=>rfl
 | .rd sp k f,D,H=>by
   have e:F sp k=h sp k:=D (sp,k) (by simp[Q.log])
   simp only[Q.run,e]
   exact Q.run_congr (f (h sp k)) (fun κ hk=>D κ (by simp[Q.log,hk])) (fun I=>H (by simp[Q.asks,I]))
 | .new f,D,H=>by
   have e:r=nx:=H rfl
   subst e
   simp only[Q.run]
   exact Q.run_congr (f r) (fun κ hk=>D κ (by simp[Q.log,hk])) (fun _=>rfl)
theorem jj(f:T→Q (T×List Up))(h:Sp→Nat→ah)(nx:Nat)(D: ∀t,(f t).asks h nx=false): ∀ts,(bn f ts).asks h nx=false:=by
 have r: ∀{α γ:Type} (q:Q α) (g:α→Q γ),q.asks h nx=false→(∀a,(g a).asks h nx=false)→(q.bind g).asks h nx=false:=by
  intro α γ q g F H
  induction q with
  |ret a=>exact H a
  |fail=>rfl
  |rd sp k f ih=>grind [Q.bind,Q.asks]
  |new f ih=>simp[Q.asks]at F
 intro ts
 induction ts with
 |nil=>rfl
 |cons t ts ih=>
  simp only[bn]
  refine r _ _ (D t) (fun p=>r _ _ ih (fun q=>rfl))
theorem NH(h:Sp→Nat→ah)(nx:Nat): ∀(keep:Bool) (n:Nat) (t:T),(fz keep n t).asks h nx=false:=by
 have r: ∀{α γ:Type} (q:Q α) (g:α→Q γ),q.asks h nx=false→(∀a,(g a).asks h nx=false)→(q.bind g).asks h nx=false:=by
  intro α γ q g D F
  induction q with
  |ret a=>exact F a
  |fail=>rfl
  |rd sp k f ih=>grind [Q.bind,Q.asks]
  |new f ih=>simp[Q.asks]at D
 intro keep n
 induction n generalizing keep with
 |zero=>intro t;rfl
 |succ n ih=>
  intro t
  cases t <;> simp only[fz] <;> try rfl
  ·split
   ·rfl
   ·simp only[Q.asks];split
    ·split
     ·split <;> rfl
     ·split
      ·exact r _ _ (jj _ _ _ (fun t=>ih false t) _) (fun _=>rfl)
      ·rfl
     ·rfl
    ·rfl
  ·split
   ·rfl
   ·simp only[Q.asks];split
    ·split
     ·exact r _ _ (jj _ _ _ (fun t=>ih false t) _) (fun _=>rfl)
     ·rfl
    ·rfl
  ·grind [Q.asks]
  ·exact r _ _ (jj _ _ _ (fun t=>ih keep t) _) (fun _=>r _ _ (jj _ _ _ (fun t=>ih keep t) _) (fun _=>rfl))
  ·exact r _ _ (jj _ _ _ (fun t=>ih keep t) _) (fun _=>rfl)
  ·exact r _ _ (jj _ _ _ (fun t=>ih keep t) _) (fun _=>rfl)
theorem ko{ρ NI:aX→T}{l:List aX}(h: ∀x∈l,NI x=ρ x):l.map NI=l.map ρ:=List.map_congr_left h
theorem lH{ρ NI:aX→T}{d:Nat}{x:Option aX}(h: ∀y∈x.toList,NI y=ρ y):eY NI d x=eY ρ d x:=by
 cases x with
 |none=>rfl
 |some y=>grind [eY]
theorem Qo{ρ NI:aX→T}(d:Nat)(op:mV)(h: ∀x∈wF op,NI x=ρ x):bC d NI op=bC d ρ op:=by
 cases op <;> simp only[wF]at h <;> simp only[bC]
 case mv x=>grind
 case pick c a b=>grind
 case box x sh=>grind
 case build z ps=>
  have e: ∀p∈ps,NI p.2.2=ρ p.2.2:=fun p D=>h _ (List.mem_map.2 ⟨p,D,rfl⟩)
  have e1:(ps.all fun p=>decide ((cellsOf (NI p.2.2)).length=p.2.1)&&noTup (NI p.2.2))=(ps.all fun p=>decide ((cellsOf (ρ p.2.2)).length=p.2.1)&&noTup (ρ p.2.2)):=by
   grind
  grind [List.map_congr_left]
 case bsl z len ps=>
  grind [List.map_congr_left]
 case ld x n ag=>grind
 case st x v n=>grind
 case nck x=>grind
 case bin o x y=>grind
 case eq n k x y=>grind
 case un o x=>grind
 case cvi k x=>grind
 case b2s x=>rw[h x xv]
 case mkfn f a c=>rw[ko (fun x hx=>h x (by simp[hx])),ko (fun x hx=>h x (by simp[hx]))]
 case mksl z b x sh=>rw[h x xv]
 case slS x l hh=>
  rw[h x xv,lH (x:=l) (fun y r=>h y (by simp at r;simp[r]))]
  split
  ·rw[lH (x:=hh) (fun y r=>h y (by simp at r;simp[r]))]
  ·rfl
 case slV sz x l hh m=>
  rw[h x xv,lH (x:=l) (fun y r=>h y (by simp at r;simp[r]))]
  split
  ·rfl
  ·rw[lH (x:=hh) (fun y r=>h y (by simp at r;simp[r]))]
   split
   ·rfl
   ·rename_i mm _ _;rw[h mm xv]
   ·rfl
 case fa x o=>rw[h x xv]
 case fld x o n ag=>rw[h x xv]
 case ia x y n=>rw[h x xv,h y xv]
 case iaA x y l n=>rw[h x xv,h y xv]
 case ixS x y=>rw[h x xv,h y xv]
 case ixA x y l n ag=>rw[h x xv,h y xv]
 case lk k x y z ok=>rw[h x xv,h y xv]
 case mu k x y z=>rw[h x xv,h y xv,h z xv]
 case ext x j=>rw[h x xv]
 case lenS x=>rw[h x xv]
 case lenV x=>rw[h x xv]
 case lenM x=>rw[h x xv]
 case app s b x y sh nm=>rw[h x xv,h y xv]
 case mm b as=>rw[ko h]
theorem FE{ρ NI:aX→T}(op:mV)(h: ∀x∈wF op,NI x=ρ x):bI NI op=bI ρ op:=by
 cases op <;> simp only[wF]at h <;> simp only[bI]
 case callf f as=>simp_all
 case callv f as=>rw[h f xv,ko (fun x hx=>h x (by simp[hx]))]
theorem VN{ρ:aX→T}{op:mV}(F:quiet op=true)(d:Nat)(h:Sp→Nat→ah)(nx:Nat):bI ρ op=none∧(bC d ρ op).log h nx= []∧(bC d ρ op).asks h nx=false∧ ∀v r,(bC d ρ op).run h nx=some (.val v r)→r= []:=by
 have D: ∀x:Option T,(Ev.val x).log h nx= []∧(Ev.val x).asks h nx=false∧ ∀v r,(Ev.val x).run h nx=some (.val v r)→r= []:=by
  intro x;cases x <;> simp[Ev.val,Q.log,Q.asks,Q.run]
 cases op <;> simp[quiet]at F <;> refine⟨rfl, ?_⟩ <;> simp only[bC]
 case slV sz x l hh m=>
  split
  ·simp[Q.log,Q.asks,Q.run]
  ·split
   ·unfold xO
    grind [Q.bind,Q.log,Q.asks,Q.run]
   ·grind [Q.log,Q.asks,Q.run]
   ·simp[Q.log,Q.asks,Q.run]
 all_goals first
  |exact D _
  |(simp[Q.log,Q.asks,Q.run];done)
  |(repeat' split
    all_goals first
     |exact D _
     |(simp[Q.log,Q.asks,Q.run];done))
end Go.Ev
namespace Go.Ev
open Go
theorem It{us:List Up}{sp:Sp}{k:Nat}:jU us sp k=true↔(sp,k)∈dg us:=by
 grind [jU,dg]
theorem Iu(s p:St): ∀(us:List Up) (sp:Sp) (k:Nat),jU us sp k=true→(s.ups us).get sp k=(p.ups us).get sp k:=by
 intro us
 induction us generalizing s p with
 |nil=>grind [jU]
 |cons u us ih=>
  grind [St.ups,lG,jU,fF]
theorem zG(s p:St)(us:List Up)(sp:Sp)(k:Nat):(s.ups us).get sp k=if(sp,k)∈dg us then(p.ups us).get sp k else s.get sp k:=by
 split
 ·rename_i h;exact Iu s p us sp k (It.2 h)
 ·rename_i h
  refine lG s us sp k ?_
  cases r:jU us sp k with
  |false=>rfl
  |true=>exact absurd (It.1 r) h
theorem Lr(s p:St)(hs:s.sh=p.sh): ∀us,(s.ups us).sh=(p.ups us).sh:=by
 intro us
 induction us generalizing s p with
 |nil=>exact hs
 |cons u us ih=>
  simp only[St.ups]
  refine ih _ _ ?_
  obtain⟨a,b,c⟩:=u
  cases a
  ·exact hs
  ·simp[St.up,hs]
theorem FF(s:St): ∀us,(∀u∈us,u.1= .S→u.2.1<s.sh.length)→(s.ups us).sh.length=s.sh.length:=by
 intro us
 induction us generalizing s with
 |nil=>intro _;rfl
 |cons u us ih=>
  intro h
  obtain⟨a,b,c⟩:=u
  simp only[St.ups]
  have r:(s.up (a,b,c)).sh.length=s.sh.length:=by
   cases a with
   |L=>rfl
   |S=>simp_all[St.up,bU]
  grind
theorem Ls{s p:St}{us:List Up}(h:inB p us=true)(D: ∀sp k,(sp,k)∈dg us→s.get sp k=p.get sp k): ∀u∈us,u.1= .S→u.2.1<s.sh.length:=by
 intro u r e
 unfold inB at h
 rw[List.all_eq_true]at h
 have h1:=h u r
 obtain⟨a,b,c⟩:=u
 dsimp only at e;subst e
 simp at h1
 have h2:=D .S b (by unfold dg;exact List.mem_map.2 ⟨_,r,rfl⟩)
 refine Nu (st:=s) ?_
 grind [xP,live]
theorem FG{fr fr2:Fr}{n:Nat}{d:Option Nat}{v:T}{g:Fr}(h:iI fr n d v=some g): ∃r,iI fr2 n d v=some r∧ ∀t,aa r t=if d=some t then aa g t else aa fr2 t:=by
 cases d with
 |none=>exact⟨fr2,rfl,fun t=>by simp⟩
 |some d=>
  grind [iI,lL]
def wrote(fp:FP)(sp:Sp)(k:Nat):Prop:=(sp,k)∈fp.w∨(fp.all=true∧sp= .S)
structure acU (ao:aF) (fp:FP) (s s' p':St):Prop where
 slot: ∀t,aa s'.fr t=if ao.d=some t then aa p'.fr t else aa s.fr t
 key: ∀sp k,(wrote fp sp k→s'.get sp k=p'.get sp k)∧(¬wrote fp sp k→s'.get sp k=s.get sp k)
 len:(fp.all=true→s'.sh.length=p'.sh.length)∧(fp.all=false→s'.sh.length=s.sh.length)
variable{E:Env}{call:kg}{n:Nat}
theorem Qp{s p:St}{r:aF}(h: ∀t∈looks r,aa s.fr t=aa p.fr t): ∀x∈wF r.op,s.rho x=p.rho x:=by
 intro x hx
 cases x with
 |t m=>
  refine h m ?_
  grind [looks,tmpsOf]
 |c v=>rfl
theorem acV{s p:St}{d j:Nat}{r I:T}{us:List Up}{J:St}(D:tg d j r p us=some (I,J))(h: ∀sp k,(sp,k)∈(Sp.L,d)::dg us→s.get sp k=p.get sp k)(O:(s.ups us).sh.length=s.sh.length):
  ∃s2,tg d j r s us=some (I,s2)∧(∀sp k,((sp,k)∈(Sp.L,d)::dg us→s2.get sp k=J.get sp k)∧((sp,k)∉(Sp.L,d)::dg us→s2.get sp k=s.get sp k))∧s2.sh.length=s.sh.length:=by
 have base: ∀(c:Bool) (sp:Sp) (k:Nat),((sp,k)∈(Sp.L,d)::dg us→(if c=true then s else s.ups us).get sp k=(if c=true then p else p.ups us).get sp k)∧((sp,k)∉(Sp.L,d)::dg us→(if c=true then s else s.ups us).get sp k=s.get sp k):=by
  grind [Bool.false_eq_true,zG]
 have len: ∀c:Bool,(if c=true then s else s.ups us).sh.length=s.sh.length:=by
  grind
 unfold tg at D ⊢
 split at D
 ·rename_i hc
  simp only[Option.some.injEq,Prod.mk.injEq]at D ⊢
  obtain⟨rfl,rfl⟩:=D
  exact⟨_,⟨rfl,rfl⟩,base _,len _⟩
 ·rename_i cs Vv ex hc
  split at D
  ·rename_i H
   rw[if_pos H]
   simp only[Option.some.injEq,Prod.mk.injEq]at D ⊢
   obtain⟨rfl,rfl⟩:=D
   have N:=(base (mX (aO r j .nilsl)) .L d).1 (List.mem_cons_self ..)
   rw[N]
   refine⟨_,⟨rfl,rfl⟩,fun sp k=>⟨fun F=> ?_,fun F=> ?_⟩, ?_⟩
   ·rw[fF,fF]
    split
    ·rfl
    ·exact(base _ sp k).1 F
   ·rw[fF,if_neg (by rintro⟨rfl,rfl⟩;exact F (List.mem_cons_self ..))]
    exact(base _ sp k).2 F
   ·exact len _
  ·cases D
 ·cases D
theorem Iv{D:aF}{fp:FP}{s p U:St}(he:br E call n D p=some U)(dA:ch E call D p=some fp)(h1: ∀t∈looks D,aa s.fr t=aa p.fr t)(h2: ∀sp k,(sp,k)∈fp.r∨(sp,k)∈fp.w→s.get sp k=p.get sp k)(h3:fp.all=true→s.sh=p.sh):
  ∃O,br E call n D s=some O∧acU D fp s O U:=by
 have V:=Qp h1
 have aD3:(iI p.fr n D.d ba).map (fun fr=>({p with fr}:St))=some U→fp=gG→ ∃O,(iI s.fr n D.d ba).map (fun fr=>({s with fr}:St))=some O∧acU D fp s O U:=by
  intro hp hn
  subst hn
  simp only[Option.map_eq_some_iff]at hp
  obtain⟨g,W,rfl⟩:=hp
  obtain⟨g2,e1,e2⟩:=FG (fr2:=s.fr) W
  refine⟨{s with fr:=g2},by rw[e1];rfl,e2,fun sp k=>⟨fun hw=> ?_,fun _=>rfl⟩,⟨(fun I=>by cases I),fun _=>rfl⟩⟩
  rcases hw with hw|hw
  ·simp[gG]at hw
  ·cases hw.1
 have core:(match bI p.rho D.op with
       |some (some c)=>match bB E call (D.d.getD 0) p c.1 c.2 with
        |some r=>(iI p.fr n D.d r.1).map fun fr=>({r.2 with fr}:St)
        |none=>none
       |some none=>none
       |none=>match(bC (D.d.getD 0) p.rho D.op).run p.get p.sh.length with
        |some (.val v ups)=>(iI p.fr n D.d v).map fun fr=>({p.ups ups with fr}:St)
        |none=>none)=some U→(match bI p.rho D.op with
       |some (some c)=>fb E call (D.d.getD 0) p c.1 c.2
       |some none=>none
       |none=>
        let q:=bC (D.d.getD 0) p.rho D.op
        match q.run p.get p.sh.length with
        |some (.val _ ups)=>if q.asks p.get p.sh.length||inB p ups then some (⟨q.asks p.get p.sh.length,q.log p.get p.sh.length,dg ups⟩:FP)else none
        |none=>none)=some fp→
   ∃O,(match bI s.rho D.op with
    |some (some c)=>match bB E call (D.d.getD 0) s c.1 c.2 with
     |some r=>(iI s.fr n D.d r.1).map fun fr=>({r.2 with fr}:St)
     |none=>none
    |some none=>none
    |none=>match(bC (D.d.getD 0) s.rho D.op).run s.get s.sh.length with
     |some (.val v ups)=>(iI s.fr n D.d v).map fun fr=>({s.ups ups with fr}:St)
     |none=>none)=some O∧acU D fp s O U:=by
  intro J F
  rw[FE D.op V]
  split at J
  ·rename_i c hc
   obtain⟨f,args⟩:=c
   rw[hc]at F
   simp only[hc]at F ⊢
   split at J
   ·rename_i r H
    obtain⟨r,p2⟩:=r
    simp only[Option.map_eq_some_iff]at J
    obtain⟨g,W,rfl⟩:=J
    obtain⟨g2,e1,e2⟩:=FG (fr2:=s.fr) W
    suffices hs: ∃s2,bB E call (D.d.getD 0) s f args=some (r,s2)∧(∀sp k,(wrote fp sp k→s2.get sp k=p2.get sp k)∧(¬wrote fp sp k→s2.get sp k=s.get sp k))∧(fp.all=true→s2.sh.length=p2.sh.length)∧(fp.all=false→s2.sh.length=s.sh.length)by
     obtain⟨s2,d1,d2,d3⟩:=hs
     refine⟨{s2 with fr:=g2},by rw[d1];simp[e1],e2,d2,d3⟩
    unfold fb at F
    unfold bB at H ⊢
    split at H
    ·rename_i af X
     simp only[X]at F ⊢
     cases N:(bn (fz af.eff aL) args).run p.get p.sh.length with
     |none=>simp[N]at H
     |some q=>
      obtain⟨ts,us⟩:=q
      simp only[N]at H F
      split at F
      ·cases F
      ·rename_i Qq
       simp at Qq
       have A3: ∀κ∈(bn (fz af.eff aL) args).log p.get p.sh.length,κ∈fp.r:=by
        grind
       have Y:(bn (fz af.eff aL) args).run s.get s.sh.length=some (ts,us):=by
        rw[←N]
        refine Q.run_congr _ (fun κ hk=>h2 _ _ (.inl (A3 κ hk))) (fun I=> ?_)
        rw[jj _ _ _ (fun t=>NH _ _ _ _ t)]at I;cases I
       rw[Y]
       simp only
       split at H
       ·rename_i pg
        simp only[pg,if_true]at F ⊢
        simp at F;subst F
        simp only[Option.map_eq_some_iff]at H
        obtain⟨⟨r',aY⟩,aC,H⟩:=H
        simp at H;obtain⟨rfl,rfl⟩:=H
        have Z:=h3 rfl
        have aD4:=Lr s p Z us
        refine⟨{s.ups us with sh:=aY},by rw[aD4,aC];rfl,fun sp k=> ?_,fun _=>rfl,(fun I=>by cases I)⟩
        cases sp with
        |S=>exact⟨fun _=>rfl,fun hw=>absurd (.inr ⟨rfl,rfl⟩) hw⟩
        |L=>
         have:=zG s p us .L k
         refine⟨fun hw=> ?_,fun hw=> ?_⟩
         ·rcases hw with hw|hw
          ·rw[if_pos hw]at this;exact this
          ·cases hw.2
         ·rw[if_neg (fun e=>hw (.inl e))]at this;exact this
       ·rename_i pg
        simp only[pg,Bool.false_eq_true,if_false]at F ⊢
        split at H
        ·rename_i r0 aC
         simp only[aC]at F ⊢
         cases tm:af.own with
         |some j=>
          simp only[tm]at F H ⊢
          simp at F;subst F
          obtain⟨s2,g1,g2,g3⟩:=acV (s:=s) H (fun sp k hk=>h2 sp k (.inr hk)) (FF s us (Ls Qq (fun sp k hk=>h2 sp k (.inr (List.mem_cons_of_mem _ hk)))))
          refine⟨s2,g1,fun sp k=>⟨fun hw=> ?_,fun hw=>(g2 sp k).2 (fun e=>hw (.inl e))⟩,(fun I=>by cases I),fun _=>g3⟩
          rcases hw with hw|hw
          ·exact(g2 sp k).1 hw
          ·cases hw.1
         |none=>
         simp only[tm]at F H ⊢
         simp at F;subst F
         simp at H;obtain⟨rfl,rfl⟩:=H
         by_cases fK:scalar r0.1=true
         ·simp only[fK,if_true]
          refine⟨s,rfl,fun sp k=>⟨fun hw=> ?_,fun _=>rfl⟩,(fun I=>by cases I),fun _=>rfl⟩
          rcases hw with hw|hw
          ·simp at hw
          ·cases hw.1
         ·simp only[fK,Bool.false_eq_true,if_false]
          refine⟨s.ups us,rfl,fun sp k=> ?_,(fun I=>by cases I),fun _=> ?_⟩
          ·have:=zG s p us sp k
           refine⟨fun hw=> ?_,fun hw=> ?_⟩
           ·rcases hw with hw|hw
            ·rw[if_pos hw]at this;exact this
            ·cases hw.1
           ·rw[if_neg (fun e=>hw (.inl e))]at this;exact this
          ·exact FF s us (Ls Qq (fun sp k hk=>h2 sp k (.inr (by simpa[fK]using hk))))
        ·cases H
    ·rename_i g' X Il
     simp only[X,Il]at F ⊢
     simp at F;subst F
     cases N:(bn (fz false aL) args).run p.get p.sh.length with
     |none=>simp[N]at H
     |some q=>
      simp only[N]at H
      have Y:(bn (fz false aL) args).run s.get s.sh.length=some q:=by
       rw[←N]
       refine Q.run_congr _ (fun κ hk=>h2 _ _ (.inl hk)) (fun I=> ?_)
       rw[jj _ _ _ (fun t=>NH _ _ _ _ t)]at I;cases I
      rw[Y]
      simp only[Option.map_eq_some_iff]at H ⊢
      obtain⟨r',hg',H⟩:=H
      simp at H;obtain⟨rfl,rfl⟩:=H
      refine⟨s,⟨r',hg',rfl⟩,fun sp k=>⟨fun hw=> ?_,fun _=>rfl⟩,(fun I=>by cases I),fun _=>rfl⟩
      rcases hw with hw|hw
      ·simp at hw
      ·cases hw.1
    ·rename_i X Il
     simp only[X,Il]at F
     cases F
   ·cases J
  ·cases J
  ·rename_i hc
   simp only[hc]at F ⊢
   rw[Qo _ D.op V]
   split at J
   ·rename_i v ups N
    simp only[N]at F
    split at F
    ·rename_i Qq
     simp at F;subst F
     simp only[Option.map_eq_some_iff]at J
     obtain⟨g,W,rfl⟩:=J
     obtain⟨g2,e1,e2⟩:=FG (fr2:=s.fr) W
     have Y:(bC (D.d.getD 0) p.rho D.op).run s.get s.sh.length=some (.val v ups):=by
      grind [Q.run_congr]
     rw[Y]
     refine⟨{s.ups ups with fr:=g2},by simp[e1],e2,fun sp k=> ?_, ?_⟩
     ·have:=zG s p ups sp k
      refine⟨fun hw=> ?_,fun hw=> ?_⟩
      ·by_cases hm:(sp,k)∈dg ups
       ·rw[if_pos hm]at this;exact this
       ·rcases hw with hw|hw
        ·exact absurd hw hm
        ·obtain⟨ha,rfl⟩:=hw
         have Z:=Lr s p (h3 ha) ups
         show aE (s.ups ups).sh k=aE (p.ups ups).sh k
         rw[Z]
      ·rw[if_neg (fun e=>hw (.inl e))]at this;exact this
     ·refine⟨fun ha=> ?_,fun ha=> ?_⟩
      ·have Z:=Lr s p (h3 ha) ups
       show(s.ups ups).sh.length=(p.ups ups).sh.length
       rw[Z]
      ·rw[show(bC (D.d.getD 0) p.rho D.op).asks p.get p.sh.length=false from ha,Bool.false_or]at Qq
       exact FF s ups (Ls Qq (fun sp k hk=>h2 sp k (.inr hk)))
    ·cases F
   ·cases J
 unfold br at he ⊢
 unfold ch at dA
 cases hgd:D.gd with
 |none=>
  grind
 |some g=>
  obtain⟨j,want⟩:=g
  simp only[hgd]at he dA ⊢
  grind [looks]
end Go.Ev
namespace Go.Ev
open Go
theorem Iw(r:List Nat): ∀(D:List Nat) (F i:Nat),(D.foldl (fun m p=>m ||| 2 ^ p ||| aJ 0 r p) F).testBit i=true↔F.testBit i=true∨ ∃p∈D,p=i∨(aJ 0 r p).testBit i=true
 | [],F,i=>by simp
 |p::D,F,i=>by
  simp only[List.foldl_cons]
  rw[Iw r D]
  grind
theorem Lt(r D:List Nat)(i:Nat):(Fs r D).testBit i=true↔ ∃p∈D,p=i∨(aJ 0 r p).testBit i=true:=by
 unfold Fs;rw[Iw];simp
theorem kI{α:Type}(d:α): ∀(l r:List α) (k:Nat),k<l.length→aJ d (l++r) k=aJ d l k
 | [],r,k,h=>by simp at h
 |x::xs,r,0,h=>rfl
 |x::xs,r,k+1,h=>by simp_all[List.cons_append,aJ,kI]
theorem rV{α:Type}(d:α): ∀(l:List α) (x:α),aJ d (l++ [x]) l.length=x
 | [],x=>rfl
 |y::r,x=>by simp_all[List.cons_append,List.length_cons,aJ,rV]
theorem Bn: ∀(nL:List (List Nat)) (r:List Nat),(lV nL r).length=r.length+nL.length∧(∀k,k<r.length→aJ 0 (lV nL r) k=aJ 0 r k)∧
  ∀j ps,nL[j]? =some ps→ ∀i,(aJ 0 (lV nL r) (r.length+j)).testBit i=true↔ ∃p∈ps,p=i∨((if p<r.length+j then aJ 0 (lV nL r) p else 0).testBit i=true)
 | [],r=>by simp[lV]
 |ps::nL,r=>by
  obtain⟨h1,h2,h3⟩:=Bn nL (r++ [Fs r ps])
  simp only[lV]
  refine⟨by rw[h1];simp;omega,fun k hk=> ?_,fun j F D i=> ?_⟩
  ·grind [kI]
  ·cases j with
   |zero=>
    simp at D;subst D
    rw[Nat.add_zero,h2 r.length xv,rV,Lt]
    constructor
    ·rintro⟨p,H,e⟩
     refine⟨p,H,e.imp id fun e=> ?_⟩
     by_cases I:p<r.length
     ·grind [kI]
     ·exfalso
      have: ∀(l:List Nat) (k:Nat),l.length≤k→aJ 0 l k=0:=by
       intro l
       induction l with
       |nil=>intro k _;rfl
       |cons x xs ih=>intro k hk;cases k with|zero=>simp at hk|succ k=>exact ih k (by simpa using hk)
      grind
    grind [kI]
   |succ j=>
    have:=h3 j F (by simpa using D) i
    grind
theorem uQ: ∀(nL:List (List Nat)) (r:Nat),uw r nL=true→ ∀j D,nL[j]? =some D→ ∀p∈D,p<r+j
 | [],r,h,j,D,F,p,H=>by simp at F
 |q::nL,r,h,j,D,F,p,H=>by
  simp only[uw,Bool.and_eq_true,List.all_eq_true]at h
  cases j with
  |zero=>grind
  |succ j=>
   have:=uQ nL (r+1) h.2 j D (by simpa using F) p H
   omega
theorem Bo{m:Nat}{as:List aF}{k:Nat}{a:aF}:(k,a)∈A2 m as↔as[k]? =some a∧m.testBit k=false:=by
 unfold A2
 rw[List.mem_filter,List.mem_map]
 constructor
 ·grind
 ·rintro⟨h1,h2⟩
  exact⟨⟨(a,k),List.mem_zipIdx_iff_getElem?.2 h1,rfl⟩,by simpa using h2⟩
theorem uR: ∀(F D:List aF) (N:List Nat),ux N D F=true→ ∀j a,F[j]? =some a→ ∀m,N[j]? =some m→ ∀k H,k<D.length+j→(D++F)[k]? =some H→m.testBit k=false→gI H a=true
 | [],D,N,h,j,a,I,m,J,k,H,hk,O,U=>by simp at I
 |r::F,D,[],h,j,a,I,m,J,k,H,hk,O,U=>by simp at J
 |r::F,D,V::N,h,j,a,I,m,J,k,H,hk,O,U=>by
  simp only[ux,Bool.and_eq_true,List.all_eq_true]at h
  cases j with
  |zero=>
   simp at I J;subst I;subst J
   have:D[k]? =some H:=by rw[List.getElem?_append_left zO]at O;exact O
   exact h.1 (k,H) (Bo.2 ⟨this,U⟩)
  |succ j=>
   exact uR F (D++ [r]) N h.2 j a (by simpa using I) m (by simpa using J) k H (by simp;omega) (by simpa using O) U
variable{E:Env}{call:kg}{n:Nat}
theorem Bp: ∀(F D:List aF) (I:List Nat) (bw:List FP) (st H:St),bw.length=D.length→I.length=F.length→aM E call n (nZ I D F) bw st=some H→
  ∃(pre:Nat→St) (fp:Nat→FP),pre 0=st∧pre F.length=H∧ ∀j a m,F[j]? =some a→I[j]? =some m→br E call n a (pre j)=some (pre (j+1))∧ch E call a (pre j)=some (fp j)∧
   ∀k J,k<D.length+j→(D++F)[k]? =some J→m.testBit k=false→quiet a.op=false→quiet J.op=false→apart (if k<D.length then aJ ⟨true,[],[]⟩ bw k else fp (k-D.length)) (fp j)=true
 | [],D,I,bw,st,H,Y,V,h=>by
   cases I with
   |cons _ _=>simp at V
   |nil=>simp[nZ,aM]at h;subst h;exact⟨fun _=>st,fun _=>gG,rfl,rfl,by simp⟩
 |r::F,D,[],bw,st,H,Y,V,h=>by simp at V
 |r::F,D,m0::I,bw,st,H,Y,V,h=>by
  simp only[nZ,aM]at h
  cases hf:ch E call r st with
  |none=>simp[hf]at h
  |some W=>
   simp only[hf]at h
   generalize hu:(if quiet r.op=true then []else((A2 m0 D).filter fun p=> !quiet p.2.op).map (·.1))=uno at h
   split at h
   ·rename_i bA
    cases he:br E call n r st with
    |none=>simp[he]at h
    |some fC=>
     simp only[he]at h
     obtain⟨pre,fp,p1,p2,p3⟩:=Bp F (D++ [r]) I (bw++ [W]) fC H (by simp[Y]) (by simpa using V) h
     refine⟨fun j=>match j with|0=>st|j+1=>pre j,fun j=>match j with|0=>W|j+1=>fp j,rfl,p2,fun j a m hj N=> ?_⟩
     cases j with
     |zero=>
      simp at hj N;subst hj;subst N
      refine⟨by simp only;rw[he,p1],hf,fun k J hk Z hb O U=> ?_⟩
      have X:k<D.length:=zO
      rw[if_pos X]
      have ha':D[k]? =some J:=by rw[List.getElem?_append_left X]at Z;exact Z
      rw[List.all_eq_true]at bA
      refine bA k ?_
      rw[←hu,if_neg (by rw[O];simp)]
      exact List.mem_map.2 ⟨(k,J),List.mem_filter.2 ⟨Bo.2 ⟨ha',hb⟩,by simp[U]⟩,rfl⟩
     |succ j=>
      obtain⟨e1,e2,e3⟩:=p3 j a m (by simpa using hj) (by simpa using N)
      refine⟨e1,e2,fun k J hk Z hb O U=> ?_⟩
      have:=e3 k J (by simp;omega) (by simpa using Z) hb O U
      by_cases h1:k<D.length
      ·grind [kI]
      ·rw[if_neg h1]
       by_cases h2:k=D.length
       ·subst h2
        rw[if_pos xv,←Y,rV]at this
        simpa using this
       ·rw[if_neg (by simp;omega)]at this
        obtain⟨x,hx⟩: ∃x,k-D.length=x+1:=⟨k-D.length-1,by omega⟩
        rw[hx]
        simp only
        have hx2:k-(D++ [r]).length=x:=by simp;omega
        rw[hx2]at this
        exact this
   ·cases h
theorem Ix{a:aF}{p:St}{fp:FP}(I:quiet a.op=true)(h:ch E call a p=some fp):fp.all=false∧fp.r= []∧fp.w= []:=by
 obtain⟨J,N,O,U⟩:=VN (ρ:=p.rho) I (a.d.getD 0) p.get p.sh.length
 have H:(match bI p.rho a.op with
       |some (some c)=>fb E call (a.d.getD 0) p c.1 c.2
       |some none=>none
       |none=>
        let q:=bC (a.d.getD 0) p.rho a.op
        match q.run p.get p.sh.length with
        |some (.val _ D)=>if q.asks p.get p.sh.length||inB p D then some (⟨q.asks p.get p.sh.length,q.log p.get p.sh.length,dg D⟩:FP)else none
        |none=>none)=some fp→fp.all=false∧fp.r= []∧fp.w= []:=by
  intro F
  rw[J]at F
  simp only at F
  split at F
  ·rename_i v D hr
   have:=U v D hr;subst this
   split at F
   ·simp at F;subst F;exact⟨O,N,rfl⟩
   ·cases F
  ·cases F
 unfold ch at h
 cases V:a.gd with
 |none=>grind
 |some g=>
  simp only[V]at h
  split at h
  ·split at h
   ·exact H h
   ·simp at h;subst h;exact⟨rfl,rfl,rfl⟩
  ·simp at h;subst h;exact⟨rfl,rfl,rfl⟩
theorem VO: ∀(a b:List ah),(∀k,aE a k=aE b k)→a.length=b.length→a=b
 | [],[],_,_=>rfl
 | [],y::r,_,h=>by simp at h
 |x::xs,[],_,h=>by simp at h
 |x::xs,y::r,h,D=>by
  have h0:x=y:=h 0
  rw[h0,VO xs r (fun k=>h (k+1)) (by simpa using D)]
end Go.Ev
namespace Go.Ev
open Go
variable{E:Env}{call:kg}{n:Nat}
structure kq (E:Env) (call:kg) (n:Nat) (as:List aF) (nL:List (List Nat)) (bit:Nat→Nat→Bool) (pre:Nat→St) (fp:Nat→FP):Prop where
 len:nL.length=as.length
 edges: ∀(j:Nat) (ps:List Nat),nL[j]? =some ps→ ∀p∈ps,p<j
 bits: ∀(j:Nat) (ps:List Nat),nL[j]? =some ps→ ∀i,bit j i=true↔ ∃p∈ps,p=i∨bit p i=true
 run: ∀(j:Nat) (a:aF),as[j]? =some a→br E call n a (pre j)=some (pre (j+1))∧ch E call a (pre j)=some (fp j)
 slots: ∀(j:Nat) (a:aF) (k:Nat) (a':aF),as[j]? =some a→as[k]? =some a'→k<j→bit j k=false→gI a' a=true
 apart: ∀(j:Nat) (a:aF) (k:Nat) (a':aF),as[j]? =some a→as[k]? =some a'→k<j→bit j k=false→quiet a.op=false→quiet a'.op=false→Ev.apart (fp k) (fp j)=true
variable{as:List aF}{nL:List (List Nat)}{bit:Nat→Nat→Bool}{pre:Nat→St}{fp:Nat→FP}
def Bq(nL:List (List Nat))(L:Nat→Prop):Prop:= ∀(j:Nat) (r:List Nat),nL[j]? =some r→L j→ ∀p∈r,L p
theorem xY(R:kq E call n as nL bit pre fp){L:Nat→Prop}(hc:Bq nL L): ∀(j:Nat) (r:List Nat),nL[j]? =some r→(∀p∈r,L p)→ ∀i,bit j i=true→L i:=by
 intro j
 induction j using Nat.strongRecOn with
 |_ j ih=>
  intro r D H i N
  obtain⟨p,h1,h2⟩:=(R.bits j r D i).1 N
  rcases h2 with rfl|h2
  ·exact H p h1
  ·have I:=R.edges j r D p h1
   have F:p<nL.length:=Nat.lt_trans I (List.getElem?_eq_some_iff.1 D).1
   have J:nL[p]? =some nL[p]:=List.getElem?_eq_getElem F
   exact ih p I _ J (hc p _ J (H p h1)) i h2
theorem qM(R:kq E call n as nL bit pre fp){L:Nat→Prop}(hc:Bq nL L){i j:Nat}(hi:i<as.length)(I:j<as.length)(D: ¬L i)(F: ∀H,nL[i]? =some H→ ∀p∈H,L p)(J:i=j∨(j<i∧bit i j=true)∨(i<j∧bit j i=true)):L j↔j<i:=by
 rcases J with rfl|⟨h1,h2⟩|⟨h1,h2⟩
 ·grind
 ·refine⟨fun _=>h1,fun _=> ?_⟩
  have N:i<nL.length:=by rw[R.len];exact hi
  have r:nL[i]? =some nL[i]:=List.getElem?_eq_getElem N
  exact xY R hc i _ r (F _ r) j h2
 ·refine⟨fun O=>absurd ?_ D,fun h=>by omega⟩
  have Da:j<nL.length:=by rw[R.len];exact I
  have r:nL[j]? =some nL[j]:=List.getElem?_eq_getElem Da
  exact xY R hc j _ r (hc j _ r O) i h2
structure Inv (as:List aF) (pre:Nat→St) (fp:Nat→FP) (L:Nat→Prop) (s:St):Prop where
 slot: ∀t i,i≤as.length→(∀(j:Nat) (a:aF),as[j]? =some a→a.d=some t→(L j↔j<i))→aa s.fr t=aa (pre i).fr t
 key: ∀sp k i,i≤as.length→(∀j,j<as.length→wrote (fp j) sp k→(L j↔j<i))→s.get sp k=(pre i).get sp k
 len: ∀i,i≤as.length→(∀j,j<as.length→(fp j).all=true→(L j↔j<i))→s.sh.length=(pre i).sh.length
theorem Br(R:kq E call n as nL bit pre fp){j:Nat}{a:aF}(r:as[j]? =some a):acU a (fp j) (pre j) (pre (j+1)) (pre (j+1)):=by
 obtain⟨h1,h2⟩:=R.run j a r
 obtain⟨D,e1,e2⟩:=Iv (s:=pre j) h1 h2 (fun _ _=>rfl) (fun _ _ _=>rfl) (fun _=>rfl)
 grind
theorem Iy(R:kq E call n as nL bit pre fp)(t i:Nat): ∀r,i≤r→r≤as.length→(∀(j:Nat) (a:aF),as[j]? =some a→i≤j→j<r→a.d≠some t)→aa (pre r).fr t=aa (pre i).fr t:=by
 intro r h1
 induction r with
 |zero=>grind
 |succ m ih=>
  intro h2 h3
  by_cases D:i=m+1
  ·subst D;rfl
  ·have NJ:m<as.length:=zO
   have F:as[m]? =some as[m]:=List.getElem?_eq_getElem NJ
   have H:=(Br R F).slot t
   grind
theorem NK(R:kq E call n as nL bit pre fp)(sp:Sp)(k i:Nat): ∀r,i≤r→r≤as.length→(∀j,i≤j→j<r→ ¬wrote (fp j) sp k)→(pre r).get sp k=(pre i).get sp k:=by
 intro r h1
 induction r with
 |zero=>grind
 |succ m ih=>
  intro h2 h3
  by_cases D:i=m+1
  ·subst D;rfl
  ·have NJ:m<as.length:=zO
   have F:as[m]? =some as[m]:=List.getElem?_eq_getElem NJ
   have H:=((Br R F).key sp k).2 (h3 m zO zO)
   grind
theorem NL(R:kq E call n as nL bit pre fp)(i:Nat): ∀r,i≤r→r≤as.length→(∀j,i≤j→j<r→(fp j).all=false)→(pre r).sh.length=(pre i).sh.length:=by
 intro r h1
 induction r with
 |zero=>grind
 |succ m ih=>
  intro h2 h3
  by_cases D:i=m+1
  ·subst D;rfl
  ·have NJ:m<as.length:=zO
   have F:as[m]? =some as[m]:=List.getElem?_eq_getElem NJ
   have H:=(Br R F).len.2 (h3 m zO zO)
   grind
theorem either(R:kq E call n as nL bit pre fp){i j:Nat}{a r:aF}(hi:as[i]? =some a)(F:as[j]? =some r)(H:i≠j):
  ((j<i∧bit i j=true)∨(i<j∧bit j i=true))∨((gI a r=true∨gI r a=true)∧(quiet a.op=true∨quiet r.op=true∨Ev.apart (fp i) (fp j)=true∨Ev.apart (fp j) (fp i)=true)):=by
 rcases Nat.lt_or_gt_of_ne H with h|h
 ·cases D:bit j i with
  |true=>grind
  |false=>
   refine .inr ⟨.inl (R.slots j r i a F hi h D), ?_⟩
   cases h1:quiet a.op
   ·cases h2:quiet r.op
    ·exact .inr (.inr (.inl (R.apart j r i a F hi h D h2 h1)))
    ·grind
   ·exact .inl rfl
 ·cases D:bit i j with
  |true=>grind
  |false=>
   refine .inr ⟨.inr (R.slots i a j r hi F h D), ?_⟩
   cases h1:quiet a.op
   ·cases h2:quiet r.op
    ·exact .inr (.inr (.inr (R.apart i a j r hi F h D h1 h2)))
    ·grind
   ·exact .inl rfl
theorem Db{x y:aF}(h:gI x y=true∨gI y x=true){t:Nat}:(x.d=some t→t∉looks y∧y.d≠some t):=by
 grind [gI]
theorem rX{xs r:List (Sp×Nat)}(h:eZ xs r=true){κ:Sp×Nat}(h1:κ∈xs)(h2:κ∈r):False:=by
 grind [eZ]
theorem wO{xs:List (Sp×Nat)}(h:Ht xs=true){k:Nat}(h1:(Sp.S,k)∈xs):False:=by
 grind [Ht]
theorem VP{x y:FP}(h:Ev.apart x y=true∨Ev.apart y x=true){sp:Sp}{k:Nat}(D:wrote y sp k):(sp,k)∉x.r∧(sp,k)∉x.w∧ ¬(x.all=true∧sp= .S):=by
 rcases h with h|h <;> unfold Ev.apart at h <;> simp only[Bool.and_eq_true,Bool.or_eq_true,Bool.not_eq_true']at h <;> obtain⟨⟨⟨⟨a1,a2⟩,F⟩,a4⟩,a5⟩:=h
 ·rcases D with D|⟨D,rfl⟩
  ·refine⟨fun e=>rX F e D,fun e=>rX a2 e D,fun e=> ?_⟩
   grind [wO]
  ·rcases a5 with a5|a5
   ·grind
   ·refine⟨fun e=>wO a5.1 e,fun e=>wO a5.2 e,fun e=> ?_⟩
    grind
 ·rcases D with D|⟨D,rfl⟩
  ·refine⟨fun e=>rX a1 D e,fun e=>rX a2 D e,fun e=> ?_⟩
   grind [wO]
  ·rcases a4 with a4|a4
   ·grind
   ·refine⟨fun e=>wO a4.1.2 e,fun e=>wO a4.2 e,fun e=> ?_⟩
    grind
theorem VQ(R:kq E call n as nL bit pre fp){L:Nat→Prop}(hc:Bq nL L){s:St}(I:Inv as pre fp L s){i:Nat}{a:aF}(hi:as[i]? =some a)(hni: ¬L i)(hpi: ∀ps,nL[i]? =some ps→ ∀p∈ps,L p):
  ∃s',br E call n a s=some s'∧Inv as pre fp (fun j=>L j∨j=i) s':=by
 have Y:i<as.length:=(List.getElem?_eq_some_iff.1 hi).1
 obtain⟨r1,r2⟩:=R.run i a hi
 have NM: ∀t,(t∈looks a∨a.d=some t)→ ∀(j:Nat) (V:aF),as[j]? =some V→V.d=some t→(L j↔j<i):=by
  intro t ht j V F Z
  have Da:=(List.getElem?_eq_some_iff.1 F).1
  by_cases X:i=j
  ·subst X;exact qM R hc Y Da hni hpi (.inl rfl)
  ·rcases either R hi F X with h|⟨h,_⟩
   ·grind [qM]
   grind [Db]
 have FH: ∀sp k,((sp,k)∈(fp i).r∨(sp,k)∈(fp i).w∨((fp i).all=true∧sp= .S))→ ∀j,j<as.length→wrote (fp j) sp k→(L j↔j<i):=by
  intro sp k ht j Da hw
  have F:as[j]? =some as[j]:=List.getElem?_eq_getElem Da
  by_cases X:i=j
  ·grind
  ·rcases either R hi F X with h|⟨_,h⟩
   ·grind [qM]
   ·exfalso
    rcases h with h|h|h
    ·obtain⟨q1,q2,q3⟩:=Ix h r2
     rcases ht with ht|ht|ht
     ·rw[q2]at ht;simp at ht
     ·rw[q3]at ht;simp at ht
     ·rw[q1]at ht;cases ht.1
    ·obtain⟨q1,q2,q3⟩:=Ix h (R.run j _ F).2
     rcases hw with hw|hw
     ·rw[q3]at hw;simp at hw
     ·rw[q1]at hw;cases hw.1
    ·obtain⟨z1,z2,z3⟩:=VP h hw
     rcases ht with ht|ht|ht
     ·exact z1 ht
     ·exact z2 ht
     ·exact z3 ht
 have VR:(fp i).all=true→ ∀j,j<as.length→(fp j).all=true→(L j↔j<i):=by
  intro W j Da D
  exact FH .S 0 (.inr (.inr ⟨W,rfl⟩)) j Da (.inr ⟨D,rfl⟩)
 obtain⟨s',e1,e2⟩:=Iv (s:=s) r1 r2 (fun t ht=>I.slot t i (Nat.le_of_lt Y) (fun j V F Z=>NM t (.inl ht) j V F Z))
  (fun sp k ht=>I.key sp k i (Nat.le_of_lt Y) (fun j Da hw=>FH sp k (ht.elim .inl fun h=> .inr (.inl h)) j Da hw))
  (fun W=>VO _ _ (fun k=>I.key .S k i (Nat.le_of_lt Y) (fun j Da hw=>FH .S k (.inr (.inr ⟨W,rfl⟩)) j Da hw)) (I.len i (Nat.le_of_lt Y) (VR W)))
 refine⟨s',e1,fun t H C3 J=> ?_,fun sp k H C3 J=> ?_,fun H C3 J=> ?_⟩
 ·rw[e2.slot t]
  split
  ·rename_i Z
   have N:i<H:=(J i a hi Z).1 (.inr rfl)
   rw[Iy R t (i+1) H N C3]
   intro j V F h1 h2 O
   have hL:=(J j V F O).2 h2
   have:=NM t (.inr Z) j V F O
   rcases hL with hL|hL
   ·have:=this.1 hL;omega
   ·omega
  ·rename_i Z
   exact I.slot t H C3 (fun j V F O=>by
    have:=J j V F O
    constructor
    ·exact fun hL=>this.1 (.inl hL)
    ·intro ft
     rcases this.2 ft with hL|hL
     ·exact hL
     ·subst hL;rw[hi]at F;simp at F;subst F;exact absurd O Z)
 ·by_cases hw:wrote (fp i) sp k
  ·have N:i<H:=(J i Y hw).1 (.inr rfl)
   rw[(e2.key sp k).1 hw,NK R sp k (i+1) H N C3]
   intro j h1 h2 U
   have Da:j<as.length:=zO
   have hL:=(J j Da U).2 h2
   have:=FH sp k (hw.elim (fun e=> .inr (.inl e)) fun e=> .inr (.inr e)) j Da U
   rcases hL with hL|hL
   ·have:=this.1 hL;omega
   ·omega
  ·rw[(e2.key sp k).2 hw]
   exact I.key sp k H C3 (fun j Da U=>by
    have:=J j Da U
    constructor
    ·exact fun hL=>this.1 (.inl hL)
    ·intro ft
     rcases this.2 ft with hL|hL
     ·exact hL
     ·subst hL;exact absurd U hw)
 ·cases W:(fp i).all with
  |true=>
   have N:i<H:=(J i Y W).1 (.inr rfl)
   rw[e2.len.1 W,NL R (i+1) H N C3]
   intro j h1 h2
   cases D:(fp j).all with
   |false=>rfl
   |true=>
    have Da:j<as.length:=zO
    have hL:=(J j Da D).2 h2
    have:=VR W j Da D
    rcases hL with hL|hL
    ·have:=this.1 hL;omega
    ·omega
  |false=>
   rw[e2.len.2 W]
   exact I.len H C3 (fun j Da D=>by
    have:=J j Da D
    constructor
    ·exact fun hL=>this.1 (.inl hL)
    ·intro ft
     rcases this.2 ft with hL|hL
     ·exact hL
     ·subst hL;rw[W]at D;cases D)
end Go.Ev
namespace Go.Ev
open Go
section
variable{P:Program}{E:Env}{call:kg}{n:Nat}{hs:List Nat}{ops:Array Oper}
theorem ku: ∀{r:List Oper} {as:List aF},dW P hs ops r=some as→as.length=r.length∧ ∀(j:Nat) (o:Oper),r[j]? =some o→ ∃a,as[j]? =some a∧qE P hs ops o=some a
 | [],as,h=>by grind [dW]
 |o::r,as,h=>by
  simp only[dW]at h
  split at h
  ·rename_i a D h1 h2
   simp at h;subst h
   obtain⟨e1,e2⟩:=ku h2
   grind
  ·cases h
theorem VS(O:pW P E)(U:uP P E call){Q:Exit→Act→World→Prop}: ∀(k i:Nat) (as:List aF),i+k=ops.size→dW P hs ops (ops.toList.drop i)=some as→
  ∀{B:fA} {st D:St} {a:Act} {w:World} {β:aV} {M:aG},bh B st w β M→ju st a w β M n→aj E call n as st=some D→
  (∀H w' F M',bh B D w' F M'→ju D H w' F M' n→Tr st w β M D w' F M'→w.heap.size≤w'.heap.size→Q .normal H w')→wpOps P ops Q (List.range' i k) a w
 |0,i,as,Nz,hc,B,st,D,a,w,β,M,h,I,r,J=>by
  have W:ops.toList.drop i= []:=List.drop_eq_nil_of_le (by simp;omega)
  rw[W]at hc
  simp[dW]at hc;subst hc
  simp[aj]at r;subst r
  simp only[List.range',wpOps]
  exact J a w β M h I (Tr.refl _ _ _ _) (Nat.le_refl _)
 |k+1,i,as,Nz,hc,B,st,D,a,w,β,M,h,I,r,J=>by
  have hi:i<ops.toList.length:=by simp;omega
  rw[List.drop_eq_getElem_cons hi]at hc
  simp only[dW]at hc
  split at hc
  ·rename_i ao N h1 h2
   simp at hc;subst hc
   simp only[aj]at r
   split at r
   ·rename_i fC C1
    rw[List.range'_succ,wpOps_cons]
    refine na O U (o:=ops.toList[i]) (by simp at hi ⊢) h1 h I C1 ?_
    intro H w' F M' X Y Z V
    exact VS O U k (i+1) N zO h2 X Y r (fun a2 w2 VT M2 s1 s2 s3 s4=>J a2 w2 VT M2 s1 s2 (Z.trans s3 V) (Nat.le_trans V s4))
   ·cases r
  ·cases hc
theorem aiT{B:fA}{s F:St}{w:World}{β:aV}{M:aG}(r: ∀sp k,F.get sp k=s.get sp k)(h:bh B s w β M):bh B F w β M:=by
 have Dc:F.gens=s.gens:=by funext sp k;show(F.get sp k).g=_;rw[r]
 refine⟨fun sp k=>by rw[r,Dc];exact h.obj sp k,fun sp k J k' H I e=> ?_,h.mlt,fun k D=> ?_,fun k D=> ?_,h.os,h.tape,h.output,h.size,h.same,h.keep,h.msup⟩
 ·rw[r]at H I;rw[Dc]at e;exact h.dist sp k J k' H I e
 ·rw[r]at D;rw[Dc];exact h.lblk k D
 ·rw[r]at D;rw[Dc];exact h.sblk k D
theorem aiU{s r:St}{a:Act}{w:World}{β:aV}{M:aG}(D: ∀sp k,r.get sp k=s.get sp k)(F: ∀t,aa r.fr t=aa s.fr t)(h:ju s a w β M n):ju r a w β M n:=by
 have Dc:r.gens=s.gens:=by funext sp k;show(r.get sp k).g=_;rw[D]
 exact⟨h.size,h.defers,fun t=>by rw[Dc,F];exact h.slot t⟩
theorem VU{st s r:St}{w w':World}{β bf:aV}{M M':aG}(D: ∀sp k,r.get sp k=s.get sp k)(h:Tr st w β M s w' bf M'):Tr st w β M r w' bf M':=by
 have Dc:r.gens=s.gens:=by funext sp k;show(r.get sp k).g=_;rw[D]
 exact⟨h.keep,h.beta,by rw[Dc];exact h.gens⟩
theorem ak9(hE:pW P E)(hO:uP P E call){Q:Exit→Act→World→Prop}{as:List aF}{bit:Nat→Nat→Bool}{pre:Nat→St}{fp:Nat→FP}(hc:dW P hs ops ops.toList=some as)
  (R:kq E call n as (ops.toList.map cL) bit pre fp) {B:fA} {st:St} {w:World} {β:aV} {M:aG}:
  ∀(D:Nat) (r:Array Bool) (s:St) (a:Act) (F:World) (Hx:aV) (M1:aG),r.size=ops.size→((List.range ops.size).filter fun i=> !r.getD i true).length≤D→Bq (ops.toList.map cL) (fun j=>r.getD j false=true)→
   Inv as pre fp (fun j=>r.getD j false=true) s→bh B s F Hx M1→ju s a F Hx M1 n→Tr st w β M s F Hx M1→w.heap.size≤F.heap.size→
   (∀J w' H M',bh B (pre as.length) w' H M'→ju (pre as.length) J w' H M' n→Tr st w β M (pre as.length) w' H M'→w.heap.size≤w'.heap.size→Q .normal J w')→
   wpAny P .any ops Q D r a F:=by
 obtain⟨hlen,uS⟩:=ku hc
 have VV:as.length=ops.size:=by simpa using hlen
 have done: ∀(r:Array Bool) (s:St) (a:Act) (F:World) (Hx:aV) (M1:aG),r.size=ops.size→Bq (ops.toList.map cL) (fun j=>r.getD j false=true)→Inv as pre fp (fun j=>r.getD j false=true) s→bh B s F Hx M1→ju s a F Hx M1 n→Tr st w β M s F Hx M1→w.heap.size≤F.heap.size→
   (∀J w' H M',bh B (pre as.length) w' H M'→ju (pre as.length) J w' H M' n→Tr st w β M (pre as.length) w' H M'→w.heap.size≤w'.heap.size→Q .normal J w')→Region.ready .any ops r= []→Q .normal a F:=by
  intro r s a F Hx M1 hls V I h W X N Y hr
  have all: ∀j,j<ops.size→r.getD j false=true:=by
   intro j
   induction j using Nat.strongRecOn with
   |_ j ih=>
    intro hj
    cases hb:r.getD j false with
    |true=>rfl
    |false=>
     exfalso
     have:j∈Region.ready .any ops r:=by
      unfold Region.ready
      rw[List.mem_filter]
      refine⟨List.mem_range.2 hj, ?_⟩
      have h1:r.getD j true=false:=by
       grind
      rw[h1]
      simp only[Bool.not_false,Bool.true_and]
      have Z:ops[j]? =some ops[j]:=Array.getElem?_eq_getElem hj
      rw[Z]
      simp only[Option.map_some,Option.getD_some]
      rw[←Array.all_toList,List.all_eq_true]
      intro e he
      cases rY:Region.binds .any e with
      |false=>rfl
      |true=>
       simp only[Bool.not_true,Bool.false_or]
       have aD6:e.on∈cL ops[j]:=by
        unfold cL
        exact List.mem_map.2 ⟨e,List.mem_filter.2 ⟨he,rY⟩,rfl⟩
       have hpj:(ops.toList.map cL)[j]? =some (cL ops[j]):=by simp[Z]
       have ft:=R.edges j _ hpj e.on aD6
       exact ih e.on ft zO
     grind
  have cond: ∀j,j<as.length→(r.getD j false=true↔j<as.length):=fun j hj=>⟨fun _=>hj,fun _=>all j zO⟩
  have g1: ∀sp k,(pre as.length).get sp k=s.get sp k:=fun sp k=>(I.key sp k as.length (Nat.le_refl _) (fun j hj _=>cond j hj)).symm
  have g2: ∀t,aa (pre as.length).fr t=aa s.fr t:=fun t=>(I.slot t as.length (Nat.le_refl _) (fun j a hj _=>cond j (List.getElem?_eq_some_iff.1 hj).1)).symm
  exact Y a F Hx M1 (aiT g1 h) (aiU g1 g2 W) (VU g1 X) N
 intro D
 induction D with
 |zero=>
  intro r s a F Hx M1 hls acX V I h W X N Y
  have hr:Region.ready .any ops r= []:=by
   simp_all[Region.ready,List.filter_eq_nil_iff,Bool.and_eq_true,List.eq_nil_of_length_eq_zero]
  exact⟨hr,done r s a F Hx M1 hls V I h W X N Y hr⟩
 |succ D ih=>
  intro r s a F Hx M1 hls acX V I h W X N Y
  refine⟨done r s a F Hx M1 hls V I h W X N Y,fun i hi=> ?_⟩
  unfold Region.ready at hi
  rw[List.mem_filter]at hi
  obtain⟨hir,Dd⟩:=hi
  have mC:i<ops.size:=List.mem_range.1 hir
  have Z:ops[i]? =some ops[i]:=Array.getElem?_eq_getElem mC
  rw[Z]at Dd
  simp only[Bool.and_eq_true,Bool.not_eq_true',Option.map_some,Option.getD_some]at Dd
  obtain⟨De,Df⟩:=Dd
  have O:i<r.size:=zO
  have Lk: ¬(r.getD i false=true):=by
   simp[Array.getD_eq_getD_getElem?,Array.getElem?_eq_getElem O]at De ⊢; exact De
  have awX: ∀ps,(ops.toList.map cL)[i]? =some ps→ ∀p∈ps,r.getD p false=true:=by
   intro ps rW p hp
   simp[Z]at rW;subst rW
   unfold cL at hp
   obtain⟨e,he,rfl⟩:=List.mem_map.1 hp
   obtain⟨C1,he2⟩:=List.mem_filter.1 he
   rw[←Array.all_toList,List.all_eq_true]at Df
   have:=Df e C1
   simpa[he2]using this
  obtain⟨ao,hao,qa⟩:=uS i ops[i] xv
  obtain⟨s',he,I'⟩:=VQ R V I hao Lk awX
  refine na hE hO Z qa h W he ?_
  intro J w' H M' r1 r2 r3 r4
  have Ip: ∀j,(r.setIfInBounds i true).getD j false=true↔(r.getD j false=true∨j=i):=by
   intro j
   simp only[Array.getD_eq_getD_getElem?,Array.getElem?_setIfInBounds]
   by_cases hj:i=j
   ·subst hj;simp[O]
   ·rw[if_neg hj]
    exact⟨.inl,fun e=>e.resolve_right (fun e=>hj e.symm)⟩
  refine ih (r.setIfInBounds i true) s' J w' H M' (by simp[hls]) ?_ ?_ ?_ r1 r2 (X.trans r3 N) (Nat.le_trans N r4) Y
  ·have hfe:(List.range ops.size).filter (fun j=> !(r.setIfInBounds i true).getD j true)=((List.range ops.size).filter (fun j=> !r.getD j true)).filter (fun j=>decide (j≠i)):=by
    rw[List.filter_filter]
    apply List.filter_congr
    intro j hj
    simp only[Array.getD_eq_getD_getElem?,Array.getElem?_setIfInBounds]
    by_cases U:i=j
    ·subst U;simp[O]
    ·have: ¬j=i:=fun e=>U e.symm
     rw[if_neg U];simp[this]
   rw[hfe]
   have ft:(((List.range ops.size).filter (fun j=> !r.getD j true)).filter (fun j=>decide (j≠i))).length<((List.range ops.size).filter (fun j=> !r.getD j true)).length:=by
    rw[List.length_filter_lt_length_iff_exists]
    exact⟨i,List.mem_filter.2 ⟨hir,by rw[De];rfl⟩,by simp⟩
   omega
  ·intro j ps rW hj p hp
   rw[Ip]at hj ⊢
   rcases hj with hj|hj
   ·exact .inl (V j ps rW hj p hp)
   ·subst hj;exact .inl (awX ps rW p hp)
  ·have:(fun j=>(r.setIfInBounds i true).getD j false=true)=(fun j=>r.getD j false=true∨j=i):=by funext j;exact propext (Ip j)
   rw[this];exact I'
end
end Go.Ev
namespace Go.Ev
open Go
def alb:Out→Exit
 | .nrm=> .normal
 | .ext id=> .exit id
 | .ret=> .ret
section
variable{P:Program}{E:Env}{call:kg}{n:Nat}{hs:List Nat}
theorem VW{l:List Nat}{j:Nat}(h:j<l.length):l[j]? =some (aJ 0 l j):=by
 induction l generalizing j with
 |nil=>simp at h
 |cons x xs ih=>
  cases j with
  |zero=>rfl
  |succ j=>grind [aJ]
theorem VY(hE:pW P E)(hO:uP P E call)(hm:P.follows .mixedOrders=true){id:Nat}{ops:Array Oper}{as:List aF}(hc:dW P hs ops ops.toList=some as)(C1:uw 0 (ops.toList.map cL)=true)(V:ux (lV (ops.toList.map cL) []) [] as=true)
  {B:fA} {st J:St} {a:Act} {w:World} {β:aV} {M:aG} (h:bh B st w β M) (W:ju st a w β M n) (X:aM E call n (nZ (lV (ops.toList.map cL) []) [] as) [] st=some J) {Q:Exit→Act→World→Prop}
  (hq: ∀I w' Y M',bh B J w' Y M'→ju J I w' Y M' n→Tr st w β M J w' Y M'→w.heap.size≤w'.heap.size→Q .normal I w'):(Code.region id ops true).wp P Q a w:=by
 obtain⟨D,uS⟩:=ku hc
 obtain⟨m1,m2,m3⟩:=Bn (ops.toList.map cL) []
 have NJ:(lV (ops.toList.map cL) []).length=as.length:=by rw[m1,D];simp
 obtain⟨pre,fp,Z,p2,p3⟩:=Bp as [] _ [] st J rfl NJ X
 have H: ∀j,j<as.length→(lV (ops.toList.map cL) [])[j]? =some (aJ 0 (lV (ops.toList.map cL) []) j):=fun j r=>VW (by rw[NJ];exact r)
 have hed:=uQ _ 0 C1
 have R:kq E call n as (ops.toList.map cL) (fun j i=>(aJ 0 (lV (ops.toList.map cL) []) j).testBit i) pre fp:=by
  refine⟨by rw[D];simp,fun j U r p hp=>by have:=hed j U r p hp;omega,fun j U r i=> ?_,fun j I r=> ?_,fun j a1 k a2 r hk F hb=> ?_,fun j a1 k a2 r hk F hb hq1 hq2=> ?_⟩
  ·have:=m3 j U r i
   simp only[List.length_nil,Nat.zero_add]at this
   grind
  ·obtain⟨e1,e2,_⟩:=p3 j I _ r (H j (List.getElem?_eq_some_iff.1 r).1)
   grind
  ·exact uR as [] _ V j a1 r _ (H j (List.getElem?_eq_some_iff.1 r).1) k a2 (by simpa using F) (by simpa using hk) hb
  ·obtain⟨_,_,e3⟩:=p3 j a1 _ r (H j (List.getElem?_eq_some_iff.1 r).1)
   simp_all
 obtain⟨d1,d2⟩:=Fu h (w.drawn+1)
 refine wp_region_any hm ?_
 have N: ∀j,((Array.replicate ops.size false).getD j false=true)↔False:=by
  intro j
  simp only[Array.getD_eq_getD_getElem?,Array.getElem?_replicate]
  split <;> simp
 have hI:Inv as pre fp (fun j=>(Array.replicate ops.size false).getD j false=true) st:=by
  have aD9:(fun j=>(Array.replicate ops.size false).getD j false=true)=fun _=>False:=by funext j;exact propext (N j)
  rw[aD9]
  refine⟨fun t i hi O=> ?_,fun sp k i hi O=> ?_,fun i hi O=> ?_⟩
  ·rw[Iy R t 0 i (Nat.zero_le _) hi (fun j I r _ F hd=>(O j I r hd).2 F),Z]
  ·rw[NK R sp k 0 i (Nat.zero_le _) hi (fun j _ F hw=>(O j zO hw).2 F),Z]
  ·rw[NL R 0 i (Nat.zero_le _) hi (fun j _ F=>by
    cases Ij:(fp j).all with
    |false=>rfl
    |true=>exact((O j zO Ij).2 F).elim),Z]
 refine ak9 (st:=st) (w:=w) (β:=β) (M:=M) hE hO hc R ops.size _ st a _ β M xv ?_ ?_ hI d1 ⟨W.size,W.defers,fun t=>d2.val (W.slot t)⟩ d2 (Nat.le_refl _) ?_
 ·exact Nat.le_trans (List.length_filter_le _ _) xv
 ·intro j U _ r
  exact((N j).1 r).elim
 grind
theorem fG{ops:Array Oper}{L:Array Bool}{i:Nat}(hi:i<ops.size):i∈Region.ready .any ops L↔L.getD i true=false∧ ∀p∈cL ops[i],L.getD p false=true:=by
 have r:ops[i]? =some ops[i]:=Array.getElem?_eq_getElem hi
 unfold Region.ready
 rw[List.mem_filter,List.mem_range,r]
 simp only[Bool.and_eq_true,Bool.not_eq_true',Option.map_some,Option.getD_some,hi,true_and]
 refine and_congr_right fun _=> ?_
 rw[←Array.all_toList,List.all_eq_true]
 grind [cL]
theorem n6{ops:Array Oper}{L:Array Bool}{i:Nat}(h:i∈Region.ready .any ops L):i<ops.size:=by
 grind [Region.ready]
theorem fP{o:aF}{r:List aF}{st s:St}(h:aj E call n (o::r) st=some s): ∃t,br E call n o st=some t∧aj E call n r t=some s:=by
 grind [aj]
theorem acZ(hE:pW P E)(hO:uP P E call)(hm:P.follows .mixedOrders=true){id:Nat}{ops:Array Oper}{o0 o1 o2 o3:aF}(hc:dW P hs ops ops.toList=some [o0,o1,o2,o3])(D:Ft (ops.toList.map cL)=true)
  {B:fA} {st s1 s2:St} {a:Act} {w:World} {β:aV} {M:aG} (h:bh B st w β M) (hf:ju st a w β M n) (e1:aj E call n [o0,o1,o2,o3] st=some s1) (e2:aj E call n [o0,o2,o1,o3] st=some s2) {Q:Exit→Act→World→Prop}
  (q1: ∀H w' r M',bh B s1 w' r M'→ju s1 H w' r M' n→Tr st w β M s1 w' r M'→w.heap.size≤w'.heap.size→Q .normal H w')
  (q2: ∀H w' r M',bh B s2 w' r M'→ju s2 H w' r M' n→Tr st w β M s2 w' r M'→w.heap.size≤w'.heap.size→Q .normal H w'):(Code.region id ops true).wp P Q a w:=by
 obtain⟨hlen,uS⟩:=ku hc
 have kl:ops.size=4:=by simpa using hlen.symm
 obtain⟨t0,f0,e1⟩:=fP e1
 obtain⟨t1,f1,e1⟩:=fP e1
 obtain⟨t2,f2,e1⟩:=fP e1
 obtain⟨t3,f3,e1⟩:=fP e1
 simp only[aj,Option.some.injEq]at e1
 subst e1
 obtain⟨t0',g0,e2⟩:=fP e2
 obtain⟨u1,g1,e2⟩:=fP e2
 obtain⟨u2,g2,e2⟩:=fP e2
 obtain⟨u3,g3,e2⟩:=fP e2
 simp only[aj,Option.some.injEq]at e2
 subst e2
 rw[f0]at g0
 injection g0 with g0
 subst g0
 have dO: ∀j (hj:j<ops.size) (ao:aF),[o0,o1,o2,o3][j]? =some ao→qE P hs ops ops[j]=some ao:=by
  intro j hj ao hao
  obtain⟨x,hx,hy⟩:=uS j ops[j] xv
  grind
 have rW: ∃p1 p2 Y,ops.toList.map cL= [[],p1,p2,Y]∧0∈p1∧0∈p2∧(∀x∈p1,x<1)∧(∀x∈p2,x<1)∧1∈Y∧2∈Y∧ ∀x∈Y,x<3:=by
  unfold Ft at D
  grind
 obtain⟨p1,p2,Y,aKg,a1,a2,b1,b2,c1,c2,c3⟩:=rW
 have O: ∀j (hj:j<ops.size) (ps:List Nat),[[],p1,p2,Y][j]? =some ps→cL ops[j]=ps:=by
  grind
 have U:0<ops.size:=zO
 have F:1<ops.size:=zO
 have J:2<ops.size:=zO
 have V:3<ops.size:=zO
 have r0:=O 0 U [] rfl
 have r1:=O 1 F p1 rfl
 have r2:=O 2 J p2 rfl
 have r3:=O 3 V Y rfl
 obtain⟨d1,d2⟩:=Fu h (w.drawn+1)
 refine wp_region_any hm ?_
 rw[kl]
 have base:ju st a {w with drawn:=w.drawn+1} β M n:=⟨hf.size,hf.defers,fun t=>d2.val (hf.slot t)⟩
 have sz0:w.heap.size≤{w with drawn:=w.drawn+1}.heap.size:=Nat.le_refl _
 have X: ∀(t s:St),br E call n o3 t=some s→(∀H w' r M',bh B s w' r M'→ju s H w' r M' n→Tr st w β M s w' r M'→w.heap.size≤w'.heap.size→Q .normal H w')→
   ∀H w' r M',bh B t w' r M'→ju t H w' r M' n→Tr st w β M t w' r M'→w.heap.size≤w'.heap.size→wpAny P .any ops Q 1 #[true,true,true,false] H w':=by
  intro t s he hq H w' r M' x1 x2 x3 x4
  refine⟨fun hr=> ?_,fun i hi=> ?_⟩
  ·have:3∈Region.ready .any ops #[true,true,true,false]:=(fG V).2 ⟨rfl,fun p D=>by
    rw[r3]at D
    have:=c3 p D
    have:p=0∨p=1∨p=2:=zO
    rcases this with rfl|rfl|rfl <;> rfl⟩
   rw[hr]at this;cases this
  ·have N:=n6 hi
   obtain⟨I,_⟩:=(fG N).1 hi
   have:i=0∨i=1∨i=2∨i=3:=zO
   rcases this with rfl|rfl|rfl|rfl
   ·cases I
   ·cases I
   ·cases I
   ·refine na hE hO (o:=ops[3]) (Array.getElem?_eq_getElem V) (dO 3 V o3 rfl) x1 x2 he ?_
    intro a2 w2 VT M2 z1 z2 z3 Z
    have hr0:Region.ready .any ops (#[true,true,true,false].setIfInBounds 3 true)= []:=by
     rw[List.eq_nil_iff_forall_not_mem]
     intro i hi
     have N:=n6 hi
     obtain⟨I,_⟩:=(fG N).1 hi
     have:i=0∨i=1∨i=2∨i=3:=zO
     rcases this with rfl|rfl|rfl|rfl <;> cases I
    exact⟨hr0,hq a2 w2 VT M2 z1 z2 (x3.trans z3 x4) (Nat.le_trans x4 Z)⟩
 refine⟨fun hr=> ?_,fun i hi=> ?_⟩
 ·have:0∈Region.ready .any ops (Array.replicate 4 false):=(fG U).2 ⟨rfl,fun p D=>by rw[r0]at D;cases D⟩
  rw[hr]at this;cases this
 ·have N:=n6 hi
  obtain⟨I,W⟩:=(fG N).1 hi
  have:i=0∨i=1∨i=2∨i=3:=zO
  rcases this with rfl|rfl|rfl|rfl
  ·refine na hE hO (o:=ops[0]) (Array.getElem?_eq_getElem U) (dO 0 U o0 rfl) d1 base f0 ?_
   intro H w' r M' x1 x2 x3 x4
   have x3':Tr st w β M t0 w' r M':=d2.trans x3 sz0
   show wpAny P .any ops Q 3 #[true,false,false,false] H w'
   refine⟨fun hr=> ?_,fun i hi=> ?_⟩
   ·have:1∈Region.ready .any ops #[true,false,false,false]:=(fG F).2 ⟨rfl,fun p D=>by
     rw[r1]at D
     have:=b1 p D
     have:p=0:=zO
     subst this;rfl⟩
    rw[hr]at this;cases this
   ·have N:=n6 hi
    obtain⟨I,W⟩:=(fG N).1 hi
    have:i=0∨i=1∨i=2∨i=3:=zO
    rcases this with rfl|rfl|rfl|rfl
    ·cases I
    ·refine na hE hO (o:=ops[1]) (Array.getElem?_eq_getElem F) (dO 1 F o1 rfl) x1 x2 f1 ?_
     intro a2 w2 VT M2 z1 z2 z3 Z
     have z3':=x3'.trans z3 x4
     show wpAny P .any ops Q 2 #[true,true,false,false] a2 w2
     refine⟨fun hr=> ?_,fun i hi=> ?_⟩
     ·have:2∈Region.ready .any ops #[true,true,false,false]:=(fG J).2 ⟨rfl,fun p D=>by
       rw[r2]at D
       have:=b2 p D
       have:p=0:=zO
       subst this;rfl⟩
      rw[hr]at this;cases this
     ·have N:=n6 hi
      obtain⟨I,W⟩:=(fG N).1 hi
      have:i=0∨i=1∨i=2∨i=3:=zO
      rcases this with rfl|rfl|rfl|rfl
      ·cases I
      ·cases I
      ·refine na hE hO (o:=ops[2]) (Array.getElem?_eq_getElem J) (dO 2 J o2 rfl) z1 z2 f2 ?_
       intro a3 w3 β3 M3 v1 v2 v3 v4
       exact X t2 t3 f3 q1 a3 w3 β3 M3 v1 v2 (z3'.trans v3 (Nat.le_trans x4 Z)) (Nat.le_trans x4 (Nat.le_trans Z v4))
      ·have:=W 2 (by rw[r3];exact c2);cases this
    ·refine na hE hO (o:=ops[2]) (Array.getElem?_eq_getElem J) (dO 2 J o2 rfl) x1 x2 g1 ?_
     intro a2 w2 VT M2 z1 z2 z3 Z
     have z3':=x3'.trans z3 x4
     show wpAny P .any ops Q 2 #[true,false,true,false] a2 w2
     refine⟨fun hr=> ?_,fun i hi=> ?_⟩
     ·have:1∈Region.ready .any ops #[true,false,true,false]:=(fG F).2 ⟨rfl,fun p D=>by
       rw[r1]at D
       have:=b1 p D
       have:p=0:=zO
       subst this;rfl⟩
      rw[hr]at this;cases this
     ·have N:=n6 hi
      obtain⟨I,W⟩:=(fG N).1 hi
      have:i=0∨i=1∨i=2∨i=3:=zO
      rcases this with rfl|rfl|rfl|rfl
      ·cases I
      ·refine na hE hO (o:=ops[1]) (Array.getElem?_eq_getElem F) (dO 1 F o1 rfl) z1 z2 g2 ?_
       intro a3 w3 β3 M3 v1 v2 v3 v4
       exact X u2 u3 g3 q2 a3 w3 β3 M3 v1 v2 (z3'.trans v3 (Nat.le_trans x4 Z)) (Nat.le_trans x4 (Nat.le_trans Z v4))
      ·cases I
      ·have:=W 1 (by rw[r3];exact c1);cases this
    ·have:=W 1 (by rw[r3];exact c1);cases this
  ·have:=W 0 (by rw[r1];exact a1);cases this
  ·have:=W 0 (by rw[r2];exact a2);cases this
  ·have:=W 1 (by rw[r3];exact c1);cases this
theorem oa(ks:List Nat)(f:Fr)(j:Nat):aa (uv ks f) j=if j∈ks then .any else aa f j:=by
 induction ks with
 |nil=>simp[uv]
 |cons k ks ih=>
  grind [uv,lL]
theorem DV(ks:List Nat)(l r:aB ah)(j:Nat):aB.get fv (AY ks l r) j=if j∈ks then⟨max (aB.get fv l j).g (aB.get fv r j).g,.none⟩else aB.get fv l j:=by
 induction ks with
 |nil=>simp[AY]
 |cons k ks ih=>
  grind [AY,aB.get_set]
theorem qN(ks:List Nat)(s t:St)(sp:Sp)(k:Nat):(nW ks s t).get sp k=if sp= .L∧k∈ks then⟨max (s.get sp k).g (t.get sp k).g,.none⟩else s.get sp k:=by
 cases sp with
 |S=>rw[if_neg xv];rfl
 |L=>
  show aB.get fv (AY ks s.lh t.lh) k=_
  rw[DV]
  by_cases h:k∈ks
  ·rw[if_pos h,if_pos ⟨rfl,h⟩];rfl
  ·rw[if_neg h,if_neg (by simp[h])];rfl
theorem wP(ks:List Nat)(s t:St)(sp:Sp)(k:Nat):s.gens sp k≤(nW ks s t).gens sp k:=by
 show(s.get sp k).g≤((nW ks s t).get sp k).g
 rw[qN]
 grind
theorem oc{ks:List Nat}{s t:St}{sp:Sp}{k:Nat}(h:live ((nW ks s t).get sp k)):(nW ks s t).get sp k=s.get sp k∧live (s.get sp k):=by
 rw[qN]at h ⊢
 split at h
 ·exact h.elim
 ·grind
theorem ph{ks:List Nat}{s t:St}{sp:Sp}{k:Nat}(h:live ((nW ks s t).get sp k)):(nW ks s t).gens sp k=s.gens sp k:=by
 show((nW ks s t).get sp k).g=(s.get sp k).g
 rw[(oc h).1]
theorem VZ(ks:List Nat)(t:St){B:fA}{s:St}{w:World}{β:aV}{M:aG}(h:bh B s w β M):bh B (nW ks s t) w β M:=by
 refine⟨fun sp k=> ?_,fun sp k H k' D F e=> ?_,h.mlt,fun k r=> ?_,fun k r=> ?_,h.os,h.tape,h.output,h.size,h.same,h.keep,h.msup⟩
 ·rw[qN]
  split
  ·unfold ev;trivial
  ·exact ev.mono (dX.refl w M) (fun _ _ _ _=>rfl) (wP ks s t) (Nat.le_refl _) (fun _=>rfl) (fun _ _ h=>h) (h.obj sp k)
 ·rw[ph D,ph F]at e;exact h.dist sp k H k' (oc D).2 (oc F).2 e
 ·rw[ph r];exact h.lblk k (oc r).2
 ·rw[ph r];exact h.sblk k (oc r).2
theorem V0(ks:List Nat)(t:St){s:St}{a:Act}{w:World}{β:aV}{M:aG}(h:ju s a w β M n):ju (nW ks s t) a w β M n:=by
 refine⟨h.size,h.defers,fun i=> ?_⟩
 show aq β (nW ks s t).gens w M (aa (uv ks s.fr) i) _
 rw[oa]
 split
 ·simp only[aq]
 ·exact aq.mono (dX.refl w M) (fun _ _ _ _=>rfl) (wP ks s t) _ _ (h.slot i)
theorem V1(ks:List Nat)(t:St){st s:St}{w w':World}{β bf:aV}{M M':aG}(h:Tr st w β M s w' bf M'):Tr st w β M (nW ks s t) w' bf M':=⟨h.keep,h.beta,fun sp k=>Nat.le_trans (h.gens sp k) (wP ks s t sp k)⟩
theorem Bs{ks:List Nat}{s t:St}(h:AZ ks s t)(sp:Sp)(k:Nat):(nW ks s t).get sp k=(nW ks t s).get sp k:=by
 obtain⟨h1,_,h4⟩:=h
 cases sp with
 |S=>show aE s.sh k=aE t.sh k;rw[h1]
 |L=>
  rw[qN,qN]
  by_cases hk:k∈ks
  ·grind
  ·rw[if_neg (by simp[hk]),if_neg (by simp[hk])]
   exact h4 k hk
theorem ac1{ks:List Nat}{s t:St}(h:AZ ks s t)(k:Nat):aa (nW ks s t).fr k=aa (nW ks t s).fr k:=by
 show aa (uv ks s.fr) k=aa (uv ks t.fr) k
 rw[oa,oa]
 split
 ·rfl
 ·rename_i hk;exact h.2.1 k hk
theorem tn{ks:List Nat}{F H:Option (Out×St)}{o:Out}{s:St}(h:Np ks F H=some (o,s)): ∃r D,F=some (o,r)∧H=some (o,D)∧AZ ks r D∧s=nW ks r D:=by
 unfold Np at h
 grind
theorem Iz(a:Code)(D r:ak):Nq P hs a D r= .seq D r∨ ∃id ops F H I J,a= .region id ops true∧dW P hs ops ops.toList=some [F,H,I,J]∧Ft (ops.toList.map cL)=true∧Nq P hs a D r= .fork [F,H,I,J] [F,I,H,J] r:=by
 unfold Nq
 grind
theorem ale(hE:pW P E)(hO:uP P E call)(hm:P.follows .mixedOrders=true)(fl:Nat): ∀(c:Code) (ac:ak),iE P hs c=some ac→
  ∀{B:fA} {st W:St} {a:Act} {w:World} {β:aV} {M:aG} {o:Out},bh B st w β M→ju st a w β M n→gH E call fl n ac st=some (o,W)→ ∀{Q:Exit→Act→World→Prop},
  (∀J w' N M',bh B W w' N M'→ju W J w' N M' n→Tr st w β M W w' N M'→w.heap.size≤w'.heap.size→Q (alb o) J w')→c.wp P Q a w:=by
 intro c
 induction c with
 |skip=>
  intro ac hc B st W a w β M o h F r Q D
  simp[iE]at hc;subst hc
  simp[gH]at r;obtain⟨rfl,rfl⟩:=r
  exact wp_skip (D a w β M h F (Tr.refl _ _ _ _) (Nat.le_refl _))
 |region id ops draw=>
  intro ac hc B st W a w β M o h F r Q D
  cases draw with
  |false=>
   simp only[iE,Option.map_eq_some_iff]at hc
   obtain⟨as,h1,rfl⟩:=hc
   simp only[gH,Option.map_eq_some_iff]at r
   obtain⟨Z,h2,h3⟩:=r
   simp at h3;obtain⟨rfl,rfl⟩:=h3
   refine wp_region ?_
   rw[List.range_eq_range']
   exact VS hE hO ops.size 0 as zO (by simpa using h1) h F h2 D
  |true=>
   simp only[iE]at hc
   split at hc
   ·rename_i as h1
    split at hc
    ·rename_i hcc
     simp only[Bool.and_eq_true]at hcc
     simp at hc;subst hc
     simp only[gH,Option.map_eq_some_iff]at r
     obtain⟨Z,h2,h3⟩:=r
     simp at h3;obtain⟨rfl,rfl⟩:=h3
     exact VY hE hO hm h1 hcc.1 hcc.2 h F h2 D
    ·cases hc
   ·cases hc
 |seq x y X Y=>
  intro ac hc B st W a w β M o h F r Q D
  simp only[iE]at hc
  split at hc
  ·rename_i H ay h1 h2
   simp only[Option.some.injEq]at hc
   rcases Iz (P:=P) (hs:=hs) x H ay with hj|⟨id,ops,o0,o1,o2,o3,rfl,qa,Bt,hj⟩
   rotate_left
   ·rw[hj]at hc
    subst hc
    simp only[gH]at r
    split at r
    ·rename_i s1 s2 e1 e2
     obtain⟨t1,t2,g1,g2,tZ,rfl⟩:=tn r
     refine wp_seq ?_
     refine acZ hE hO hm qa Bt h F e1 e2 ?_ ?_
     ·intro J w' N M' O U V I
      exact Y ay h2 O U g1 (fun a2 w2 VT M2 z1 z2 z3 z4=>D a2 w2 VT M2 (VZ _ _ z1) (V0 _ _ z2) (V1 _ _ (V.trans z3 I)) (Nat.le_trans I z4))
     ·intro J w' N M' O U V I
      exact Y ay h2 O U g2 (fun a2 w2 VT M2 z1 z2 z3 z4=>D a2 w2 VT M2 (aiT (Bs tZ) (VZ _ _ z1)) (aiU (Bs tZ) (ac1 tZ) (V0 _ _ z2)) (VU (Bs tZ) (V1 _ _ (V.trans z3 I))) (Nat.le_trans I z4))
    ·cases r
   rw[hj]at hc
   subst hc
   simp only[gH]at r
   refine wp_seq ?_
   cases hx:gH E call fl n H st with
   |none=>simp[hx]at r
   |some p=>
    obtain⟨ox,Z⟩:=p
    cases ox with
    |nrm=>
     simp only[hx]at r
     refine X H h1 h F hx ?_
     intro J w' N M' O U V I
     exact Y ay h2 O U r (fun a2 w2 VT M2 s1 s2 s3 s4=>D a2 w2 VT M2 s1 s2 (V.trans s3 I) (Nat.le_trans I s4))
    |ext id=>
     simp[hx]at r;obtain⟨rfl,rfl⟩:=r
     exact X H h1 h F hx D
    |ret=>
     simp[hx]at r;obtain⟨rfl,rfl⟩:=r
     exact X H h1 h F hx D
  ·cases hc
 |cond c x y X Y=>
  intro ac hc B st W a w β M o h F r Q D
  simp only[iE]at hc
  split at hc
  ·rename_i c' H ay h0 h1 h2
   simp at hc;subst hc
   simp only[gH]at r
   have vc:=Vu F c c' h0
   split at r
   ·rename_i e
    rw[e]at vc
    exact wp_cond_true vc.bool (X H h1 h F r D)
   ·rename_i e
    rw[e]at vc
    exact wp_cond_false vc.bool (Y ay h2 h F r D)
   ·cases r
  ·cases hc
 |block id x ih=>
  intro ac hc B st W a w β M o h F r Q D
  simp only[iE,Option.map_eq_some_iff]at hc
  obtain⟨H,h1,rfl⟩:=hc
  simp only[gH]at r
  refine wp_block ?_
  cases hx:gH E call fl n H st with
  |none=>simp[hx]at r
  |some p=>
   obtain⟨ox,Z⟩:=p
   cases ox with
   |nrm=>simp[hx]at r;obtain⟨rfl,rfl⟩:=r;exact ih H h1 h F hx D
   |ret=>simp[hx]at r;obtain⟨rfl,rfl⟩:=r;exact ih H h1 h F hx D
   |ext Qc=>
    simp only[hx]at r
    by_cases hid:Qc=id
    ·simp only[hid,if_true,Option.some.injEq,Prod.mk.injEq]at r
     obtain⟨rfl,rfl⟩:=r
     refine ih H h1 h F hx ?_
     intro J w' N M' O U V I
     show Exit.inBlock id Q (.exit Qc) J w'
     simp only[Exit.inBlock,hid,if_true]
     exact D J w' N M' O U V I
    ·simp only[hid,if_false,Option.some.injEq,Prod.mk.injEq]at r
     obtain⟨rfl,rfl⟩:=r
     refine ih H h1 h F hx ?_
     intro J w' N M' O U V I
     show Exit.inBlock id Q (.exit Qc) J w'
     simp only[Exit.inBlock,hid,if_false]
     exact D J w' N M' O U V I
 |loop x ih=>
  intro ac hc B st W a w β M o h F r Q D
  simp only[iE,Option.map_eq_some_iff]at hc
  obtain⟨H,h1,rfl⟩:=hc
  simp only[gH]at r
  have key: ∀(m:Nat) (Z:St) (a1:Act) (w1:World) (Hx:aV) (M1:aG),bh B Z w1 Hx M1→ju Z a1 w1 Hx M1 n→Tr st w β M Z w1 Hx M1→w.heap.size≤w1.heap.size→iter (gH E call fl n H) m Z=some (o,W)→Code.rounds P x Q m a1 w1:=by
   intro m
   induction m with
   |zero=>grind [iter]
   |succ m ihm=>
    intro Z a1 w1 Hx M1 g1 g2 g3 g4 hi
    rw[rounds_succ]
    simp only[iter]at hi
    cases hx:gH E call fl n H Z with
    |none=>simp[hx]at hi
    |some p=>
     obtain⟨ox,wM⟩:=p
     cases ox with
     |nrm=>
      simp only[hx]at hi
      refine ih H h1 g1 g2 hx ?_
      intro J w' N M' O U V I
      exact ihm wM J w' N M' O U (g3.trans V g4) (Nat.le_trans g4 I) hi
     |ext id=>
      simp[hx]at hi;obtain⟨rfl,rfl⟩:=hi
      refine ih H h1 g1 g2 hx ?_
      intro J w' N M' O U V I
      exact D J w' N M' O U (g3.trans V g4) (Nat.le_trans g4 I)
     |ret=>
      simp[hx]at hi;obtain⟨rfl,rfl⟩:=hi
      refine ih H h1 g1 g2 hx ?_
      intro J w' N M' O U V I
      exact D J w' N M' O U (g3.trans V g4) (Nat.le_trans g4 I)
  exact wp_loop_rounds fl (key fl st a w β M h F (Tr.refl _ _ _ _) (Nat.le_refl _) r)
 |exit id=>
  intro ac hc B st W a w β M o h F r Q D
  simp[iE]at hc;subst hc
  simp[gH]at r;obtain⟨rfl,rfl⟩:=r
  exact wp_exit (D a w β M h F (Tr.refl _ _ _ _) (Nat.le_refl _))
 |ret=>
  intro ac hc B st W a w β M o h F r Q D
  simp[iE]at hc;subst hc
  simp[gH]at r;obtain⟨rfl,rfl⟩:=r
  exact wp_ret (D a w β M h F (Tr.refl _ _ _ _) (Nat.le_refl _))
 |rangeFunc _ _ _ _=>grind [iE]
 |scope _=>grind [iE]
 |label _=>grind [iE]
 |goto _=>grind [iE]
 |refuse _=>grind [iE]
end
end Go.Ev
namespace Go.Ev
open Go
section
variable{P:Program}{E:Env}{n:Nat}
def FI(ts:Array Value)(r:ResultVar):Sem Value:=
 match r with
 | .tmp t=>pure (ts.getD t undef)
 | .cell D t=>do loadVar t (←asAddr (ts.getD D undef))
theorem Lu(D:Func)(ts:Array Value):results D ts=(do
  let r ←(List.toArray <$> D.results.toList.mapM (FI ts))
  pure (if h:r.size=1 then r[0]else .tuple r)):=by
 unfold results
 rw[Array.mapM_eq_mapM_toList]
 congr 2
theorem tp{B:fA}{st:St}{a:Act}{w:World}{β:aV}{M:aG}(h:bh B st w β M)(I:ju st a w β M n): ∀(rs:List ResultVar) (r:List tf) (H:List T),oX P rs=some r→jc st r=some H→
  ∃F:List Value,(rs.mapM (FI a.tmps)).run P w=Result.ok F w∧au β st.gens w M H F
 | [],r,H,hc,hr=>by
   simp_all[oX,jc,au]
 | .tmp t::rs,r,H,hc,hr=>by
   simp only[oX,Option.map_eq_some_iff]at hc
   obtain⟨D,h1,rfl⟩:=hc
   simp only[jc,H7]at hr
   split at hr
   ·rename_i v J e1 e2
    simp at hr e1;subst hr;subst e1
    obtain⟨F,N,O⟩:=tp h I rs D J h1 e2
    refine⟨a.tmps.getD t undef::F, ?_, ?_⟩
    ·grind [FI,Sem.run_bind,Sem.run_pure,Result.andThen_ok]
    ·simp only[au];exact⟨_,_,rfl,I.slot t,O⟩
   ·cases hr
 | .cell U t::rs,r,H,hc,hr=>by
   simp only[oX]at hc
   split at hc
   ·rename_i sz Y D h1 h2 h3
    simp at hc;subst hc
    simp only[jc,H7]at hr
    split at hr
    ·rename_i v J e1 e2
     simp at hr;subst hr
     obtain⟨F,N,O⟩:=tp h I rs D J h3 e2
     obtain⟨V,cv,W,X,Z⟩:=If (P:=P) h h1 h2 (I.slot U) e1
     refine⟨cv::F, ?_, ?_⟩
     ·rw[List.mapM_cons]
      simp only[FI,Sem.run_bind,W,asAddr,Sem.run_pure,Result.andThen_ok,X,N]
     ·grind [au]
    ·cases hr
   ·cases hc
theorem Qr{β:aV}{G:Sp→Nat→Nat}{w:World}{M:aG}{args:List T}{r:Array Value}(H:au β G w M args r.toList)(k:Nat)(t:Nat):aq β G w M (aa (lb args) t) ((r++Array.replicate k undef).getD t undef):=by
 have D:=au.length _ _ H
 by_cases I:t<args.length
 ·have J:args[t]? =some args[t]:=List.getElem?_eq_getElem I
  obtain⟨cv,N,U⟩:=H.get J
  have e1:aa (lb args) t=args[t]:=by
   rw[DI]
   have: ∀(l:List T) (j:Nat) (F:j<l.length),aJ ba l j=l[j]:=by
    intro l
    induction l with
    |nil=>grind
    |cons x xs ih=>intro j F;cases j with|zero=>rfl|succ j=>exact ih j (by simpa using F)
   grind
  have O:r[t]? =some cv:=by simpa using N
  have V:t<r.size:=by simp at D;omega
  simp_all[Array.getD_eq_getD_getElem?,Array.getElem?_append_left]
 ·have e1:aa (lb args) t=ba:=by
   rw[DI]
   have: ∀(l:List T) (j:Nat),l.length≤j→aJ ba l j=ba:=by
    intro l
    induction l with
    |nil=>intro j _;rfl
    |cons x xs ih=>intro j F;cases j with|zero=>simp at F|succ j=>exact ih j (by simpa using F)
   grind
  have e2:(r++Array.replicate k undef).getD t undef=undef:=by
   rw[Array.getD_eq_getD_getElem?,Array.getElem?_append_right (by simp at D;omega),Array.getElem?_replicate]
   split <;> rfl
  rw[e1,e2]
  simp[aq,ba,undef,au]
def pack:List T→T
 | [v]=>v
 |vs=> .tup vs
theorem Lv{keep:Bool}{n:Nat}:fz keep (n+1) .nilsl= .ret (.nilsl,[]):=rfl
theorem uT{f:T→Q (T×List Up)}{h:Sp→Nat→ah}{nx:Nat}(F:f .nilsl= .ret (.nilsl,[])): ∀(ts:List T) {j:Nat} {q:List T×List Up},(bn f ts).run h nx=some q→ts[j]? =some .nilsl→q.1[j]? =some .nilsl
 | [],j,q,_,D=>by simp at D
 |t::ts,j,q,r,D=>by
  simp only[bn,Q.run_bind]at r
  cases h1:(f t).run h nx with
  |none=>simp[h1]at r
  |some p=>
   simp only[h1,Option.bind_some]at r
   cases h2:(bn f ts).run h nx with
   |none=>simp[h2]at r
   |some H=>
    simp only[h2,Option.bind_some,Q.run,Option.some.injEq]at r
    subst r
    cases j with
    |zero=>
     grind [Q.run]
    |succ j=>simpa using uT F ts h2 (by simpa using D)
theorem FJ{f:T→Q (T×List Up)}{h:Sp→Nat→ah}{nx:Nat}: ∀(ts:List T) {j:Nat} {q:List T×List Up} {x:T},(bn f ts).run h nx=some q→ts[j]? =some x→ ∃p,(f x).run h nx=some p∧q.1[j]? =some p.1
 | [],j,q,x,_,D=>by simp at D
 |t::ts,j,q,x,r,D=>by
  simp only[bn,Q.run_bind]at r
  cases h1:(f t).run h nx with
  |none=>simp[h1]at r
  |some p=>
   simp only[h1,Option.bind_some]at r
   cases h2:(bn f ts).run h nx with
   |none=>simp[h2]at r
   |some F=>
    simp only[h2,Option.bind_some,Q.run,Option.some.injEq]at r
    subst r
    cases j with
    |zero=>grind
    |succ j=>simpa using FJ ts h2 (by simpa using D)
theorem FL{n:Nat}{cs:List T}{h:Sp→Nat→ah}{nx:Nat}{p:T×List Up}(r:(fz false (n+1) (.agg cs)).run h nx=some p): ∃q,(bn (fz false n) cs).run h nx=some q∧p.1= .agg q.1:=by
 have r:((bn (fz false n) cs).bind fun q=>Q.ret (T.agg q.1,q.2)).run h nx=some p:=r
 rw[Q.run_bind]at r
 cases h1:(bn (fz false n) cs).run h nx with
 |none=>simp[h1]at r
 |some q=>
  grind [Q.run,Option.some.injEq]
theorem alh{r t y:T}{us:List Up}{h:Sp→Nat→ah}{nx j:Nat}(D:(fz false aL (aO r j .nilsl)).run h nx=some (t,us))(hc:eG r j=some y):okC t j:=by
 cases r
 case tup vs=>
  by_cases F:j<100
  ·simp only[aO,F,if_true]at D
   have D:((bn (fz false 7) (vs.set j .nilsl)).bind fun q=>Q.ret (T.tup q.1,q.2)).run h nx=some (t,us):=D
   rw[Q.run_bind]at D
   cases h1:(bn (fz false 7) (vs.set j .nilsl)).run h nx with
   |none=>simp[h1]at D
   |some q=>
    simp only[h1,Option.bind_some,Q.run,Option.some.injEq,Prod.mk.injEq]at D
    obtain⟨rfl,rfl⟩:=D
    exact .inl F
  ·simp only[eG,F,if_false]at hc
   cases hi:vs[j/100-1]? with
   |none=>grind
   |some H=>
    rw[hi]at hc
    cases H <;> try (simp only at hc;cases hc;done)
    rename_i cs
    simp only[aO,F,if_false,hi]at D
    have D:((bn (fz false 7) (vs.set (j/100-1) (.agg (cs.set (j%100) .nilsl)))).bind fun q=>Q.ret (T.tup q.1,q.2)).run h nx=some (t,us):=D
    rw[Q.run_bind]at D
    cases h1:(bn (fz false 7) (vs.set (j/100-1) (.agg (cs.set (j%100) .nilsl)))).run h nx with
    |none=>simp[h1]at D
    |some q=>
     simp only[h1,Option.bind_some,Q.run,Option.some.injEq,Prod.mk.injEq]at D
     obtain⟨rfl,rfl⟩:=D
     obtain⟨p,I,J⟩:=FJ _ h1 (List.getElem?_set_self (List.getElem?_eq_some_iff.1 hi).1)
     obtain⟨N,_,e⟩:=FL I
     exact .inr ⟨N.1,by rw[J,e]⟩
 case agg vs=>
  simp only[aO]at D
  obtain⟨q,_,e⟩:=FL (n:=7) D
  rw[show t=_ from e]
  trivial
 case any=>simp[eG]at hc
 all_goals
  simp[aO,aL,fz,Q.run]at D
  obtain⟨rfl,rfl⟩:=D
  trivial
theorem ac2{r t:T}{us:List Up}{h:Sp→Nat→ah}{nx j:Nat}(D:(fz false aL r).run h nx=some (t,us))(hc:eG r j=some .nilsl):eG t j=some .nilsl:=by
 cases r
 case tup vs=>
  have D:((bn (fz false 7) vs).bind fun q=>Q.ret (T.tup q.1,q.2)).run h nx=some (t,us):=D
  rw[Q.run_bind]at D
  cases h1:(bn (fz false 7) vs).run h nx with
  |none=>simp[h1]at D
  |some q=>
   simp only[h1,Option.bind_some,Q.run,Option.some.injEq,Prod.mk.injEq]at D
   obtain⟨rfl,rfl⟩:=D
   simp only[eG]at hc ⊢
   by_cases F:j<100
   ·rw[if_pos F]at hc ⊢
    exact uT Lv vs h1 hc
   ·rw[if_neg F]at hc ⊢
    cases hi:vs[j/100-1]? with
    |none=>grind
    |some H=>
     rw[hi]at hc
     cases H <;> try (simp only at hc;cases hc;done)
     rename_i cs
     obtain⟨p,I,J⟩:=FJ _ h1 hi
     obtain⟨N,e1,e2⟩:=FL I
     rw[J,e2]
     exact uT Lv cs e1 hc
 case agg vs=>
  have D:((bn (fz false 7) vs).bind fun q=>Q.ret (T.agg q.1,q.2)).run h nx=some (t,us):=D
  rw[Q.run_bind]at D
  cases h1:(bn (fz false 7) vs).run h nx with
  |none=>simp[h1]at D
  |some q=>
   simp only[h1,Option.bind_some,Q.run,Option.some.injEq,Prod.mk.injEq]at D
   obtain⟨rfl,rfl⟩:=D
   exact uT Lv vs h1 hc
 all_goals
  simp only[eG,Option.some.injEq]at hc
  try (cases hc;done)
 simp[aL,fz,Q.run]at D
 obtain⟨rfl,rfl⟩:=D
 rfl
theorem Bu(hE:pW P E)(hm:P.follows .mixedOrders=true){m:Nat}(hO:uP P E (cV E m)){f:Nat}{af:ai}{args:List T}{sh:List ah}{r:T}{Y:List ah}(zF:E.fn f=some af)(D:cV E (m+1) f args sh=some (r,Y))
  {w:World} {β:aV} {M:aG} {cargs:Array Value} (xQ:bh ⟨w,M,eQ sh β⟩ (bare .nil sh) w β M) (Z:au β (bare .nil sh).gens w M args cargs.toList) {Q:Ending→World→Prop}
  (hQ: ∀J F w' U M' v,bh ⟨w,M,eQ sh β⟩ J w' U M'→oW af.own af.eff F J=some (r,Y)→aq U J.gens w' M' (pack F) v→Tr (bare (lb args) sh) w β M J w' U M'→Q (.returned v) w'):Calls P f cargs w Q:=by
  obtain⟨hs,fn,hf,H⟩:=hE.1 f af zF
  simp only[cV,zF]at D
  split at D
  ·cases D
  ·rename_i hlen
   unfold DD at H
   split at H
   ·cases H
   ·split at H
    ·cases H
    ·rename_i code awZ
     split at H
     ·rename_i ac W h1 h2
      simp at H
      have hV:au β (bare (lb args) sh).gens w M args cargs.toList:=Z
      have ee:=au.length _ _ hV
      have hn:fn.ntmps=af.n:=by rw[←H]
      have aw0:af.code=ac:=by rw[←H]
      have C6:af.res=W:=by rw[←H]
      rw[aw0]at D
      cases I:gH E (cV E m) m af.n ac {fr:=lb args,lh:= .nil,sh}with
      |none=>simp[I]at D
      |some p=>
       obtain⟨o,J⟩:=p
       have C8:o≠ .nrm→o≠ .ret→False:=by
        intro n1 n2
        cases o with
        |nrm=>exact n1 rfl
        |ret=>exact n2 rfl
        |ext id=>simp[I]at D
       have wQ: ∃F,jc J af.res=some F∧oW af.own af.eff F J=some (r,Y):=by
        cases o with
        |nrm=>
         simp only[I]at D
         split at D
         ·rename_i F hv
          exact⟨F,hv,D⟩
         ·cases D
        |ret=>
         simp only[I]at D
         split at D
         ·rename_i F hv
          exact⟨F,hv,D⟩
         ·cases D
        |ext id=>exact(C8 xv xv).elim
       obtain⟨N,aEc,wQ⟩:=wQ
       have hF:ju (bare (lb args) sh) {tmps:=cargs++Array.replicate (fn.ntmps-cargs.size) undef,defers:= []} w β M af.n:=by
        refine⟨by simp at ee ⊢; omega,rfl,fun t=>Qr hV _ t⟩
       refine calls_of_wp hf awZ ?_
       refine ale (n:=af.n) hE hO hm m code ac h1 (B:=⟨w,M,eQ sh β⟩) (st:=bare (lb args) sh) (acT xQ (lb args)) hF I ?_
       intro a' w' U M' r1 r2 r3 r4
       have post:a'.defers= []∧ ∃v,(results fn a'.tmps).run P w'= .ok v w'∧Q (.returned v) w':=by
        refine⟨r2.defers, ?_⟩
        have X:=aEc
        rw[C6]at X
        obtain⟨O,q1,V⟩:=tp (P:=P) r1 r2 fn.results.toList W N h2 X
        have aw1:(results fn a'.tmps).run P w'= .ok (if hh:O.toArray.size=1 then O.toArray[0]else .tuple O.toArray) w':=by
         rw[Lu]
         simp only[Sem.run_bind,Sem.run_map,q1,Result.andThen_ok,Sem.run_pure]
        have V2:aq U J.gens w' M' (pack N) (if hh:O.toArray.size=1 then O.toArray[0]else .tuple O.toArray):=by
         have KH:=au.length _ _ V
         cases N with
         |nil=>
          simp only[au]at V;subst V
          simp[pack,aq,au]
         |cons v F=>
          cases F with
          |nil=>
           simp only[au]at V
           obtain⟨u,us,rfl,k1,rfl⟩:=V
           simpa[pack]using k1
          |cons v2 F=>
           have:O.toArray.size≠1:=by simp at KH ⊢; omega
           rw[dif_neg this]
           simp only[pack,aq]
           exact⟨_,rfl,by simpa using V⟩
        exact⟨_,aw1,hQ J N w' U M' _ r1 wQ V2 r3⟩
       cases o with
       |nrm=>exact post
       |ret=>exact post
       |ext id=>exact(C8 xv xv).elim
     ·cases H
theorem xZ(r:Bool)(D:List T)(st:St):answer r D st=match(fz r aL (pack D)).run st.get st.sh.length with
 |some p=>some (p.1,(st.ups p.2).sh)
 |none=>none:=by
 cases D with
 |nil=>rfl
 |cons v D=>cases D <;> rfl
theorem FM(j:Nat)(r:List T)(st:St):mY j r st=match eG (pack r) j with
 |some .nilsl=>answer false r st
 |some (.isl .L k g 0 len sz)=>
  (match(fz false aL (aO (pack r) j .nilsl)).run st.get st.sh.length with
  |some p=>(match(st.ups p.2).get .L k with
   |⟨D,.cells cs wm false⟩=>if D=g∧cs.length=len*sz∧len≠0∧(wm=0∨mX (aO p.1 j .nilsl)=true)then some (aO p.1 j (.sl cs len false),(st.ups p.2).sh)else none
   |_=>none)
  |none=>none)
 |_=>none:=by
 cases r with
 |nil=>rfl
 |cons v r=>cases r <;> rfl
theorem DW{B:fA}{D:St}{J:List T}{w':World}{H:aV}{M':aG}{v:Value}{F:Bool}{r:T}{N:List ah}(O:bh B D w' H M')(I:answer F J D=some (r,N))(V2:aq H D.gens w' M' (pack J) v):
  ∃M2 us,bh B (D.ups us) w' H M2∧(D.ups us).gens=D.gens∧N=(D.ups us).sh∧oZ F H D.gens w' M2 r v:=by
 rw[xZ]at I
 split at I
 ·rename_i p U
  obtain⟨V,us⟩:=p
  simp at I
  obtain⟨rfl,rfl⟩:=I
  obtain⟨M2,W,X,Z,Y,z5⟩:=xR F D aL _ _ D w' H M' _ V us _ (Fz.refl D) O V2 U
  exact⟨M2,us,W,X.gens,rfl,Y⟩
 ·cases I
theorem IA(hE:pW P E)(hm:P.follows .mixedOrders=true): ∀m,uP P E (cV E m)
 |0=>by
  intro f af args sh r aY zF hc
  simp[cV]at hc
 |m+1=>by
  have hO:=IA hE hm m
  intro f af args sh r aY zF aC
  refine⟨fun tm=> ?_,fun j tm=> ?_⟩
  ·intro w β M N xQ H
   refine Bu hE hm hO zF aC xQ (jw.toV H) ?_
   intro F vs w' I M' v Z D hv r3
   rw[tm]at D
   obtain⟨M2,us,O,z2,rfl,J⟩:=DW Z D hv
   refine⟨v,I,M2,rfl,FD O .nil,fun k g hg=>r3.beta .S k g hg,fun k=> ?_, ?_⟩
   ·have e1:(aE (F.ups us).sh k).g=(F.ups us).gens .S k:=rfl
    rw[e1,z2]
    exact r3.gens .S k
   ·have U: ∀k,(bare .nil (F.ups us).sh).gens .S k=F.gens .S k:=by
     intro k
     have e1:(bare .nil (F.ups us).sh).gens .S k=(F.ups us).gens .S k:=rfl
     rw[e1,z2]
    cases V:af.eff with
    |false=>rw[V]at J;exact J
    |true=>
     rw[V]at J
     intro b g p q
     exact J b g (fun k x hx=>p k x (by rw[U];exact hx)) (fun k=>by rw[←U];exact q k)
  ·have V:af.eff=false:=by
    grind [cV,oW]
   refine⟨V, ?_⟩
   intro w β M N xQ H
   refine Bu hE hm hO zF aC xQ (jw.toV H) ?_
   intro F vs w' I M' v Z D hv r3
   rw[tm,V]at D
   have D:mY j vs F=some (r,aY):=by simpa[oW]using D
   rw[FM]at D
   split at D
   ·rename_i hc
    obtain⟨M2,us,O,z2,rfl,J⟩:=DW Z D hv
    refine⟨v,I,M2,rfl,FD O .nil,.inl ⟨?_,J⟩⟩
    grind [xZ,ac2]
   ·rename_i k g len sz hc
    split at D
    ·rename_i p hz
     obtain⟨t',us⟩:=p
     have hn:aq I F.gens w' M' .nilsl jZ:=by simp only[aq]
     obtain⟨⟨x,hx,W⟩,wH⟩:=VK hv hc hn rfl
     obtain⟨M2,O,z2,z3,J,z5⟩:=xR false F aL _ _ F w' I M' _ t' us _ (Fz.refl F) Z wH hz
     dsimp only at D
     split at D
     ·rename_i g' cs wm C9
      split at D
      ·rename_i hcs
       obtain⟨rfl,ee,xS,Ik⟩:=hcs
       simp at D
       obtain⟨rfl,rfl⟩:=D
       simp only[aq]at W
       obtain⟨aKk,cap,rfl,hlc,hcx⟩:=W
       have ho:=O.obj .L k
       rw[C9]at ho
       unfold ev at ho
       obtain⟨c,el,fzz,o1,o2,o3,o4,o5,o6,o7,o8⟩:=ho
       dsimp only at o1 o2 o3 o4 o5 o6
       subst o4
       have X:=fun(b:aV) (G:Sp→Nat→Nat)=>VL (cs:=cs) (len:=len) (ex:=false) (alh hz hc) (PRel.toV b G _ _ J) hx
       have DJ:live ((F.ups us).get .L k):=by rw[C9];trivial
       have Dc:(F.ups us).gens .L k=g':=by show((F.ups us).get .L k).g=g';rw[C9]
       have Y:=O.lblk k DJ
       rw[Dc]at Y
       refine⟨v,I,M2,rfl,FD O .nil,.inr ⟨cs,len,(X I F.gens).1,I .L k g',sz,cap,c,el,Y,o1,o2,o3,o5, ?_,o7,ee,xS,hlc,by simpa using hcx,hx,fun b G=>(X b G).2⟩⟩
       rcases Ik with rfl|Ik
       ·exact .inr fun i hi=>o6 i (Nat.zero_le _) hi
       ·exact .inl (by rw[Lm _ _ _ _ rfl];exact Ik)
      ·cases D
     ·cases D
    ·cases D
   ·cases D
end
theorem pure_call{P:Program}{E:Env}(V:pW P E)(J:P.follows .mixedOrders=true){m f:Nat}{af:ai}(W:E.fn f=some af)(X:af.eff=false)(Y:af.own=none){args:List T}{r:T}{N:List ah}(hc:cV E m f args []=some (r,N))(w:World)(D:Array Value)
  (H:PList w (fun _ _=>False) args D.toList):Calls P f D w fun e w'=> ∃cv,e= .returned cv∧RowKit.Below w.heap.size w w'∧PRel w' (fun _ _=>False) r cv:=by
 have O:=(IA V J m f af args [] r N W hc).1 Y
 rw[X]at O
 let β:aV:=fun _ _ _=>⟨0,0,0⟩
 have Z: ∀b,¬eQ [] β b:=by rintro b ⟨k,F,_⟩;simp[aE,aJ]at F;exact F.elim
 have xQ:bh ⟨w,fun _ _=>False,eQ [] β⟩ (bare .nil []) w β (fun _ _=>False):=by
  have e: ∀sp k,(bare .nil []).get sp k=fv:=by intro sp k;cases sp <;> simp[bare,St.get,aE,aJ,aB.get_nil]
  refine⟨fun sp k=> ?_,fun sp k dN k' U _ _=> ?_,fun _ _ h=>h.elim,fun k F=> ?_,fun k F=> ?_,rfl,rfl,rfl,Nat.le_refl _,fun _ _ _=>rfl,dX.refl _ _,fun _ _ _ _ J=>J⟩
  ·grind [ev,fv]
  ·rw[e]at U;exact U.elim
  ·rw[e]at F;exact F.elim
  ·rw[e]at F;exact F.elim
 refine(O w β _ D xQ H).mono ?_
 rintro e w' ⟨cv,bf,M',rfl,I,_,_,hr⟩
 refine⟨cv,rfl,⟨I.os,I.tape,I.output,I.size,fun b hb=>I.same b hb (Z b)⟩, ?_⟩
 exact PRel.mono (dz (fun _ _ h=>h.elim)) _ _ hr
end Go.Ev
namespace Go.Ev
open Go
inductive DE where
 |nil
 |nd (l:DE) (k:Nat) (v:ai) (r:DE)
def DE.find:DE→Nat→Option ai
 | .nil,_=>none
 | .nd l k v r,f=>bif Nat.beq f k then some v else bif Nat.ble f k then l.find f else r.find f
def DE.All(p:Nat→ai→Prop):DE→Prop
 | .nil=>True
 | .nd l k v r=>DE.All p l∧p k v∧DE.All p r
theorem DE.all_find{p:Nat→ai→Prop}{f:Nat}{v:ai}: ∀{t:DE},DE.All p t→t.find f=some v→p f v
 | .nil,_,h=>by simp[DE.find]at h
 | .nd l k u r,F,h=>by
   obtain⟨h1,h2,h3⟩:=F
   simp only[DE.find]at h
   cases D:Nat.beq f k with
   |true=>
    rw[D,cond_true]at h
    have:f=k:=Nat.eq_of_beq_eq_true D
    subst this
    cases h;exact h2
   |false=>
    rw[D,cond_false]at h
    cases hc:Nat.ble f k with
    |true=>rw[hc,cond_true]at h;exact DE.all_find h1 h
    |false=>rw[hc,cond_false]at h;exact DE.all_find h3 h
def Fj(P:Program)(f:Nat)(af:ai):Prop:= ∃hs r,P.funcs[f]? =some r∧DD P hs af.eff r=some af
theorem codeOk{P:Program}{f:Nat}{af:ai}{hs:List Nat}{r:Func}(h:P.funcs[f]? =some r)(k:DD P hs af.eff r=some af):Fj P f af:=⟨hs,r,h,k⟩
def ExtOk(P:Program)(f:Nat)(g:List T→Option T):Prop:=
 (∃F,P.funcs[f]? =some F∧(F.name== "runtime.NumGoroutine")=false∧F.body.isSome=true)∧
   ∀args r,g args=some r→ ∀(w:World) (M:aG) (D:Array Value),(∀b o,M b o→b<w.heap.size)→PList w M args D.toList→
    Calls P f D w fun e w'=> ∃cv,e= .returned cv∧RowKit.Below w.heap.size w w'∧PRel w' (fun b _=>b<w.heap.size) r cv
theorem at0{P:Program}{t:DE}{x:Nat→Option (List T→Option T)}{y:Nat→Option (List T→Option (List T×Option Nat))}(h:DE.All (Fj P) t)(hx: ∀f g,x f=some g→ExtOk P f g)
  (F: ∀f g,y f=some g→(∃r,P.funcs[f]? =some r∧(r.name== "runtime.NumGoroutine")=false∧r.body.isSome=true)∧awJ P f g):pW P ⟨t.find,x,y⟩:=
 ⟨fun f af H=>DE.all_find h H,fun f g _ D=>hx f g D,fun f g _ _ D=>F f g D⟩
noncomputable abbrev NN(E:Env)(m f:Nat)(args:List T)(sh:List ah):Option (T×List ah):=cV E m f args sh
theorem dh{E:Env}{m f:Nat}{args:List T}{sh:List ah}{r:Option (T×List ah)}(h:NN E m f args sh=r):cV E m f args sh=r:=h
end Go.Ev
