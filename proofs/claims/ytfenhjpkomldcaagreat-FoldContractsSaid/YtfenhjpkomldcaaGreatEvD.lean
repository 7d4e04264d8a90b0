/- A tree evaluator over the model, proved against it (part D): where it answers, the call returns that answer. Conditions: none beyond its theorems' own. -/
import Derived.Test.YtfenhjpkomldcaaGreatEvC
set_option linter.unusedSimpArgs false
set_option linter.unusedVariables false
namespace Go.Ev
open Go
def bare(fr:Fr)(sh:List aB):St:={fr,lh:= .nil,sh}
theorem uJ(fr:Fr)(sh:List aB)(k:Nat):(bare fr sh).get .L k=jj:=by simp[bare,St.get,dg,aZ,aQ.get_nil]
theorem acu(fr:Fr)(sh:List aB)(k:Nat):(bare fr sh).get .S k=dg sh k:=rfl
theorem dO.shared{β bB:bj}{G G':Sp→Nat→Nat}{w:World}{M:aM}{k:Nat}{e:aB}(sA: ∀n g,g≤G .S n→bB .S n g=β .S n g)(hG: ∀n,G .S n≤G' .S n)(hg:e.g≤G .S k)(h:dO β G w M .S k e):dO bB G' w M .S k e:=by
 unfold dO at h ⊢
 rw[sA k _ hg]
 obtain⟨g,ob⟩:=e
 cases ob with
 |none=>trivial
 |cells cs wm bx=>
  obtain⟨c,el,fz,h1,h2,h3,h4,h5,h6,h7⟩:=h
  refine⟨c,el,fz,h1,h2,h3,h4, ?_,h6,h7⟩
  cases bx
  ·exact h5
  ·exact qm.mono (dz.refl w M) sA hG h5
 |map ks vs fz=>exact h
theorem yk{B:eu}{st:St}{w:World}{β:bj}{M:aM}(h:bz B st w β M)(fr:Fr):bz B (bare fr st.sh) w β M:=by
 refine⟨fun sp k=> ?_,fun sp k cQ k' l1 l2 he=> ?_,h.mlt,fun k hl=> ?_,fun k hl=>h.sblk k hl,h.os,h.tape,h.output,h.size,h.same,h.keep,h.msup⟩
 ·cases sp with
  |L=>rw[uJ];unfold dO jj;trivial
  |S=>exact dO.shared (G:=st.gens) (β:=β) (fun _ _ _=>rfl) (fun _=>Nat.le_refl _) (Nat.le_refl _) (h.obj .S k)
 ·cases sp with
  |L=>rw[uJ]at l1;exact l1.elim
  |S=>
   cases cQ with
   |L=>rw[uJ]at l2;exact l2.elim
   |S=>exact h.dist .S k .S k' l1 l2 he
 ·rw[uJ]at hl;exact hl.elim
def dN(sh:List aB)(β:bj)(b:Nat):Prop:= ∃k,live (dg sh k)∧(β .S k (dg sh k).g).blk=b
theorem ME{B:eu}{st:St}{w:World}{β:bj}{M:aM}(h:bz B st w β M)(fr:Fr):bz ⟨w,M,dN st.sh β⟩ (bare fr st.sh) w β M:=by
 have hd:=yk h fr
 refine⟨hd.obj,hd.dist,h.mlt,fun k hl=> ?_,fun k hl=> .inl ⟨k,hl,rfl⟩,rfl,rfl,rfl,Nat.le_refl _,fun _ _ _=>rfl,dz.refl w M,fun _ _ _ _ hm=>hm⟩
 rw[uJ]at hl;exact hl.elim
theorem I6{B:eu}{st:St}{w:World}{β:bj}{M:aM}(h:bz B st w β M)(fr:Fr):bz ⟨w,M,fun _=>False⟩ (bare fr []) w β M:=by
 have e: ∀sp k,(bare fr []).get sp k=jj:=by intro sp k;cases sp <;> simp[bare,St.get,dg,aZ,aQ.get_nil]
 refine⟨fun sp k=> ?_,fun sp k cQ k' l1 _ _=> ?_,h.mlt,fun k hl=> ?_,fun k hl=> ?_,rfl,rfl,rfl,Nat.le_refl _,fun _ _ _=>rfl,dz.refl w M,fun _ _ _ _ hm=>hm⟩
 ·rw[e];unfold dO jj;trivial
 ·rw[e]at l1;exact l1.elim
 ·rw[e]at hl;exact hl.elim
 ·rw[e]at hl;exact hl.elim
theorem I7{B:eu}{st:St}{w w':World}{β:bj}{M:aM}(h:bz B st w β M)(hos:w'.os=w.os)(htp:w'.tape=w.tape)(FY:w'.output=w.output)(oI:w.heap.size≤w'.heap.size)(hb: ∀b,b<w.heap.size→w'.heap[b]? =w.heap[b]?):
  bz B st w' β M∧Tr st w β M st w' β M:=by
 have hk:dz w M w' M:=⟨fun b o v hv _=>by rw[ic (w:=w) (hb b (ql hv))];exact hv,fun b es c hv _=>by rw[hb b (gD hv)];exact hv,fun _ _ _ h=>h⟩
 refine⟨⟨fun sp k=> ?_,h.dist,fun b o hm=>Nat.lt_of_lt_of_le (h.mlt b o hm) oI,h.lblk,h.sblk,hos.trans h.os,htp.trans h.tape,FY.trans h.output,Nat.le_trans h.size oI,fun b h1 h2=>(hb b (Nat.lt_of_lt_of_le h1 h.size)).trans (h.same b h1 h2),h.keep.trans hk h.size,h.msup⟩,hk,fun _ _ _ _=>rfl,fun _ _=>Nat.le_refl _⟩
 exact dO.mono hk (fun _ _ _ _=>rfl) (fun _ _=>Nat.le_refl _) (Nat.le_refl _) (fun hl=>hb _ (h.lt hl)) (fun _ _ hm=>hm) (h.obj sp k)
theorem SZ{B:eu}{st:St}{w w':World}{β bB:bj}{M M':aM}{br:List aB}(h:bz B st w β M)(h':bz ⟨w,M,dN st.sh β⟩ (bare .nil br) w' bB M')(sA: ∀n g,g≤st.gens .S n→bB .S n g=β .S n g)(hG: ∀n,st.gens .S n≤(dg br n).g):
  bz B {st with sh:=br} w' (fun sp k g=>match sp with| .L=>β .L k g| .S=>bB .S k g) M'∧Tr st w β M {st with sh:=br} w' (fun sp k g=>match sp with| .L=>β .L k g| .S=>bB .S k g) M':=by
 have afc: ∀k,({st with sh:=br}:St).get .L k=st.get .L k:=fun k=>rfl
 have afd: ∀k,({st with sh:=br}:St).get .S k=dg br k:=fun k=>rfl
 have El: ∀sp k g,g≤st.gens sp k→(fun(sp:Sp) k g=>match sp with| .L=>β .L k g| .S=>bB .S k g:bj) sp k g=β sp k g:=by
  intro sp k g hle
  cases sp with
  |L=>rfl
  |S=>exact sA k g hle
 have En: ∀sp k,st.gens sp k≤({st with sh:=br}:St).gens sp k:=by
  intro sp k
  cases sp with
  |L=>exact Nat.le_refl _
  |S=>exact hG k
 have notS: ∀k,live (st.get .L k)→ ¬dN st.sh β (β .L k (st.gens .L k)).blk:=by
  rintro k hl ⟨k',Mh,he⟩
  have:=h.dist .S k' .L k Mh hl he
  cases this.1
 have sB: ∀b,dN st.sh β b→B.SB b∨B.w.heap.size≤b:=by
  rintro b ⟨k,hl,rfl⟩
  exact h.sblk k hl
 have Xc: ∀k,live (dg br k)→B.SB (bB .S k (dg br k).g).blk∨B.w.heap.size≤(bB .S k (dg br k).g).blk:=by
  intro k hl
  rcases h'.sblk k hl with e|e
  ·exact sB _ e
  ·exact .inr (Nat.le_trans h.size e)
 refine⟨⟨fun sp k=> ?_,fun sp k cQ k' l1 l2 he=> ?_,h'.mlt,fun k hl=>h.lblk k hl,fun k hl=>Xc k hl,h'.os.trans h.os,h'.tape.trans h.tape,h'.output.trans h.output,Nat.le_trans h.size h'.size,fun b h1 h2=> ?_,h.keep.trans h'.keep h.size,fun b o h1 h2 h3=> ?_⟩,h'.keep,El,En⟩
 ·cases sp with
  |L=>
   refine dO.mono h'.keep El En (Nat.le_refl _) (fun hl=> ?_) (fun hl o hm=> ?_) (h.obj .L k)
   ·exact h'.same _ (h.lt hl) (notS k hl)
   ·exact h'.msup _ o (h.lt hl) (notS k hl) hm
  |S=>exact dO.shared (G:=(bare .nil br).gens) (β:=bB) (fun _ _ _=>rfl) (fun _=>Nat.le_refl _) (Nat.le_refl _) (h'.obj .S k)
 ·cases sp with
  |L=>
   cases cQ with
   |L=>exact h.dist .L k .L k' l1 l2 he
   |S=>
    exfalso
    have MA:(β .L k (st.gens .L k)).blk=(bB .S k' (dg br k').g).blk:=he
    rcases h'.sblk k' l2 with e|e
    ·exact notS k l1 (by rw[MA];exact e)
    ·have:=h.lt (sp:= .L) (k:=k) l1
     have e':w.heap.size≤(bB .S k' (dg br k').g).blk:=e
     omega
  |S=>
   cases cQ with
   |L=>
    exfalso
    have MA:(bB .S k (dg br k).g).blk=(β .L k' (st.gens .L k')).blk:=he
    rcases h'.sblk k l1 with e|e
    ·exact notS k' l2 (by rw[←MA];exact e)
    ·have:=h.lt (sp:= .L) (k:=k') l2
     have e':w.heap.size≤(bB .S k (dg br k).g).blk:=e
     omega
   |S=>exact h'.dist .S k .S k' l1 l2 he
 ·have hn: ¬dN st.sh β b:=fun hs=>by
   rcases sB b hs with e|e
   ·exact h2 e
   ·omega
  exact(h'.same b (Nat.lt_of_lt_of_le h1 h.size) hn).trans (h.same b h1 h2)
 ·have hn: ¬dN st.sh β b:=fun hs=>by
   rcases sB b hs with e|e
   ·exact h2 e
   ·omega
  exact h'.msup b o (Nat.lt_of_lt_of_le h1 h.size) hn (h.msup b o h1 h2 h3)
def AA(M:aM)(S:Ai):aM:=fun b x=>M b x∨(b=S.blk∧S.off≤x∧x<S.off+S.ext)
theorem S0{B:eu}{st:St}{w w':World}{β:bj}{M:aM}(h:bz B st w β M)(hos:w'.os=w.os)(htp:w'.tape=w.tape)(FY:w'.output=w.output)(oI:w.heap.size≤w'.heap.size)(ZQ: ∀b,b<w.heap.size→w'.heap[b]? =w.heap[b]?)
  (k g:Nat) (hg:st.gens .L k<g) (S:Ai) (hS:w.heap.size≤S.blk) (hS2:S.blk<w'.heap.size) (ob:Ob)
  (ho:dO (gh β .L k g S) (st.up (.L,k,⟨g,ob⟩)).gens w' (AA M S) .L k ⟨g,ob⟩):
  bz B (st.up (.L,k,⟨g,ob⟩)) w' (gh β .L k g S) (AA M S)∧Tr st w β M (st.up (.L,k,⟨g,ob⟩)) w' (gh β .L k g S) (AA M S):=by
 have hk:dz w M w' (AA M S):=⟨fun b o v hv _=>by rw[ic (w:=w) (ZQ b (ql hv))];exact hv,fun b es c hv _=>by rw[ZQ b (gD hv)];exact hv,fun b x hb hm=>hm.resolve_right (fun e=>by have:=e.1;omega)⟩
 have hb: ∀cQ k' g',g'≤st.gens cQ k'→gh β .L k g S cQ k' g'=β cQ k' g':=by
  intro cQ k' g' hle
  refine qn _ _ _ _ _ ?_
  rintro⟨rfl,rfl,rfl⟩
  omega
 have hG: ∀cQ k',st.gens cQ k'≤(st.up (.L,k,⟨g,ob⟩)).gens cQ k':=by
  intro cQ k'
  rw[ef]
  split
  ·rename_i e;obtain⟨rfl,rfl⟩:=e;exact Nat.le_of_lt hg
  ·exact Nat.le_refl _
 have lp: ∀cQ k',(gh β .L k g S cQ k' ((st.up (.L,k,⟨g,ob⟩)).gens cQ k'))=if cQ= .L∧k'=k then S else β cQ k' (st.gens cQ k'):=by
  intro cQ k'
  rw[ef]
  split
  ·rename_i e;obtain⟨rfl,rfl⟩:=e;exact cD _ _ _ _ _
  ·exact hb _ _ _ (Nat.le_refl _)
 refine⟨⟨fun cQ k'=> ?_,fun ZI k1 ZJ k2 l1 l2 he=> ?_,fun b x hm=> ?_,fun k' hl=> ?_,fun k' hl=> ?_,hos.trans h.os,htp.trans h.tape,FY.trans h.output,Nat.le_trans h.size oI,fun b hb hn=> ?_,h.keep.trans hk h.size,fun b x h1 h2 h3=> .inl (h.msup b x h1 h2 h3)⟩,hk,hb,hG⟩
 ·rw[dW]
  split
  ·rename_i e;obtain⟨rfl,rfl⟩:=e;exact ho
  ·exact dO.mono hk hb hG (Nat.le_refl _) (fun hl=>ZQ _ (h.lt hl)) (fun _ _ hm=> .inl hm) (h.obj cQ k')
 ·rw[lp,lp]at he
  rw[dW]at l1 l2
  by_cases e1:ZI= .L∧k1=k <;> by_cases e2:ZJ= .L∧k2=k
  ·exact⟨e1.1.trans e2.1.symm,e1.2.trans e2.2.symm⟩
  ·rw[if_pos e1,if_neg e2]at he;rw[if_neg e2]at l2
   have:=h.lt l2;omega
  ·rw[if_neg e1,if_pos e2]at he;rw[if_neg e1]at l1
   have:=h.lt l1;omega
  ·rw[if_neg e1,if_neg e2]at he;rw[if_neg e1]at l1;rw[if_neg e2]at l2
   exact h.dist _ _ _ _ l1 l2 he
 ·rcases hm with hm|hm
  ·exact Nat.lt_of_lt_of_le (h.mlt b x hm) oI
  ·rw[hm.1];exact hS2
 ·rw[lp];rw[dW]at hl
  split
  ·exact Nat.le_trans h.size hS
  ·rename_i e;rw[if_neg e]at hl;exact h.lblk k' hl
 ·rw[lp];rw[dW]at hl
  rw[if_neg (by rintro⟨e,_⟩;cases e)]at hl ⊢
  exact h.sblk k' hl
 ·have:=h.size
  rw[ZQ b (by omega)];exact h.same b hb hn
theorem xb{w w':World}{M M':aM}: ∀{cs:List T} {vs:List Value},cs.all uu=true→PList w M cs vs→PList w' M' cs vs
 | [],vs,_,h=>by simpa only[PList]using h
 |t::ts,vs,hs,h=>by
  simp only[List.all_cons,Bool.and_eq_true]at hs
  simp only[PList]at h ⊢
  obtain⟨u,us,rfl,h1,h2⟩:=h
  refine⟨u,us,rfl, ?_,xb hs.2 h2⟩
  have ht:=hs.1
  cases t <;> simp[uu]at ht <;> simpa only[PRel]using h1
def I8:Value→Nat→Option Value
 | .tuple a,j=>a[j]?
 | .agg a,j=>a[j]?
 |v,_=>some v
def nF:Value→Nat→Value→Value
 | .tuple a,j,x=> .tuple (a.setIfInBounds j x)
 | .agg a,j,x=> .agg (a.setIfInBounds j x)
 |_,_,x=>x
abbrev rO:Value:= .slice none 0 0
section
variable{β:bj}{G:Sp→Nat→Nat}{w:World}{M:aM}
theorem aA.set: ∀{ts:List T} {vs:List Value} (j:Nat) {t:T} {v:Value},aA β G w M ts vs→aw β G w M t v→aA β G w M (ts.set j t) (vs.set j v)
 | [],vs,j,t,v,h,_=>by simp only[aA]at h;subst h;simp[aA]
 |t::ts,vs,0,t',v',h,h'=>by
  simp only[aA]at h;obtain⟨u,us,rfl,h1,h2⟩:=h
  simp only[List.set_cons_zero,aA]
  exact⟨_,_,rfl,h',h2⟩
 |t::ts,vs,j+1,t',v',h,h'=>by
  simp only[aA]at h;obtain⟨u,us,rfl,h1,h2⟩:=h
  simp only[List.set_cons_succ,aA]
  exact⟨_,_,rfl,h1,aA.set j h2 h'⟩
theorem yl{cs:List T}{j:Nat}{t:T}(h:cs.all single=true)(ht:single t=true):(cs.set j t).all single=true:=by
 rw[List.all_eq_true]at h ⊢
 intro x hx
 rcases List.mem_or_eq_of_mem_set hx with h1|h1
 ·exact h x h1
 ·rw[h1];exact ht
theorem CA{cs:List T}{j:Nat}{t u:T}(h:(cs.set j u).all single=true)(ht:single t=true):(cs.set j t).all single=true:=by
 have:=yl (j:=j) h ht
 rwa [List.set_set]at this
theorem I9{r y t:T}{v u:Value}{j:Nat}(h:aw β G w M r v)(hj:fw r j=some y)(ht:aw β G w M t u)(hs:single t=true):
  (∃x,I8 v j=some x∧aw β G w M y x)∧aw β G w M (bw r j t) (nF v j u):=by
 cases r
 case tup vs=>
  simp only[aw]at h;obtain⟨a,rfl,hl⟩:=h
  simp only[fw]at hj
  obtain⟨x,h1,h2⟩:=hl.get hj
  refine⟨⟨x,by simpa[I8]using h1,h2⟩, ?_⟩
  simp only[bw,nF,aw]
  exact⟨_,rfl,by simpa using aA.set j hl ht⟩
 case agg cs=>
  simp only[aw]at h;obtain⟨a,rfl,hl,Xd⟩:=h
  simp only[fw]at hj
  obtain⟨x,h1,h2⟩:=hl.get hj
  refine⟨⟨x,by simpa[I8]using h1,h2⟩, ?_⟩
  simp only[bw,nF,aw]
  exact⟨_,rfl,by simpa using aA.set j hl ht,yl Xd hs⟩
 all_goals
  simp only[fw,Option.some.injEq]at hj;subst hj
  refine⟨⟨v, ?_,h⟩, ?_⟩
  ·simp only[aw,PRel]at h
   first
    |(subst h;rfl)
    |(obtain⟨_,rfl,_⟩:=h;rfl)
    |(obtain⟨_,_,rfl,_⟩:=h;rfl)
    |(obtain⟨_,_,_,rfl,_⟩:=h;rfl)
    |(obtain⟨_,_,_,_,rfl,_⟩:=h;rfl)
    |(obtain⟨_,rfl⟩:=h;rfl)
  ·simp only[aw,PRel]at h
   first
    |(subst h;exact ht)
    |(obtain⟨_,rfl,_⟩:=h;exact ht)
    |(obtain⟨_,_,rfl,_⟩:=h;exact ht)
    |(obtain⟨_,_,_,rfl,_⟩:=h;exact ht)
    |(obtain⟨_,_,_,_,rfl,_⟩:=h;exact ht)
    |(obtain⟨_,rfl⟩:=h;exact ht)
theorem AB{a:Array Value}{j:Nat}{x y:Value}(h:a[j]? =some x):(a.toList.set j y).set j x=a.toList:=by
 rw[List.set_set]
 have h':a.toList[j]? =some x:=by simpa using h
 obtain⟨hl,he⟩:=List.getElem?_eq_some_iff.1 h'
 rw[←he];exact List.set_getElem_self hl
theorem uK{v:Value}{j:Nat}(h: ∀a,nF v j rO≠ .tuple a)(h': ∀a,nF v j rO≠ .agg a):nF v j rO=rO∧I8 v j=some v:=by
 cases v <;> first|exact⟨rfl,rfl⟩|exact absurd rfl (h _)|exact absurd rfl (h' _)
theorem MF{r t:T}{cv x:Value}{j:Nat}(h:aw β G w M (bw r j .nilsl) (nF cv j rO))(hx:I8 cv j=some x)(ht:aw β G w M t x)(hs:single t=true):aw β G w M (bw r j t) cv:=by
 cases r
 case tup vs=>
  simp only[bw,aw]at h ⊢
  obtain⟨a,ha,hl⟩:=h
  cases cv <;> simp[nF]at ha
  rename_i a0
  subst ha
  simp only[I8]at hx
  refine⟨a0,rfl, ?_⟩
  have:=aA.set j hl ht
  rw[List.set_set,Array.toList_setIfInBounds,AB hx]at this
  exact this
 case agg cs=>
  simp only[bw,aw]at h ⊢
  obtain⟨a,ha,hl,Xd⟩:=h
  cases cv <;> simp[nF]at ha
  rename_i a0
  subst ha
  simp only[I8]at hx
  refine⟨a0,rfl, ?_,CA Xd hs⟩
  have:=aA.set j hl ht
  rw[List.set_set,Array.toList_setIfInBounds,AB hx]at this
  exact this
 all_goals
  simp only[bw,aw]at h ⊢
  obtain⟨h1,h2⟩:=uK (v:=cv) (j:=j) (fun a e=>by rw[e]at h;cases h) (fun a e=>by rw[e]at h;cases h)
  rw[h2]at hx
  cases hx
  exact ht
theorem Ja{p:T}{v x:Value}{j:Nat}{cs:List T}{len:Nat}{ex:Bool}(h:aw β G w M p (nF v j rO))(hx:I8 v j=some x):
  fw (bw p j (.sl cs len ex)) j=some (.sl cs len ex)∧aw β G w M (bw (bw p j (.sl cs len ex)) j .nilsl) (nF v j rO):=by
 have hn:aw β G w M .nilsl rO:=by simp only[aw]
 cases p
 case tup vs=>
  simp only[aw]at h
  obtain⟨a,ha,hl⟩:=h
  cases v <;> simp[nF]at ha
  rename_i a0
  subst ha
  simp only[I8]at hx
  have zB:=aA.length _ _ hl
  simp at zB
  obtain⟨hj,_⟩:=Array.getElem?_eq_some_iff.1 hx
  refine⟨by simp only[bw,fw];rw[List.getElem?_set_self (by omega)], ?_⟩
  simp only[bw,nF,aw,List.set_set]
  refine⟨_,rfl, ?_⟩
  have:=aA.set j hl hn
  rw[Array.toList_setIfInBounds,List.set_set]at this
  rw[Array.toList_setIfInBounds];exact this
 case agg vs=>
  simp only[aw]at h
  obtain⟨a,ha,hl,Xd⟩:=h
  cases v <;> simp[nF]at ha
  rename_i a0
  subst ha
  simp only[I8]at hx
  have zB:=aA.length _ _ hl
  simp at zB
  obtain⟨hj,_⟩:=Array.getElem?_eq_some_iff.1 hx
  refine⟨by simp only[bw,fw];rw[List.getElem?_set_self (by omega)], ?_⟩
  simp only[bw,nF,aw,List.set_set]
  refine⟨_,rfl, ?_,yl Xd rfl⟩
  have:=aA.set j hl hn
  rw[Array.toList_setIfInBounds,List.set_set]at this
  rw[Array.toList_setIfInBounds];exact this
 all_goals
  refine⟨rfl, ?_⟩
  simp only[bw]
  have hp:nF v j rO=rO:=by
   refine(uK (v:=v) (j:=j) (fun a e=> ?_) (fun a e=> ?_)).1
   all_goals
    rw[e]at h
    simp only[aw,PRel]at h
    first
     |(cases h;done)
     |(obtain⟨_,h,_⟩:=h;cases h;done)
     |(obtain⟨_,_,h,_⟩:=h;cases h;done)
     |(obtain⟨_,_,_,h,_⟩:=h;cases h;done)
     |(obtain⟨_,_,_,_,h,_⟩:=h;cases h;done)
     |(obtain⟨_,h⟩:=h;cases h;done)
  rw[hp];exact hn
end
def Jb(P:Program)(f:Nat)(eff:Bool)(args:List T)(sh:List aB)(r:T)(br:List aB):Prop:=
 ∀(w:World) (β:bj) (M:aM) (ch:Array Value),bz ⟨w,M,dN sh β⟩ (bare .nil sh) w β M→ig eff β (bare .nil sh).gens w M args ch.toList→
  Calls P f ch w fun e w'=> ∃cv bB M',e= .returned cv∧bz ⟨w,M,dN sh β⟩ (bare .nil br) w' bB M'∧(∀n g,g≤(dg sh n).g→bB .S n g=β .S n g)∧(∀n,(dg sh n).g≤(dg br n).g)∧mS eff bB (bare .nil br).gens w' M' r cv
theorem CB(p x y:T)(j:Nat)(h:single x=true):bw (bw p j x) j y=bw p j y:=by
 cases p <;> try (simp only[bw,List.set_set];done)
 all_goals (simp only[bw];cases x <;> first|rfl|cases h)
def Xe(w w':World)(M:aM)(r:T)(j:Nat)(cs:List T)(len:Nat)(cv:Value):Prop:=
 ∃(S:Ai) (sz cap:Nat) (c:Array Value) (el:TypeId),w.heap.size≤S.blk∧w'.heap[S.blk]? =some (.cells c el (0,0))∧S.off+S.ext≤c.size∧cs.length≤S.ext∧PList w' M cs ((c.toList.drop S.off).take cs.length)∧(scalar (bw r j .nilsl)=true∨ ∀i,i<S.ext→M S.blk (S.off+i))∧
  cs.all single=true∧cs.length=len*sz∧len≠0∧len≤cap∧cap*sz≤S.ext∧I8 cv j=some (.slice (some ⟨S.blk,S.off,none⟩) len cap)∧ ∀β G,aw β G w' M (bw r j .nilsl) (nF cv j rO)
def FZ(P:Program)(f:Nat)(args:List T)(sh:List aB)(j:Nat)(r:T)(br:List aB):Prop:=
 ∀(w:World) (β:bj) (M:aM) (ch:Array Value),bz ⟨w,M,dN sh β⟩ (bare .nil sh) w β M→ig false β (bare .nil sh).gens w M args ch.toList→
  Calls P f ch w fun e w'=> ∃cv bB M',e= .returned cv∧bz ⟨w,M,dN sh β⟩ (bare .nil br) w' bB M'∧
   ((fw r j=some .nilsl∧PRel w' M' r cv)∨ ∃cs len,fw r j=some (.sl cs len false)∧Xe w w' M' r j cs len cv)
def nR(P:Program)(E:Env):Prop:=
 (∀f af,E.fn f=some af→ ∃hs fn,P.funcs[f]? =some fn∧Ah P hs af.eff fn=some af)∧
 (∀f g,E.fn f=none→E.ext f=some g→(∃fn,P.funcs[f]? =some fn∧(fn.name== "runtime.NumGoroutine")=false∧fn.body.isSome=true)∧
   ∀args r,g args=some r→ ∀(w:World) (M:aM) (ch:Array Value),(∀b o,M b o→b<w.heap.size)→PList w M args ch.toList→
    Calls P f ch w fun e w'=> ∃cv,e= .returned cv∧RowKit.Below w.heap.size w w'∧PRel w' (fun b _=>b<w.heap.size) r cv)
def sJ(P:Program)(E:Env)(call:lj):Prop:= ∀f af args sh r br,E.fn f=some af→call f args sh=some (r,br)→(af.own=none→Jb P f af.eff args sh r br)∧(∀j,af.own=some j→af.eff=false∧FZ P f args sh j r br)
theorem uL{st bD:St}{a:Act}{w w':World}{β bB:bj}{M M':aM}{n:Nat}{d:Option Nat}{v:T}{cv:Value}{fr:Fr}(hf:lO st a w β M n)(ht:Tr st w β M bD w' bB M')(zC:fS st.fr n d v=some fr)(hv:aw bB bD.gens w' M' v cv):
  lO {bD with fr} (a.put d cv) w' bB M' n:=by
 cases d with
 |none=>
  simp[fS]at zC;subst zC
  exact⟨hf.size,hf.defers,fun t=>ht.val (hf.slot t)⟩
 |some d=>
  simp only[fS]at zC
  split at zC
  ·rename_i hd
   simp at zC;subst zC
   refine⟨by simp[Act.put,hf.size],hf.defers,fun t=> ?_⟩
   have e1:ak (dp st.fr d v) t=if t=d then v else ak st.fr t:=j5 st.fr d v t
   have e2:(a.put (some d) cv).tmps.getD t undef=if t=d then cv else a.tmps.getD t undef:=by
    simp only[Act.put,Array.getD_eq_getD_getElem?,Array.getElem?_setIfInBounds]
    by_cases htd:d=t
    ·subst htd;rw[if_pos rfl,if_pos (by rw[hf.size];exact hd),if_pos rfl];rfl
    ·rw[if_neg htd,if_neg (fun e=>htd e.symm)]
   show aw bB bD.gens w' M' (ak (dp st.fr d v) t) _
   rw[e1,e2]
   split
   ·exact hv
   ·exact ht.val (hf.slot t)
  ·cases zC
end Go.Ev
namespace Go.Ev
open Go
theorem MG{B:eu}{st:St}{w:World}{β:bj}{M:aM}(h:bz B st w β M)(fr:Fr):bz B {st with fr} w β M:=
 ⟨h.obj,h.dist,h.mlt,h.lblk,h.sblk,h.os,h.tape,h.output,h.size,h.same,h.keep,h.msup⟩
theorem Tr.fr{st bD:St}{w w':World}{β bB:bj}{M M':aM}(h:Tr st w β M bD w' bB M')(fr:Fr):Tr st w β M {bD with fr} w' bB M':=⟨h.keep,h.beta,h.gens⟩
theorem CC{w w':World}{M M':aM}{r:T}{cv:Value}(hs:scalar r=true)(h:PRel w M r cv):PRel w' M' r cv:=by
 cases r <;> simp[scalar]at hs
 case tup vs=>
  simp only[PRel]at h ⊢
  obtain⟨a,rfl,hl⟩:=h
  refine⟨a,rfl, ?_⟩
  generalize a.toList=l at hl
  induction vs generalizing l with
  |nil=>simpa only[PList]using hl
  |cons t ts ih=>
   simp only[PList]at hl ⊢
   obtain⟨u,us,rfl,h1,h2⟩:=hl
   have ht:=hs t (by simp)
   refine⟨u,us,rfl, ?_,ih (fun x hx=>hs x (by simp[hx])) us h2⟩
   cases t <;> simp at ht <;> simpa only[PRel]using h1
 all_goals simpa only[PRel]using h
theorem AD{β bB:bj}{G G':Sp→Nat→Nat}{w w':World}{M M':aM}{r:T}{cv:Value}(hs:scalar r=true)(h:aw β G w M r cv):aw bB G' w' M' r cv:=by
 cases r <;> simp[scalar]at hs
 case tup vs=>
  simp only[aw]at h ⊢
  obtain⟨a,rfl,hl⟩:=h
  refine⟨a,rfl, ?_⟩
  generalize a.toList=l at hl
  induction vs generalizing l with
  |nil=>simpa only[aA]using hl
  |cons t ts ih=>
   simp only[aA]at hl ⊢
   obtain⟨u,us,rfl,h1,h2⟩:=hl
   have ht:=hs t (by simp)
   refine⟨u,us,rfl, ?_,ih (fun x hx=>hs x (by simp[hx])) us h2⟩
   cases t <;> simp at ht <;> simpa only[aw]using h1
 all_goals simpa only[aw]using h
section
variable{P:Program}{E:Env}{call:lj}{B:eu}{st:St}{a:Act}{w:World}{β:bj}{M:aM}{o:Oper}
theorem qG{f:Nat}{fn:Func}(hf:P.funcs[f]? =some fn)(hn:(fn.name== "runtime.NumGoroutine")=false)(hb:fn.body.isSome=true)(ch:Array Value)(w:World):(callFunc f ch).run P w= .ok (.enter f ch) w:=by
 have h1: ¬fn.name= "runtime.NumGoroutine" :=by simpa using hn
 have h2: ¬fn.body=none:=by intro e;rw[e]at hb;simp at hb
 simp[callFunc,hf,h1,h2]
theorem F0(cI:jS β st.gens w M st.rho a.eval){c:Call}(ho:o.op= .call c){sh:Nat}{Az:nu}(hc:mf P sh c=some Az){f:Nat}{targs:List T}(hq:bI st.rho Az=some (some (f,targs))):
  ∃ch:Array Value,(execOp a.eval o).run P w=(callFunc f ch).run P w∧aA β st.gens w M targs ch.toList:=by
 unfold mf at hc
 split at hc
 ·rename_i f' S1
  simp only[Option.map_eq_some_iff]at hc
  obtain⟨as,h1,rfl⟩:=hc
  simp[bI]at hq
  obtain⟨rfl,rfl⟩:=hq
  refine⟨c.args.map a.eval, ?_,by simpa using oG cI h1⟩
  simp[execOp,ho,resolve,S1,Deferred.ofValue,Act.eval,invoke]
 ·rename_i x ev S1
  split at hc
  ·rename_i y as h1 h2
   simp at hc;subst hc
   simp only[bI,Option.some.injEq]at hq
   split at hq
   ·rename_i f' fa fc e
    simp at hq
    obtain⟨rfl,rfl⟩:=hq
    have vx:=cI x y h1
    rw[e]at vx
    simp only[aw]at vx
    obtain⟨va,vc,e1,l1,l2⟩:=vx
    refine⟨va++c.args.map a.eval++vc, ?_, ?_⟩
    ·simp[execOp,ho,resolve,S1,e1,Deferred.ofValue,invoke]
    ·have:=aA.append (aA.append l1 (oG cI h2)) l2
     simpa using this
   ·simp at hq
  ·cases hc
 all_goals
  exfalso
  revert hq
  try (simp only[Option.map_eq_some_iff]at hc;obtain⟨as,h1,rfl⟩:=hc;simp[bI];done)
  try (cases hc;done)
 ·split at hc
  ·split at hc <;> simp at hc <;> subst hc <;> simp[bI]
  ·cases hc
 ·split at hc
  ·split at hc
   ·split at hc
    ·split at hc
     ·split at hc
      ·split at hc
       ·simp at hc;subst hc;simp[bI]
       ·cases hc
      ·cases hc
     ·cases hc
    ·split at hc
     ·split at hc
      ·split at hc
       ·simp at hc;subst hc;simp[bI]
       ·cases hc
      ·cases hc
     ·cases hc
    ·cases hc
   ·cases hc
  ·cases hc
theorem F1{sh:Nat}{op:Op}{Az:nu}{ρ:bq→T}{x:Option (Nat×List T)}(h:cJ P sh op=some Az)(hc:bI ρ Az=some x): ∃c,op= .call c∧mf P sh c=some Az:=by
 cases op with
 |call c=>exact⟨c,rfl,h⟩
 |makeFunc fn first cap=>
  exfalso
  cases fn <;> simp only[cJ]at h <;> try (cases h;done)
  split at h
  ·simp at h;subst h;simp[bI]at hc
  ·cases h
 |makeMap t r=>
  exfalso
  cases r <;> simp only[cJ]at h
  ·simp at h;subst h;simp[bI]at hc
  ·cases h
 |_=>
  exfalso
  revert hc
  simp only[cJ]at h
  repeat' split at h
  all_goals first
   |(cases h;done)
   |(simp only[Option.map_eq_some_iff]at h;obtain⟨_,_,rfl⟩:=h;simp[bI];done)
   |(simp at h;subst h;simp[bI];done)
   |(simp at h;done)
theorem F2(hE:nR P E)(hO:sJ P E call)(h:bz B st w β M){f:Nat}{targs:List T}{ch:Array Value}(hv:aA β st.gens w M targs ch.toList){r:T}{zD:St}{d:Nat}(hd:ar E call d st f targs=some (r,zD)):
  (callFunc f ch).run P w= .ok (.enter f ch) w∧zD.fr=st.fr∧
  Calls P f ch w fun e w'=> ∃cv bB M',e= .returned cv∧bz B zD w' bB M'∧Tr st w β M zD w' bB M'∧w.heap.size≤w'.heap.size∧aw bB zD.gens w' M' r cv:=by
 unfold ar at hd
 split at hd
 ·rename_i af uM
  obtain⟨hs,fn,hf,pW⟩:=hE.1 f af uM
  have hnb:(fn.name== "runtime.NumGoroutine")=false∧fn.body.isSome=true:=by
   unfold Ah at pW
   split at pW
   ·cases pW
   ·rename_i hn
    refine⟨by simpa using hn, ?_⟩
    split at pW
    ·cases pW
    ·rename_i e;rw[e];rfl
  refine⟨qG hf hnb.1 hnb.2 _ _, ?_⟩
  split at hd
  ·rename_i q hq
   obtain⟨ts,us⟩:=q
   obtain⟨M1,q1,q2,q3,q4,q5,q6⟩:=jc (fun t=>sD af.eff st aU t) targs B st w β M _ ts us _ (Fz.refl st) h hv hq
   split at hd
   ·rename_i mV
    simp only[Option.map_eq_some_iff]at hd
    obtain⟨⟨r',br⟩,az,hd⟩:=hd
    simp at hd
    obtain⟨rfl,rfl⟩:=hd
    refine⟨yg st us, ?_⟩
    have pe:af.own=none:=by
     cases ho:af.own with
     |none=>rfl
     |some j=>rw[((hO f af ts (st.ups us).sh r' br uM az).2 j ho).1]at mV;cases mV
    have pJ:=(hO f af ts (st.ups us).sh r' br uM az).1 pe
    rw[mV]at q4 pJ
    have hx:ig true β (bare .nil (st.ups us).sh).gens w M1 ts ch.toList:=by
     intro bB G' p1 p2
     refine q4 bB G' (fun k g hg=>p1 k g ?_) (fun k=>Nat.le_trans (Nat.le_of_eq ?_) (p2 k))
     ·have:(bare .nil (st.ups us).sh).gens .S k=(st.ups us).gens .S k:=rfl
      rw[this,q2.gens];exact hg
     ·have:(bare .nil (st.ups us).sh).gens .S k=(st.ups us).gens .S k:=rfl
      rw[this,q2.gens]
    refine(pJ w β M1 ch (ME q1 .nil) hx).mono ?_
    rintro e w' ⟨cv,bB,M',rfl,h',sA,hG,hr⟩
    obtain⟨b1,b2⟩:=SZ q1 h' sA hG
    refine⟨cv,_,M',rfl,b1,(Tr.fz q2 q3).trans b2 (Nat.le_refl _),h'.size, ?_⟩
    exact hr _ _ (fun _ _ _=>rfl) (fun _=>Nat.le_refl _)
   ·rename_i mV
    simp at mV
    split at hd
    ·rename_i r0 az
     obtain⟨r',br⟩:=r0
     rw[mV]at q4
     have fh: ∀b,¬dN [] β b:=by rintro b ⟨k,hl,_⟩;simp[dg,aZ]at hl;exact hl.elim
     have tq:bz ⟨w,M1,dN [] β⟩ (bare .nil []) w β M1:=by
      have h0:=I6 q1 .nil
      exact⟨h0.obj,h0.dist,h0.mlt,fun k hl=>h0.lblk k hl,fun k hl=>(h0.sblk k hl).imp (fun e=>e.elim) id,rfl,rfl,rfl,Nat.le_refl _,fun _ _ _=>rfl,dz.refl w M1,fun _ _ _ _ hm=>hm⟩
     have plain: ∀(w':World) (cv:Value) (bB:bj) (M':aM) (F3:St),F3=(if scalar r'=true then st else st.ups us)→bz ⟨w,M1,dN [] β⟩ (bare .nil br) w' bB M'→PRel w' M' r' cv→
       ∃Xf bB M',Ending.returned cv= .returned Xf∧bz B F3 w' bB M'∧Tr st w β M F3 w' bB M'∧w.heap.size≤w'.heap.size∧aw bB F3.gens w' M' r' Xf:=by
      intro w' cv bB M' F3 ym h' hr'
      have hold:=fun b (hb:b<w.heap.size)=>h'.same b hb (fh b)
      by_cases jx:scalar r'=true
      ·rw[if_pos jx]at ym;subst ym
       obtain⟨o1,o2⟩:=I7 h h'.os h'.tape h'.output h'.size hold
       exact⟨cv,β,M,rfl,o1,o2,h'.size,PRel.toV _ _ _ _ (CC jx hr')⟩
      ·rw[if_neg jx]at ym;subst ym
       obtain⟨o1,o2⟩:=I7 q1 h'.os h'.tape h'.output h'.size hold
       refine⟨cv,β,M1,rfl,o1,(Tr.fz q2 q3).trans o2 (Nat.le_refl _),h'.size,PRel.toV _ _ _ _ (PRel.mono (dc ?_) _ _ hr')⟩
       intro b x hm
       have hb:=q1.mlt b x hm
       exact h'.msup b x hb (fh b) hm
     cases pe:af.own with
     |none=>
      simp only[pe]at hd
      simp at hd
      obtain⟨rfl,ym⟩:=hd
      have pJ:=(hO f af ts [] r' br uM az).1 pe
      rw[mV]at pJ
      have S2:zD.fr=st.fr:=by rw[←ym];split;rfl;exact yg st us
      refine⟨S2,(pJ w β M1 ch tq q4).mono ?_⟩
      rintro e w' ⟨cv,bB,M',rfl,h',sA,hG,hr⟩
      exact plain w' cv bB M' zD ym.symm h' hr
     |some j=>
      simp only[pe]at hd
      have pJ:=((hO f af ts [] r' br uM az).2 j pe).2
      unfold jO at hd
      have S2:zD.fr=st.fr:=by
       split at hd
       ·simp at hd;obtain⟨_,rfl⟩:=hd;split;rfl;exact yg st us
       ·split at hd
        ·simp at hd;obtain⟨_,rfl⟩:=hd;show(ite _ _ _:St).fr=_;split;rfl;exact yg st us
        ·cases hd
       ·cases hd
      refine⟨S2,(pJ w β M1 ch tq q4).mono ?_⟩
      rintro e w' ⟨cv,bB,M',rfl,h',hr⟩
      rcases hr with⟨hc,hr⟩|⟨cs,len,hc,S,sz,cap,c,el,s1,s2,s3,s4,s5,s6,s7,s8,s9,s10,s11,s12,s13⟩
      ·rw[hc]at hd
       simp at hd;obtain⟨rfl,ym⟩:=hd
       exact plain w' cv bB M' zD ym.symm h' hr
      ·rw[hc]at hd
       simp only at hd
       split at hd
       ·rename_i jo
        have oI:cs.length/len=sz:=by rw[s8];exact Nat.mul_div_cancel_left _ (Nat.pos_of_ne_zero s9)
        rw[oI]at hd
        have hold:=fun b (hb:b<w.heap.size)=>h'.same b hb (fh b)
        have fin: ∀(F3:St) (M3:aM),bz B F3 w β M3→Tr st w β M F3 w β M3→(∀β G,aw β G w' (AA M3 S) (bw r' j .nilsl) (nF cv j rO))→
          some (bw r' j (.isl .L d ((F3.get .L d).g+1) 0 len sz),F3.up (.L,d,⟨(F3.get .L d).g+1,.cells cs 0 false⟩))=some (r,zD)→
          ∃Xf bB M',Ending.returned cv= .returned Xf∧bz B zD w' bB M'∧Tr st w β M zD w' bB M'∧w.heap.size≤w'.heap.size∧aw bB zD.gens w' M' r Xf:=by
         intro F3 M3 h3 t3 hv3 hd
         simp only[Option.some.injEq,Prod.mk.injEq]at hd
         obtain⟨rfl,rfl⟩:=hd
         obtain⟨o1,o2⟩:=S0 h3 h'.os h'.tape h'.output h'.size hold d ((F3.get .L d).g+1) (Nat.lt_succ_self _) S s1 (gD s2) (.cells cs 0 false) (by
          unfold dO
          simp only[cD]
          exact⟨c,el,(0,0),s2,s3,s4,rfl,xb jo.1 s5,fun i _ hi=> .inr ⟨rfl,by omega,by omega⟩,s7,Nat.zero_le _⟩)
         refine⟨cv,_,_,rfl,o1,t3.trans o2 (Nat.le_refl _),h'.size,MF (hv3 _ _) s12 ?_ rfl⟩
         simp only[aw]
         rw[cD]
         exact⟨by simp[ef],cap,rfl,s10,by simpa using s11⟩
        by_cases jx:scalar (bw r' j .nilsl)=true
        ·simp only[jx,if_true]at hd
         exact fin st M h (Tr.refl _ _ _ _) (fun β G=>AD jx (s13 β G)) hd
        ·simp only[jx,Bool.false_eq_true,if_false]at hd
         refine fin (st.ups us) M1 q1 (Tr.fz q2 q3) (fun β G=>aw.mono (dc ?_) (fun _ _ _ _=>rfl) (fun _ _=>Nat.le_refl _) _ _ (s13 β G)) hd
         rintro b x (hm|⟨rfl,h1,h2⟩)
         ·exact h'.msup b x (q1.mlt b x hm) (fh b) hm
         ·have:=(s6.resolve_left jx) (x-S.off) (by omega)
          rwa [show S.off+(x-S.off)=x by omega]at this
       ·cases hd
    ·cases hd
  ·cases hd
 ·rename_i g uM My
  split at hd
  ·rename_i q hq
   obtain⟨ts,us⟩:=q
   simp only[Option.map_eq_some_iff]at hd
   obtain⟨r',hg,hd⟩:=hd
   simp at hd
   obtain⟨rfl,rfl⟩:=hd
   obtain⟨⟨fn,hf,hn,hb⟩,pJ⟩:=hE.2 f g uM My
   obtain⟨M1,q1,q2,q3,q4,q5,q6⟩:=jc (fun t=>sD false st aU t) targs B st w β M _ ts us _ (Fz.refl st) h hv hq
   refine⟨qG hf hn hb _ _,rfl,(pJ ts r' hg w M1 ch q1.mlt q4).mono ?_⟩
   rintro e w' ⟨cv,rfl,F4,hr⟩
   obtain⟨o1,o2⟩:=I7 h F4.os F4.tape F4.output F4.size F4.block
   exact⟨cv,β,M,rfl,o1,o2,F4.size,PRel.toV _ _ _ _ (PRel.mono (dc (fun b x hm=>h.mlt b x hm)) _ _ hr)⟩
  ·cases hd
 ·cases hd
variable{ops:Array Oper}{Q:Exit→Act→World→Prop}{n:Nat}{K:Act→World→Prop}
theorem CD(hf:lO st a w β M n){j d:Nat}(hj:(ops[j]?).bind (·.dst)=some d):yielded ops a.tmps j=match ak st.fr d with| .b x=>some x|_=>none:=by
 unfold yielded
 rw[hj]
 simp only[Option.bind_some]
 have hs:=hf.slot d
 rw[Array.getD_eq_getD_getElem?]at hs
 cases hx:a.tmps[d]? with
 |none=>
  rw[hx]at hs
  simp only[Option.getD_none]at hs
  generalize ak st.fr d=t at*
  cases t <;> simp only[aw,PRel,undef]at hs <;> simp_all
 |some cv=>
  rw[hx]at hs
  simp only[Option.getD_some]at hs
  generalize ak st.fr d=t at*
  cases t <;> simp only[aw,PRel]at hs
  case b x=>subst hs;rfl
  all_goals first
   |(subst hs;rfl)
   |(obtain⟨_,rfl,_⟩:=hs;rfl)
   |(obtain⟨_,_,rfl,_⟩:=hs;rfl)
   |(obtain⟨_,_,_,rfl,_⟩:=hs;rfl)
   |(obtain⟨_,_,_,_,rfl,_⟩:=hs;rfl)
   |(obtain⟨_,rfl⟩:=hs;rfl)
theorem Eo(hE:nR P E)(hO:sJ P E call){hs:List Nat}{ao:aT}{i:Nat}(hi:ops[i]? =some o)(hc:qi P hs ops o=some ao)(h:bz B st w β M)(hf:lO st a w β M n){bD:St}(he:bu E call n ao st=some bD)
  (hK: ∀a' w' bB M',bz B bD w' bB M'→lO bD a' w' bB M' n→Tr st w β M bD w' bB M'→w.heap.size≤w'.heap.size→K a' w'):wpOp P ops Q i K a w:=by
 have cI:=IX hf
 unfold wpOp
 rw[hi]
 simp only
 unfold qi at hc
 split at hc
 ·rename_i Az fF
  have core: ∀gd,ao=⟨o.dst,Az,gd⟩→(match bI st.rho Az with
    |some (some c)=>match ar E call (o.dst.getD 0) st c.1 c.2 with
     |some r=>(fS st.fr n o.dst r.1).map fun fr=>({r.2 with fr}:St)
     |none=>none
    |some none=>none
    |none=>match(bT (o.dst.getD 0) st.rho Az).run st.get st.sh.length with
     |some (.val v ups)=>(fS st.fr n o.dst v).map fun fr=>({st.ups ups with fr}:St)
     |none=>none)=some bD→o.wp P a w K Q:=by
   intro gd _ tm
   unfold Oper.wp
   split at tm
   ·rename_i c az
    obtain⟨f,targs⟩:=c
    split at tm
    ·rename_i r hd
     obtain⟨r,zD⟩:=r
     simp only[Option.map_eq_some_iff]at tm
     obtain⟨fr,zC,rfl⟩:=tm
     have fg:=F1 fF az
     obtain⟨c,ho,fg⟩:=fg
     obtain⟨ch,hx,mh⟩:=F0 cI ho fg az
     obtain⟨d1,d2,d3⟩:=F2 hE hO h mh hd
     rw[hx,d1,Oper.upon_enter]
     refine d3.mono ?_
     rintro e w' ⟨cv,bB,M',rfl,k1,k2,k3,k4⟩
     refine hK _ _ bB M' (MG k1 fr) ?_ (k2.fr fr) k3
     exact uL hf k2 zC k4
    ·cases tm
   ·cases tm
   ·split at tm
    ·rename_i v ups hq
     simp only[Option.map_eq_some_iff]at tm
     obtain⟨fr,zC,rfl⟩:=tm
     obtain⟨nx,cv,w',bB,M',r1,r2,r3,r4,r5,r6⟩:=Xb (P:=P) cI h fF hq
     rw[r1]
     have:=hK (a.put o.dst cv) w' bB M' (MG r3 fr) (uL hf r4 zC r6) (r4.fr fr) r5
     rcases r2 with rfl|⟨rfl,rfl⟩
     ·exact this
     ·exact this
    ·cases tm
  split at hc
  ·rename_i hg
   simp at hc;subst hc
   have hw:Region.wanted o (yielded ops a.tmps)=true:=by unfold Region.wanted;rw[hg]
   rw[if_pos hw]
   unfold bu at he
   exact .inl (core none rfl he)
  ·rename_i j want hg
   split at hc
   ·rename_i d hd
    simp at hc;subst hc
    have hy:=CD (ops:=ops) hf hd
    unfold bu at he
    simp only at he
    have Jc:(fS st.fr n o.dst bA).map (fun fr=>({st with fr}:St))=some bD→K (a.put o.dst undef) w:=by
     intro hp
     simp only[Option.map_eq_some_iff]at hp
     obtain⟨fr,zC,rfl⟩:=hp
     exact hK _ _ β M (MG h fr) (uL hf (Tr.refl _ _ _ _) zC (by simp[aw,bA,undef,aA])) ((Tr.refl _ _ _ _).fr fr) (Nat.le_refl _)
    split at he
    ·rename_i x hx
     rw[hx]at hy
     have hw:Region.wanted o (yielded ops a.tmps)=(x==want):=by unfold Region.wanted;rw[hg];simp[hy]
     split at he
     ·rename_i U0
      rw[if_pos (by rw[hw];simp[U0])]
      exact .inl (core _ rfl he)
     ·rename_i U0
      rw[if_neg (by rw[hw];simp[U0])]
      exact Jc he
    ·rename_i hx
     have hw:Region.wanted o (yielded ops a.tmps)=false:=by
      unfold Region.wanted;rw[hg];simp only
      rw[hy]
      split
      ·rename_i x Ep;exact absurd Ep (hx x)
      ·rfl
     rw[if_neg (by rw[hw];simp)]
     exact Jc he
   ·cases hc
 ·cases hc
end
end Go.Ev
namespace Go.Ev
open Go
theorem Q.run_congr{α:Type}{h h':Sp→Nat→aB}{nx ZR:Nat}: ∀(q:Q α),(∀κ∈q.log h nx,h' κ.1 κ.2=h κ.1 κ.2)→(q.asks h nx=true→ZR=nx)→q.run h' ZR=q.run h nx
 | .ret a,_,_=>rfl
 | .fail,_,_=>rfl
 | .rd sp k f,hl,ha=>by
   have e:h' sp k=h sp k:=hl (sp,k) (by simp[Q.log])
   simp only[Q.run,e]
   exact Q.run_congr (f (h sp k)) (fun κ hk=>hl κ (by simp[Q.log,hk])) (fun hh=>ha (by simp[Q.asks,hh]))
 | .new f,hl,ha=>by
   have e:ZR=nx:=ha rfl
   subst e
   simp only[Q.run]
   exact Q.run_congr (f ZR) (fun κ hk=>hl κ (by simp[Q.log,hk])) (fun _=>rfl)
theorem gQ(f:T→Q (T×List Up))(h:Sp→Nat→aB)(nx:Nat)(hf: ∀t,(f t).asks h nx=false): ∀ts,(bC f ts).asks h nx=false:=by
 have il: ∀{α γ:Type} (q:Q α) (g:α→Q γ),q.asks h nx=false→(∀a,(g a).asks h nx=false)→(q.bind g).asks h nx=false:=by
  intro α γ q g hq hg
  induction q with
  |ret a=>exact hg a
  |fail=>rfl
  |rd sp k f ih=>simp only[Q.bind,Q.asks]at hq ⊢; exact ih _ hq
  |new f ih=>simp[Q.asks]at hq
 intro ts
 induction ts with
 |nil=>rfl
 |cons t ts ih=>
  simp only[bC]
  refine il _ _ (hf t) (fun p=>il _ _ ih (fun q=>rfl))
theorem Er(h:Sp→Nat→aB)(nx:Nat): ∀(keep:Bool) (n:Nat) (t:T),(fz keep n t).asks h nx=false:=by
 have il: ∀{α γ:Type} (q:Q α) (g:α→Q γ),q.asks h nx=false→(∀a,(g a).asks h nx=false)→(q.bind g).asks h nx=false:=by
  intro α γ q g hq hg
  induction q with
  |ret a=>exact hg a
  |fail=>rfl
  |rd sp k f ih=>simp only[Q.bind,Q.asks]at hq ⊢; exact ih _ hq
  |new f ih=>simp[Q.asks]at hq
 intro keep n
 induction n generalizing keep with
 |zero=>intro t;rfl
 |succ n ih=>
  intro t
  cases t <;> simp only[fz] <;> try rfl
  ·split
   ·rfl
   ·simp only[Q.asks];split
    ·split
     ·split <;> rfl
     ·split
      ·exact il _ _ (gQ _ _ _ (fun t=>ih false t) _) (fun _=>rfl)
      ·rfl
     ·rfl
    ·rfl
  ·split
   ·rfl
   ·simp only[Q.asks];split
    ·split
     ·exact il _ _ (gQ _ _ _ (fun t=>ih false t) _) (fun _=>rfl)
     ·rfl
    ·rfl
  ·split
   ·rfl
   ·simp only[Q.asks];split
    ·split <;> rfl
    ·rfl
  ·exact il _ _ (gQ _ _ _ (fun t=>ih keep t) _) (fun _=>il _ _ (gQ _ _ _ (fun t=>ih keep t) _) (fun _=>rfl))
  ·exact il _ _ (gQ _ _ _ (fun t=>ih keep t) _) (fun _=>rfl)
  ·exact il _ _ (gQ _ _ _ (fun t=>ih keep t) _) (fun _=>rfl)
theorem gl{ρ B3:bq→T}{l:List bq}(h: ∀x∈l,B3 x=ρ x):l.map B3=l.map ρ:=List.map_congr_left h
theorem jZ{ρ B3:bq→T}{d:Nat}{x:Option bq}(h: ∀y∈x.toList,B3 y=ρ y):bH B3 d x=bH ρ d x:=by
 cases x with
 |none=>rfl
 |some y=>simp only[bH];rw[h y (by simp)]
theorem F5{ρ B3:bq→T}(d:Nat)(op:nu)(h: ∀x∈rI op,B3 x=ρ x):bT d B3 op=bT d ρ op:=by
 cases op <;> simp only[rI]at h <;> simp only[bT]
 case mv x=>rw[h x (by simp)]
 case pick c a b=>rw[h c (by simp),h a (by simp),h b (by simp)]
 case box x sh=>rw[h x (by simp)]
 case build z ps=>
  have e: ∀p∈ps,B3 p.2.2=ρ p.2.2:=fun p hp=>h _ (List.mem_map.2 ⟨p,hp,rfl⟩)
  have e1:(ps.all fun p=>decide ((cellsOf (B3 p.2.2)).length=p.2.1)&&noTup (B3 p.2.2))=(ps.all fun p=>decide ((cellsOf (ρ p.2.2)).length=p.2.1)&&noTup (ρ p.2.2)):=by
   rw[Bool.eq_iff_iff,List.all_eq_true,List.all_eq_true]
   exact⟨fun hh p hp=>by rw[←e p hp];exact hh p hp,fun hh p hp=>by rw[e p hp];exact hh p hp⟩
  have e2:(ps.map fun p=>(p.1,cellsOf (B3 p.2.2)))=(ps.map fun p=>(p.1,cellsOf (ρ p.2.2))):=List.map_congr_left fun p hp=>by rw[e p hp]
  rw[e1,e2]
 case bsl z len ps=>
  have e2:(ps.map fun p=>B3 p.2)=(ps.map fun p=>ρ p.2):=List.map_congr_left fun p hp=>h _ (List.mem_map.2 ⟨p,hp,rfl⟩)
  rw[e2]
 case ld x n ag=>rw[h x (by simp)]
 case st x v n=>rw[h x (by simp),h v (by simp)]
 case nck x=>rw[h x (by simp)]
 case bin o x y=>rw[h x (by simp),h y (by simp)]
 case eq n k x y=>rw[h x (by simp),h y (by simp)]
 case un o x=>rw[h x (by simp)]
 case cvi k x=>rw[h x (by simp)]
 case mkfn f a c=>rw[gl (fun x hx=>h x (by simp[hx])),gl (fun x hx=>h x (by simp[hx]))]
 case mksl z b x sh=>rw[h x (by simp)]
 case slS x l hh=>
  rw[h x (by simp),jZ (x:=l) (fun y hy=>h y (by simp at hy;simp[hy]))]
  split
  ·rw[jZ (x:=hh) (fun y hy=>h y (by simp at hy;simp[hy]))]
  ·rfl
 case slV sz x l hh m=>
  rw[h x (by simp),jZ (x:=l) (fun y hy=>h y (by simp at hy;simp[hy]))]
  split
  ·rfl
  ·rw[jZ (x:=hh) (fun y hy=>h y (by simp at hy;simp[hy]))]
   split
   ·rfl
   ·rename_i mm _ _;rw[h mm (by simp)]
   ·rfl
 case fa x o=>rw[h x (by simp)]
 case fld x o n ag=>rw[h x (by simp)]
 case ia x y n=>rw[h x (by simp),h y (by simp)]
 case iaA x y l n=>rw[h x (by simp),h y (by simp)]
 case ixS x y=>rw[h x (by simp),h y (by simp)]
 case ixA x y l n ag=>rw[h x (by simp),h y (by simp)]
 case lk k x y z ok=>rw[h x (by simp),h y (by simp)]
 case mu k x y z=>rw[h x (by simp),h y (by simp),h z (by simp)]
 case ext x j=>rw[h x (by simp)]
 case lenS x=>rw[h x (by simp)]
 case lenV x=>rw[h x (by simp)]
 case lenM x=>rw[h x (by simp)]
 case app s b x y sh nm=>rw[h x (by simp),h y (by simp)]
 case mm b as=>rw[gl h]
theorem yn{ρ B3:bq→T}(op:nu)(h: ∀x∈rI op,B3 x=ρ x):bI B3 op=bI ρ op:=by
 cases op <;> simp only[rI]at h <;> simp only[bI]
 case callf f as=>rw[gl h]
 case callv f as=>rw[h f (by simp),gl (fun x hx=>h x (by simp[hx]))]
theorem Jd{ρ:bq→T}{op:nu}(hq:quiet op=true)(d:Nat)(h:Sp→Nat→aB)(nx:Nat):bI ρ op=none∧(bT d ρ op).log h nx= []∧(bT d ρ op).asks h nx=false∧ ∀v ups,(bT d ρ op).run h nx=some (.val v ups)→ups= []:=by
 have dD: ∀x:Option T,(Ev.val x).log h nx= []∧(Ev.val x).asks h nx=false∧ ∀v ups,(Ev.val x).run h nx=some (.val v ups)→ups= []:=by
  intro x;cases x <;> simp[Ev.val,Q.log,Q.asks,Q.run]
 cases op <;> simp[quiet]at hq <;> refine⟨rfl, ?_⟩ <;> simp only[bT]
 case slV sz x l hh m=>
  split
  ·simp[Q.log,Q.asks,Q.run]
  ·split
   ·unfold sx
    split
    ·split <;> simp[Q.bind,Q.log,Q.asks,Q.run]
    ·split <;> simp[Q.bind,Q.log,Q.asks,Q.run]
    ·split <;> simp[Q.bind,Q.log,Q.asks,Q.run]
    ·simp[Q.bind,Q.log,Q.asks,Q.run]
   ·split
    ·split <;> simp[Q.log,Q.asks,Q.run]
    ·split <;> simp[Q.log,Q.asks,Q.run]
    ·simp[Q.log,Q.asks,Q.run]
   ·simp[Q.log,Q.asks,Q.run]
 all_goals first
  |exact dD _
  |(simp[Q.log,Q.asks,Q.run];done)
  |(repeat' split
    all_goals first
     |exact dD _
     |(simp[Q.log,Q.asks,Q.run];done))
end Go.Ev
namespace Go.Ev
open Go
theorem AE{us:List Up}{sp:Sp}{k:Nat}:ib us sp k=true↔(sp,k)∈cX us:=by
 unfold ib cX
 rw[List.any_eq_true,List.mem_map]
 constructor
 ·rintro⟨⟨a,b,c⟩,h1,h2⟩
  simp at h2;obtain⟨rfl,rfl⟩:=h2
  exact⟨_,h1,rfl⟩
 ·rintro⟨⟨a,b,c⟩,h1,h2⟩
  simp at h2;obtain⟨rfl,rfl⟩:=h2
  exact⟨_,h1,by simp⟩
theorem AF(s p:St): ∀(us:List Up) (sp:Sp) (k:Nat),ib us sp k=true→(s.ups us).get sp k=(p.ups us).get sp k:=by
 intro us
 induction us generalizing s p with
 |nil=>intro sp k h;simp[ib]at h
 |cons u us ih=>
  intro sp k h
  simp only[St.ups]
  by_cases h2:ib us sp k=true
  ·exact ih _ _ sp k h2
  ·simp at h2
   rw[ij _ us sp k h2,ij _ us sp k h2]
   obtain⟨a,b,c⟩:=u
   have:(a==sp&&b==k)=true:=by
    simp only[ib,List.any_cons]at h h2
    simpa[h2]using h
   simp at this;obtain⟨rfl,rfl⟩:=this
   rw[dW,dW];simp
theorem qH(s p:St)(us:List Up)(sp:Sp)(k:Nat):(s.ups us).get sp k=if(sp,k)∈cX us then(p.ups us).get sp k else s.get sp k:=by
 split
 ·rename_i h;exact AF s p us sp k (AE.2 h)
 ·rename_i h
  refine ij s us sp k ?_
  cases hh:ib us sp k with
  |false=>rfl
  |true=>exact absurd (AE.1 hh) h
theorem CE(s p:St)(hs:s.sh=p.sh): ∀us,(s.ups us).sh=(p.ups us).sh:=by
 intro us
 induction us generalizing s p with
 |nil=>exact hs
 |cons u us ih=>
  simp only[St.ups]
  refine ih _ _ ?_
  obtain⟨a,b,c⟩:=u
  cases a
  ·exact hs
  ·simp[St.up,hs]
theorem yo(s:St): ∀us,(∀u∈us,u.1= .S→u.2.1<s.sh.length)→(s.ups us).sh.length=s.sh.length:=by
 intro us
 induction us generalizing s with
 |nil=>intro _;rfl
 |cons u us ih=>
  intro h
  obtain⟨a,b,c⟩:=u
  simp only[St.ups]
  have hlen:(s.up (a,b,c)).sh.length=s.sh.length:=by
   cases a with
   |L=>rfl
   |S=>simp[St.up,sC _ _ _ (h (.S,b,c) (by simp) rfl)]
  rw[ih _ (fun u hu e=>by rw[hlen];exact h u (by simp[hu]) e),hlen]
theorem CF{s p:St}{us:List Up}(h:pG p us=true)(he: ∀sp k,(sp,k)∈cX us→s.get sp k=p.get sp k): ∀u∈us,u.1= .S→u.2.1<s.sh.length:=by
 intro u hu e
 unfold pG at h
 rw[List.all_eq_true]at h
 have h1:=h u hu
 obtain⟨a,b,c⟩:=u
 dsimp only at e;subst e
 simp at h1
 have h2:=he .S b (by unfold cX;exact List.mem_map.2 ⟨_,hu,rfl⟩)
 refine Eb (st:=s) ?_
 rw[h2]
 unfold Af at h1
 unfold live
 generalize (p.get .S b).ob=ob at*
 cases ob <;> simp_all
theorem yp{fr LV:Fr}{n:Nat}{d:Option Nat}{v:T}{g:Fr}(h:fS fr n d v=some g): ∃g2,fS LV n d v=some g2∧ ∀t,ak g2 t=if d=some t then ak g t else ak LV t:=by
 cases d with
 |none=>exact⟨LV,rfl,fun t=>by simp⟩
 |some d=>
  simp only[fS]at h ⊢
  split at h
  ·rename_i hd
   simp at h;subst h
   refine⟨dp LV d v,by rw[if_pos hd],fun t=> ?_⟩
   have e1:ak (dp LV d v) t=if t=d then v else ak LV t:=j5 LV d v t
   have e2:ak (dp fr d v) t=if t=d then v else ak fr t:=j5 fr d v t
   rw[e1,e2]
   by_cases ht:t=d
   ·subst ht;simp
   ·rw[if_neg ht,if_neg (fun e=>ht (by simpa using e.symm))]
  ·cases h
def wrote(fp:FP)(sp:Sp)(k:Nat):Prop:=(sp,k)∈fp.w∨(fp.all=true∧sp= .S)
structure MH (ao:aT) (fp:FP) (s s' p':St):Prop where
 slot: ∀t,ak s'.fr t=if ao.d=some t then ak p'.fr t else ak s.fr t
 key: ∀sp k,(wrote fp sp k→s'.get sp k=p'.get sp k)∧(¬wrote fp sp k→s'.get sp k=s.get sp k)
 len:(fp.all=true→s'.sh.length=p'.sh.length)∧(fp.all=false→s'.sh.length=s.sh.length)
variable{E:Env}{call:lj}{n:Nat}
theorem F6{s p:St}{ao:aT}(h: ∀t∈looks ao,ak s.fr t=ak p.fr t): ∀x∈rI ao.op,s.rho x=p.rho x:=by
 intro x hx
 cases x with
 |t m=>
  refine h m ?_
  unfold looks
  rw[List.mem_append];left
  unfold tmpsOf
  rw[List.mem_filterMap]
  exact⟨.t m,hx,rfl⟩
 |c v=>rfl
theorem MI{s p:St}{d j:Nat}{r r':T}{us:List Up}{p2:St}(hd:jO d j r p us=some (r',p2))(h: ∀sp k,(sp,k)∈(Sp.L,d)::cX us→s.get sp k=p.get sp k)(hl:(s.ups us).sh.length=s.sh.length):
  ∃s2,jO d j r s us=some (r',s2)∧(∀sp k,((sp,k)∈(Sp.L,d)::cX us→s2.get sp k=p2.get sp k)∧((sp,k)∉(Sp.L,d)::cX us→s2.get sp k=s.get sp k))∧s2.sh.length=s.sh.length:=by
 have base: ∀(c:Bool) (sp:Sp) (k:Nat),((sp,k)∈(Sp.L,d)::cX us→(if c=true then s else s.ups us).get sp k=(if c=true then p else p.ups us).get sp k)∧((sp,k)∉(Sp.L,d)::cX us→(if c=true then s else s.ups us).get sp k=s.get sp k):=by
  intro c sp k
  cases c with
  |true=>simp only[if_true];exact⟨h sp k,fun _=>trivial⟩
  |false=>
   simp only[Bool.false_eq_true,if_false]
   have g1:=qH s p us sp k
   have g2:=qH p p us sp k
   refine⟨fun hm=> ?_,fun hm=> ?_⟩
   ·by_cases hk:(sp,k)∈cX us
    ·rw[if_pos hk]at g1;exact g1
    ·rw[if_neg hk]at g1 g2;rw[g1,g2];exact h sp k hm
   ·rw[if_neg (fun e=>hm (List.mem_cons_of_mem _ e))]at g1;exact g1
 have len: ∀c:Bool,(if c=true then s else s.ups us).sh.length=s.sh.length:=by
  intro c;cases c
  ·simpa using hl
  ·simp
 unfold jO at hd ⊢
 split at hd
 ·rename_i hc
  simp only[Option.some.injEq,Prod.mk.injEq]at hd ⊢
  obtain⟨rfl,rfl⟩:=hd
  exact⟨_,⟨rfl,rfl⟩,base _,len _⟩
 ·rename_i cs FU ex hc
  split at hd
  ·rename_i jo
   rw[if_pos jo]
   simp only[Option.some.injEq,Prod.mk.injEq]at hd ⊢
   obtain⟨rfl,rfl⟩:=hd
   have hg:=(base (scalar (bw r j .nilsl)) .L d).1 (List.mem_cons_self ..)
   rw[hg]
   refine⟨_,⟨rfl,rfl⟩,fun sp k=>⟨fun hm=> ?_,fun hm=> ?_⟩, ?_⟩
   ·rw[dW,dW]
    split
    ·rfl
    ·exact(base _ sp k).1 hm
   ·rw[dW,if_neg (by rintro⟨rfl,rfl⟩;exact hm (List.mem_cons_self ..))]
    exact(base _ sp k).2 hm
   ·exact len _
  ·cases hd
 ·cases hd
theorem AG{ao:aT}{fp:FP}{s p p':St}(he:bu E call n ao p=some p')(fZ:cj E call ao p=some fp)(h1: ∀t∈looks ao,ak s.fr t=ak p.fr t)(h2: ∀sp k,(sp,k)∈fp.r∨(sp,k)∈fp.w→s.get sp k=p.get sp k)(h3:fp.all=true→s.sh=p.sh):
  ∃s',bu E call n ao s=some s'∧MH ao fp s s' p':=by
 have Xg:=F6 h1
 have Jc:(fS p.fr n ao.d bA).map (fun fr=>({p with fr}:St))=some p'→fp=dB→ ∃s',(fS s.fr n ao.d bA).map (fun fr=>({s with fr}:St))=some s'∧MH ao fp s s' p':=by
  intro hp hn
  subst hn
  simp only[Option.map_eq_some_iff]at hp
  obtain⟨g,hg,rfl⟩:=hp
  obtain⟨g2,e1,e2⟩:=yp (LV:=s.fr) hg
  refine⟨{s with fr:=g2},by rw[e1];rfl,e2,fun sp k=>⟨fun hw=> ?_,fun _=>rfl⟩,⟨(fun hh=>by cases hh),fun _=>rfl⟩⟩
  rcases hw with hw|hw
  ·simp[dB]at hw
  ·cases hw.1
 have core:(match bI p.rho ao.op with
       |some (some c)=>match ar E call (ao.d.getD 0) p c.1 c.2 with
        |some r=>(fS p.fr n ao.d r.1).map fun fr=>({r.2 with fr}:St)
        |none=>none
       |some none=>none
       |none=>match(bT (ao.d.getD 0) p.rho ao.op).run p.get p.sh.length with
        |some (.val v ups)=>(fS p.fr n ao.d v).map fun fr=>({p.ups ups with fr}:St)
        |none=>none)=some p'→(match bI p.rho ao.op with
       |some (some c)=>dV E call (ao.d.getD 0) p c.1 c.2
       |some none=>none
       |none=>
        let q:=bT (ao.d.getD 0) p.rho ao.op
        match q.run p.get p.sh.length with
        |some (.val _ ups)=>if q.asks p.get p.sh.length||pG p ups then some (⟨q.asks p.get p.sh.length,q.log p.get p.sh.length,cX ups⟩:FP)else none
        |none=>none)=some fp→
   ∃s',(match bI s.rho ao.op with
    |some (some c)=>match ar E call (ao.d.getD 0) s c.1 c.2 with
     |some r=>(fS s.fr n ao.d r.1).map fun fr=>({r.2 with fr}:St)
     |none=>none
    |some none=>none
    |none=>match(bT (ao.d.getD 0) s.rho ao.op).run s.get s.sh.length with
     |some (.val v ups)=>(fS s.fr n ao.d v).map fun fr=>({s.ups ups with fr}:St)
     |none=>none)=some s'∧MH ao fp s s' p':=by
  intro tm hf
  rw[yn ao.op Xg]
  split at tm
  ·rename_i c hc
   obtain⟨f,args⟩:=c
   rw[hc]at hf
   simp only[hc]at hf ⊢
   split at tm
   ·rename_i r hd
    obtain⟨r,p2⟩:=r
    simp only[Option.map_eq_some_iff]at tm
    obtain⟨g,hg,rfl⟩:=tm
    obtain⟨g2,e1,e2⟩:=yp (LV:=s.fr) hg
    suffices hs: ∃s2,ar E call (ao.d.getD 0) s f args=some (r,s2)∧(∀sp k,(wrote fp sp k→s2.get sp k=p2.get sp k)∧(¬wrote fp sp k→s2.get sp k=s.get sp k))∧(fp.all=true→s2.sh.length=p2.sh.length)∧(fp.all=false→s2.sh.length=s.sh.length)by
     obtain⟨s2,d1,d2,d3⟩:=hs
     refine⟨{s2 with fr:=g2},by rw[d1];simp[e1],e2,d2,d3⟩
    unfold dV at hf
    unfold ar at hd ⊢
    split at hd
    ·rename_i af uM
     simp only[uM]at hf ⊢
     cases hq:(bC (fz af.eff aU) args).run p.get p.sh.length with
     |none=>simp[hq]at hd
     |some q=>
      obtain⟨ts,us⟩:=q
      simp only[hq]at hd hf
      split at hf
      ·cases hf
      ·rename_i F7
       simp at F7
       have yc: ∀κ∈(bC (fz af.eff aU) args).log p.get p.sh.length,κ∈fp.r:=by
        intro κ hk
        split at hf
        ·simp at hf;subst hf;exact hk
        ·split at hf
         ·split at hf
          ·simp at hf;subst hf;exact hk
          ·simp at hf;subst hf;exact List.mem_cons_of_mem _ hk
         ·cases hf
       have tp:(bC (fz af.eff aU) args).run s.get s.sh.length=some (ts,us):=by
        rw[←hq]
        refine Q.run_congr _ (fun κ hk=>h2 _ _ (.inl (yc κ hk))) (fun hh=> ?_)
        rw[gQ _ _ _ (fun t=>Er _ _ _ _ t)]at hh;cases hh
       rw[tp]
       simp only
       split at hd
       ·rename_i mV
        simp only[mV,if_true]at hf ⊢
        simp at hf;subst hf
        simp only[Option.map_eq_some_iff]at hd
        obtain⟨⟨r',br⟩,az,hd⟩:=hd
        simp at hd;obtain⟨rfl,rfl⟩:=hd
        have fi:=h3 rfl
        have acy:=CE s p fi us
        refine⟨{s.ups us with sh:=br},by rw[acy,az];rfl,fun sp k=> ?_,fun _=>rfl,(fun hh=>by cases hh)⟩
        cases sp with
        |S=>exact⟨fun _=>rfl,fun hw=>absurd (.inr ⟨rfl,rfl⟩) hw⟩
        |L=>
         have:=qH s p us .L k
         refine⟨fun hw=> ?_,fun hw=> ?_⟩
         ·rcases hw with hw|hw
          ·rw[if_pos hw]at this;exact this
          ·cases hw.2
         ·rw[if_neg (fun e=>hw (.inl e))]at this;exact this
       ·rename_i mV
        simp only[mV,Bool.false_eq_true,if_false]at hf ⊢
        split at hd
        ·rename_i r0 az
         simp only[az]at hf ⊢
         cases pe:af.own with
         |some j=>
          simp only[pe]at hf hd ⊢
          simp at hf;subst hf
          obtain⟨s2,g1,g2,g3⟩:=MI (s:=s) hd (fun sp k hk=>h2 sp k (.inr hk)) (yo s us (CF F7 (fun sp k hk=>h2 sp k (.inr (List.mem_cons_of_mem _ hk)))))
          refine⟨s2,g1,fun sp k=>⟨fun hw=> ?_,fun hw=>(g2 sp k).2 (fun e=>hw (.inl e))⟩,(fun hh=>by cases hh),fun _=>g3⟩
          rcases hw with hw|hw
          ·exact(g2 sp k).1 hw
          ·cases hw.1
         |none=>
         simp only[pe]at hf hd ⊢
         simp at hf;subst hf
         simp at hd;obtain⟨rfl,rfl⟩:=hd
         by_cases jx:scalar r0.1=true
         ·simp only[jx,if_true]
          refine⟨s,rfl,fun sp k=>⟨fun hw=> ?_,fun _=>rfl⟩,(fun hh=>by cases hh),fun _=>rfl⟩
          rcases hw with hw|hw
          ·simp at hw
          ·cases hw.1
         ·simp only[jx,Bool.false_eq_true,if_false]
          refine⟨s.ups us,rfl,fun sp k=> ?_,(fun hh=>by cases hh),fun _=> ?_⟩
          ·have:=qH s p us sp k
           refine⟨fun hw=> ?_,fun hw=> ?_⟩
           ·rcases hw with hw|hw
            ·rw[if_pos hw]at this;exact this
            ·cases hw.1
           ·rw[if_neg (fun e=>hw (.inl e))]at this;exact this
          ·exact yo s us (CF F7 (fun sp k hk=>h2 sp k (.inr (by simpa[jx]using hk))))
        ·cases hd
    ·rename_i g' uM My
     simp only[uM,My]at hf ⊢
     simp at hf;subst hf
     cases hq:(bC (fz false aU) args).run p.get p.sh.length with
     |none=>simp[hq]at hd
     |some q=>
      simp only[hq]at hd
      have tp:(bC (fz false aU) args).run s.get s.sh.length=some q:=by
       rw[←hq]
       refine Q.run_congr _ (fun κ hk=>h2 _ _ (.inl hk)) (fun hh=> ?_)
       rw[gQ _ _ _ (fun t=>Er _ _ _ _ t)]at hh;cases hh
      rw[tp]
      simp only[Option.map_eq_some_iff]at hd ⊢
      obtain⟨r',UY,hd⟩:=hd
      simp at hd;obtain⟨rfl,rfl⟩:=hd
      refine⟨s,⟨r',UY,rfl⟩,fun sp k=>⟨fun hw=> ?_,fun _=>rfl⟩,(fun hh=>by cases hh),fun _=>rfl⟩
      rcases hw with hw|hw
      ·simp at hw
      ·cases hw.1
    ·cases hd
   ·cases tm
  ·cases tm
  ·rename_i hc
   simp only[hc]at hf ⊢
   rw[F5 _ ao.op Xg]
   split at tm
   ·rename_i v ups hq
    simp only[hq]at hf
    split at hf
    ·rename_i F7
     simp at hf;subst hf
     simp only[Option.map_eq_some_iff]at tm
     obtain⟨g,hg,rfl⟩:=tm
     obtain⟨g2,e1,e2⟩:=yp (LV:=s.fr) hg
     have tp:(bT (ao.d.getD 0) p.rho ao.op).run s.get s.sh.length=some (.val v ups):=by
      rw[←hq]
      exact Q.run_congr _ (fun κ hk=>h2 _ _ (.inl hk)) (fun hh=>by rw[h3 hh])
     rw[tp]
     refine⟨{s.ups ups with fr:=g2},by simp[e1],e2,fun sp k=> ?_, ?_⟩
     ·have:=qH s p ups sp k
      refine⟨fun hw=> ?_,fun hw=> ?_⟩
      ·by_cases hm:(sp,k)∈cX ups
       ·rw[if_pos hm]at this;exact this
       ·rcases hw with hw|hw
        ·exact absurd hw hm
        ·obtain⟨ha,rfl⟩:=hw
         have fi:=CE s p (h3 ha) ups
         show dg (s.ups ups).sh k=dg (p.ups ups).sh k
         rw[fi]
      ·rw[if_neg (fun e=>hw (.inl e))]at this;exact this
     ·refine⟨fun ha=> ?_,fun ha=> ?_⟩
      ·have fi:=CE s p (h3 ha) ups
       show(s.ups ups).sh.length=(p.ups ups).sh.length
       rw[fi]
      ·rw[show(bT (ao.d.getD 0) p.rho ao.op).asks p.get p.sh.length=false from ha,Bool.false_or]at F7
       exact yo s ups (CF F7 (fun sp k hk=>h2 sp k (.inr hk)))
    ·cases hf
   ·cases tm
 unfold bu at he ⊢
 unfold cj at fZ
 cases hgd:ao.gd with
 |none=>
  simp only[hgd]at he fZ ⊢
  exact core he fZ
 |some g=>
  obtain⟨j,want⟩:=g
  simp only[hgd]at he fZ ⊢
  have hj:ak s.fr j=ak p.fr j:=h1 j (by unfold looks;rw[hgd];simp)
  rw[hj]
  cases hgv:ak p.fr j with
  |b x=>
   simp only[hgv]at he fZ ⊢
   by_cases U0:x=want
   ·simp only[U0,if_true]at he fZ ⊢
    exact core he fZ
   ·simp only[U0,if_false]at he fZ ⊢
    exact Jc he (by simpa using fZ.symm)
  |_=>
   simp only[hgv]at he fZ ⊢
   exact Jc he (by simpa using fZ.symm)
end Go.Ev
namespace Go.Ev
open Go
theorem AH(acc:List Nat): ∀(ps:List Nat) (m0 i:Nat),(ps.foldl (fun m p=>m ||| 2 ^ p ||| aZ 0 acc p) m0).testBit i=true↔m0.testBit i=true∨ ∃p∈ps,p=i∨(aZ 0 acc p).testBit i=true
 | [],m0,i=>by simp
 |p::ps,m0,i=>by
  simp only[List.foldl_cons]
  rw[AH acc ps]
  simp only[Nat.testBit_or,Bool.or_eq_true,Nat.testBit_two_pow,decide_eq_true_eq,List.mem_cons,exists_eq_or_imp]
  constructor
  ·rintro((((h|h)|h))|⟨q,h1,h2⟩)
   ·exact .inl h
   ·exact .inr (.inl (.inl h))
   ·exact .inr (.inl (.inr h))
   ·exact .inr (.inr ⟨q,h1,h2⟩)
  ·rintro(h|((h|h)|⟨q,h1,h2⟩))
   ·exact .inl (.inl (.inl h))
   ·exact .inl (.inl (.inr h))
   ·exact .inl (.inr h)
   ·exact .inr ⟨q,h1,h2⟩
theorem CG(acc ps:List Nat)(i:Nat):(ux acc ps).testBit i=true↔ ∃p∈ps,p=i∨(aZ 0 acc p).testBit i=true:=by
 unfold ux;rw[AH];simp
theorem jq{α:Type}(d:α): ∀(l l':List α) (k:Nat),k<l.length→aZ d (l++l') k=aZ d l k
 | [],l',k,h=>by simp at h
 |x::xs,l',0,h=>rfl
 |x::xs,l',k+1,h=>by simp only[List.cons_append,aZ];exact jq d xs l' k (by simpa using h)
theorem rP{α:Type}(d:α): ∀(l:List α) (x:α),aZ d (l++ [x]) l.length=x
 | [],x=>rfl
 |y::ys,x=>by simp only[List.cons_append,List.length_cons,aZ];exact rP d ys x
theorem uN: ∀(lQ:List (List Nat)) (acc:List Nat),(kA lQ acc).length=acc.length+lQ.length∧(∀k,k<acc.length→aZ 0 (kA lQ acc) k=aZ 0 acc k)∧
  ∀j ps,lQ[j]? =some ps→ ∀i,(aZ 0 (kA lQ acc) (acc.length+j)).testBit i=true↔ ∃p∈ps,p=i∨((if p<acc.length+j then aZ 0 (kA lQ acc) p else 0).testBit i=true)
 | [],acc=>by simp[kA]
 |ps::lQ,acc=>by
  obtain⟨h1,h2,h3⟩:=uN lQ (acc++ [ux acc ps])
  simp only[kA]
  refine⟨by rw[h1];simp;omega,fun k hk=> ?_,fun j qs hq i=> ?_⟩
  ·rw[h2 k (by simp;omega),jq _ _ _ _ hk]
  ·cases j with
   |zero=>
    simp at hq;subst hq
    rw[Nat.add_zero,h2 acc.length (by simp),rP,CG]
    constructor
    ·rintro⟨p,hp,e⟩
     refine⟨p,hp,e.imp id fun e=> ?_⟩
     by_cases eo:p<acc.length
     ·rw[if_pos eo,h2 p (by simp;omega),jq _ _ _ _ eo];exact e
     ·exfalso
      have: ∀(l:List Nat) (k:Nat),l.length≤k→aZ 0 l k=0:=by
       intro l
       induction l with
       |nil=>intro k _;rfl
       |cons x xs ih=>intro k hk;cases k with|zero=>simp at hk|succ k=>exact ih k (by simpa using hk)
      rw[this acc p (by omega)]at e;simp at e
    ·rintro⟨p,hp,e⟩
     refine⟨p,hp,e.imp id fun e=> ?_⟩
     by_cases eo:p<acc.length
     ·rw[if_pos eo,h2 p (by simp;omega),jq _ _ _ _ eo]at e;exact e
     ·rw[if_neg eo]at e;simp at e
   |succ j=>
    have:=h3 j qs (by simpa using hq) i
    rw[show(acc++ [ux acc ps]).length+j=acc.length+(j+1)by simp;omega]at this
    exact this
theorem qI: ∀(lQ:List (List Nat)) (i0:Nat),qj i0 lQ=true→ ∀j ps,lQ[j]? =some ps→ ∀p∈ps,p<i0+j
 | [],i0,h,j,ps,hj,p,hp=>by simp at hj
 |q::lQ,i0,h,j,ps,hj,p,hp=>by
  simp only[qj,Bool.and_eq_true,List.all_eq_true]at h
  cases j with
  |zero=>simp at hj;subst hj;simpa using h.1 p hp
  |succ j=>
   have:=qI lQ (i0+1) h.2 j ps (by simpa using hj) p hp
   omega
theorem uO{m:Nat}{as:List aT}{k:Nat}{a:aT}:(k,a)∈uy m as↔as[k]? =some a∧m.testBit k=false:=by
 unfold uy
 rw[List.mem_filter,List.mem_map]
 constructor
 ·rintro⟨⟨p,hp,e⟩,h2⟩
  simp at e;obtain⟨rfl,rfl⟩:=e
  rw[List.mem_zipIdx_iff_getElem?]at hp
  exact⟨hp,by simpa using h2⟩
 ·rintro⟨h1,h2⟩
  exact⟨⟨(a,k),List.mem_zipIdx_iff_getElem?.2 h1,rfl⟩,by simpa using h2⟩
theorem qJ: ∀(rest before:List aT) (ms:List Nat),qk ms before rest=true→ ∀j a,rest[j]? =some a→ ∀m,ms[j]? =some m→ ∀k a',k<before.length+j→(before++rest)[k]? =some a'→m.testBit k=false→eD a' a=true
 | [],before,ms,h,j,a,hj,m,hm,k,a',hk,ha,hb=>by simp at hj
 |r::rest,before,[],h,j,a,hj,m,hm,k,a',hk,ha,hb=>by simp at hm
 |r::rest,before,m0::ms,h,j,a,hj,m,hm,k,a',hk,ha,hb=>by
  simp only[qk,Bool.and_eq_true,List.all_eq_true]at h
  cases j with
  |zero=>
   simp at hj hm;subst hj;subst hm
   have:before[k]? =some a':=by rw[List.getElem?_append_left (by omega)]at ha;exact ha
   exact h.1 (k,a') (uO.2 ⟨this,hb⟩)
  |succ j=>
   exact qJ rest (before++ [r]) ms h.2 j a (by simpa using hj) m (by simpa using hm) k a' (by simp;omega) (by simpa using ha) hb
variable{E:Env}{call:lj}{n:Nat}
theorem uP: ∀(rest before:List aT) (ms:List Nat) (bL:List FP) (st U1:St),bL.length=before.length→ms.length=rest.length→aL E call n (mg ms before rest) bL st=some U1→
  ∃(pre:Nat→St) (fp:Nat→FP),pre 0=st∧pre rest.length=U1∧ ∀j a m,rest[j]? =some a→ms[j]? =some m→bu E call n a (pre j)=some (pre (j+1))∧cj E call a (pre j)=some (fp j)∧
   ∀k a',k<before.length+j→(before++rest)[k]? =some a'→m.testBit k=false→quiet a.op=false→quiet a'.op=false→apart (if k<before.length then aZ ⟨true,[],[]⟩ bL k else fp (k-before.length)) (fp j)=true
 | [],before,ms,bL,st,U1,hl,hm,h=>by
   cases ms with
   |cons _ _=>simp at hm
   |nil=>simp[mg,aL]at h;subst h;exact⟨fun _=>st,fun _=>dB,rfl,rfl,by simp⟩
 |r::rest,before,[],bL,st,U1,hl,hm,h=>by simp at hm
 |r::rest,before,m0::ms,bL,st,U1,hl,hm,h=>by
  simp only[mg,aL]at h
  cases hf:cj E call r st with
  |none=>simp[hf]at h
  |some fp0=>
   simp only[hf]at h
   generalize hu:(if quiet r.op=true then []else((uy m0 before).filter fun p=> !quiet p.2.op).map (·.1))=uno at h
   split at h
   ·rename_i bl
    cases he:bu E call n r st with
    |none=>simp[he]at h
    |some eb=>
     simp only[he]at h
     obtain⟨pre,fp,p1,p2,p3⟩:=uP rest (before++ [r]) ms (bL++ [fp0]) eb U1 (by simp[hl]) (by simpa using hm) h
     refine⟨fun j=>match j with|0=>st|j+1=>pre j,fun j=>match j with|0=>fp0|j+1=>fp j,rfl,p2,fun j a m hj MJ=> ?_⟩
     cases j with
     |zero=>
      simp at hj MJ;subst hj;subst MJ
      refine⟨by simp only;rw[he,p1],hf,fun k a' hk ha hb kF nz=> ?_⟩
      have hkb:k<before.length:=by omega
      rw[if_pos hkb]
      have U2:before[k]? =some a':=by rw[List.getElem?_append_left hkb]at ha;exact ha
      rw[List.all_eq_true]at bl
      refine bl k ?_
      rw[←hu,if_neg (by rw[kF];simp)]
      exact List.mem_map.2 ⟨(k,a'),List.mem_filter.2 ⟨uO.2 ⟨U2,hb⟩,by simp[nz]⟩,rfl⟩
     |succ j=>
      obtain⟨e1,e2,e3⟩:=p3 j a m (by simpa using hj) (by simpa using MJ)
      refine⟨e1,e2,fun k a' hk ha hb kF nz=> ?_⟩
      have:=e3 k a' (by simp;omega) (by simpa using ha) hb kF nz
      by_cases h1:k<before.length
      ·rw[if_pos h1]
       rw[if_pos (by simp;omega),jq _ _ _ _ (by omega)]at this
       exact this
      ·rw[if_neg h1]
       by_cases h2:k=before.length
       ·subst h2
        rw[if_pos (by simp),←hl,rP]at this
        simpa using this
       ·rw[if_neg (by simp;omega)]at this
        obtain⟨x,hx⟩: ∃x,k-before.length=x+1:=⟨k-before.length-1,by omega⟩
        rw[hx]
        simp only
        have hx2:k-(before++ [r]).length=x:=by simp;omega
        rw[hx2]at this
        exact this
   ·cases h
theorem AI{a:aT}{p:St}{fp:FP}(hq:quiet a.op=true)(h:cj E call a p=some fp):fp.all=false∧fp.r= []∧fp.w= []:=by
 obtain⟨q1,q2,q3,q4⟩:=Jd (ρ:=p.rho) hq (a.d.getD 0) p.get p.sh.length
 have core:(match bI p.rho a.op with
       |some (some c)=>dV E call (a.d.getD 0) p c.1 c.2
       |some none=>none
       |none=>
        let q:=bT (a.d.getD 0) p.rho a.op
        match q.run p.get p.sh.length with
        |some (.val _ ups)=>if q.asks p.get p.sh.length||pG p ups then some (⟨q.asks p.get p.sh.length,q.log p.get p.sh.length,cX ups⟩:FP)else none
        |none=>none)=some fp→fp.all=false∧fp.r= []∧fp.w= []:=by
  intro hh
  rw[q1]at hh
  simp only at hh
  split at hh
  ·rename_i v ups hr
   have:=q4 v ups hr;subst this
   split at hh
   ·simp at hh;subst hh;exact⟨q3,q2,rfl⟩
   ·cases hh
  ·cases hh
 unfold cj at h
 cases hg:a.gd with
 |none=>simp only[hg]at h;exact core h
 |some g=>
  simp only[hg]at h
  split at h
  ·split at h
   ·exact core h
   ·simp at h;subst h;exact⟨rfl,rfl,rfl⟩
  ·simp at h;subst h;exact⟨rfl,rfl,rfl⟩
theorem Je: ∀(a b:List aB),(∀k,dg a k=dg b k)→a.length=b.length→a=b
 | [],[],_,_=>rfl
 | [],y::ys,_,h=>by simp at h
 |x::xs,[],_,h=>by simp at h
 |x::xs,y::ys,h,hl=>by
  have h0:x=y:=h 0
  rw[h0,Je xs ys (fun k=>h (k+1)) (by simpa using hl)]
end Go.Ev
namespace Go.Ev
open Go
variable{E:Env}{call:lj}{n:Nat}
structure jf (E:Env) (call:lj) (n:Nat) (as:List aT) (lQ:List (List Nat)) (bit:Nat→Nat→Bool) (pre:Nat→St) (fp:Nat→FP):Prop where
 len:lQ.length=as.length
 edges: ∀(j:Nat) (ps:List Nat),lQ[j]? =some ps→ ∀p∈ps,p<j
 bits: ∀(j:Nat) (ps:List Nat),lQ[j]? =some ps→ ∀i,bit j i=true↔ ∃p∈ps,p=i∨bit p i=true
 run: ∀(j:Nat) (a:aT),as[j]? =some a→bu E call n a (pre j)=some (pre (j+1))∧cj E call a (pre j)=some (fp j)
 slots: ∀(j:Nat) (a:aT) (k:Nat) (a':aT),as[j]? =some a→as[k]? =some a'→k<j→bit j k=false→eD a' a=true
 apart: ∀(j:Nat) (a:aT) (k:Nat) (a':aT),as[j]? =some a→as[k]? =some a'→k<j→bit j k=false→quiet a.op=false→quiet a'.op=false→Ev.apart (fp k) (fp j)=true
variable{as:List aT}{lQ:List (List Nat)}{bit:Nat→Nat→Bool}{pre:Nat→St}{fp:Nat→FP}
def uQ(lQ:List (List Nat))(L:Nat→Prop):Prop:= ∀(j:Nat) (ps:List Nat),lQ[j]? =some ps→L j→ ∀p∈ps,L p
theorem sL(R:jf E call n as lQ bit pre fp){L:Nat→Prop}(hc:uQ lQ L): ∀(j:Nat) (ps:List Nat),lQ[j]? =some ps→(∀p∈ps,L p)→ ∀i,bit j i=true→L i:=by
 intro j
 induction j using Nat.strongRecOn with
 |_ j ih=>
  intro ps hj hp i hb
  obtain⟨p,h1,h2⟩:=(R.bits j ps hj i).1 hb
  rcases h2 with rfl|h2
  ·exact hp p h1
  ·have eo:=R.edges j ps hj p h1
   have hpl:p<lQ.length:=Nat.lt_trans eo (List.getElem?_eq_some_iff.1 hj).1
   have yq:lQ[p]? =some lQ[p]:=List.getElem?_eq_getElem hpl
   exact ih p eo _ yq (hc p _ yq (hp p h1)) i h2
theorem lr(R:jf E call n as lQ bit pre fp){L:Nat→Prop}(hc:uQ lQ L){i j:Nat}(hi:i<as.length)(hj:j<as.length)(S3: ¬L i)(U3: ∀ps,lQ[i]? =some ps→ ∀p∈ps,L p)(ho:i=j∨(j<i∧bit i j=true)∨(i<j∧bit j i=true)):L j↔j<i:=by
 rcases ho with rfl|⟨h1,h2⟩|⟨h1,h2⟩
 ·exact⟨fun h=>absurd h S3,fun h=>absurd h (Nat.lt_irrefl _)⟩
 ·refine⟨fun _=>h1,fun _=> ?_⟩
  have nG:i<lQ.length:=by rw[R.len];exact hi
  have yq:lQ[i]? =some lQ[i]:=List.getElem?_eq_getElem nG
  exact sL R hc i _ yq (U3 _ yq) j h2
 ·refine⟨fun hL=>absurd ?_ S3,fun h=>by omega⟩
  have mi:j<lQ.length:=by rw[R.len];exact hj
  have yq:lQ[j]? =some lQ[j]:=List.getElem?_eq_getElem mi
  exact sL R hc j _ yq (hc j _ yq hL) i h2
structure Inv (as:List aT) (pre:Nat→St) (fp:Nat→FP) (L:Nat→Prop) (s:St):Prop where
 slot: ∀t i,i≤as.length→(∀(j:Nat) (a:aT),as[j]? =some a→a.d=some t→(L j↔j<i))→ak s.fr t=ak (pre i).fr t
 key: ∀sp k i,i≤as.length→(∀j,j<as.length→wrote (fp j) sp k→(L j↔j<i))→s.get sp k=(pre i).get sp k
 len: ∀i,i≤as.length→(∀j,j<as.length→(fp j).all=true→(L j↔j<i))→s.sh.length=(pre i).sh.length
theorem uR(R:jf E call n as lQ bit pre fp){j:Nat}{a:aT}(hj:as[j]? =some a):MH a (fp j) (pre j) (pre (j+1)) (pre (j+1)):=by
 obtain⟨h1,h2⟩:=R.run j a hj
 obtain⟨s',e1,e2⟩:=AG (s:=pre j) h1 h2 (fun _ _=>rfl) (fun _ _ _=>rfl) (fun _=>rfl)
 rw[h1]at e1;simp at e1;subst e1
 exact e2
theorem AJ(R:jf E call n as lQ bit pre fp)(t i:Nat): ∀i',i≤i'→i'≤as.length→(∀(j:Nat) (a:aT),as[j]? =some a→i≤j→j<i'→a.d≠some t)→ak (pre i').fr t=ak (pre i).fr t:=by
 intro i' h1
 induction i' with
 |zero=>intro _ _;have:i=0:=by omega
        subst this;rfl
 |succ m ih=>
  intro h2 h3
  by_cases he:i=m+1
  ·subst he;rfl
  ·have Rf:m<as.length:=by omega
   have ha:as[m]? =some as[m]:=List.getElem?_eq_getElem Rf
   have hl:=(uR R ha).slot t
   rw[if_neg (h3 m _ ha (by omega) (by omega))]at hl
   rw[hl];exact ih (by omega) (by omega) (fun j a b c d=>h3 j a b c (by omega))
theorem Es(R:jf E call n as lQ bit pre fp)(sp:Sp)(k i:Nat): ∀i',i≤i'→i'≤as.length→(∀j,i≤j→j<i'→ ¬wrote (fp j) sp k)→(pre i').get sp k=(pre i).get sp k:=by
 intro i' h1
 induction i' with
 |zero=>intro _ _;have:i=0:=by omega
        subst this;rfl
 |succ m ih=>
  intro h2 h3
  by_cases he:i=m+1
  ·subst he;rfl
  ·have Rf:m<as.length:=by omega
   have ha:as[m]? =some as[m]:=List.getElem?_eq_getElem Rf
   have hl:=((uR R ha).key sp k).2 (h3 m (by omega) (by omega))
   rw[hl];exact ih (by omega) (by omega) (fun j a b=>h3 j a (by omega))
theorem Et(R:jf E call n as lQ bit pre fp)(i:Nat): ∀i',i≤i'→i'≤as.length→(∀j,i≤j→j<i'→(fp j).all=false)→(pre i').sh.length=(pre i).sh.length:=by
 intro i' h1
 induction i' with
 |zero=>intro _ _;have:i=0:=by omega
        subst this;rfl
 |succ m ih=>
  intro h2 h3
  by_cases he:i=m+1
  ·subst he;rfl
  ·have Rf:m<as.length:=by omega
   have ha:as[m]? =some as[m]:=List.getElem?_eq_getElem Rf
   have hl:=(uR R ha).len.2 (h3 m (by omega) (by omega))
   rw[hl];exact ih (by omega) (by omega) (fun j a b=>h3 j a (by omega))
theorem either(R:jf E call n as lQ bit pre fp){i j:Nat}{a a':aT}(hi:as[i]? =some a)(hj:as[j]? =some a')(ev:i≠j):
  ((j<i∧bit i j=true)∨(i<j∧bit j i=true))∨((eD a a'=true∨eD a' a=true)∧(quiet a.op=true∨quiet a'.op=true∨Ev.apart (fp i) (fp j)=true∨Ev.apart (fp j) (fp i)=true)):=by
 rcases Nat.lt_or_gt_of_ne ev with h|h
 ·cases hb:bit j i with
  |true=>exact .inl (.inr ⟨h,rfl⟩)
  |false=>
   refine .inr ⟨.inl (R.slots j a' i a hj hi h hb), ?_⟩
   cases h1:quiet a.op
   ·cases h2:quiet a'.op
    ·exact .inr (.inr (.inl (R.apart j a' i a hj hi h hb h2 h1)))
    ·exact .inr (.inl rfl)
   ·exact .inl rfl
 ·cases hb:bit i j with
  |true=>exact .inl (.inl ⟨h,rfl⟩)
  |false=>
   refine .inr ⟨.inr (R.slots i a j a' hi hj h hb), ?_⟩
   cases h1:quiet a.op
   ·cases h2:quiet a'.op
    ·exact .inr (.inr (.inr (R.apart i a j a' hi hj h hb h1 h2)))
    ·exact .inr (.inl rfl)
   ·exact .inl rfl
theorem wo{x y:aT}(h:eD x y=true∨eD y x=true){t:Nat}:(x.d=some t→t∉looks y∧y.d≠some t):=by
 intro hx
 rcases h with h|h
 ·unfold eD at h
  rw[hx]at h
  simp at h
  exact⟨h.1.1,fun e=>h.1.2 e⟩
 ·unfold eD at h
  rw[hx]at h
  simp at h
  refine⟨h.2,fun e=> ?_⟩
  rw[e]at h
  simp at h
theorem oJ{xs ys:List (Sp×Nat)}(h:fT xs ys=true){κ:Sp×Nat}(h1:κ∈xs)(h2:κ∈ys):False:=by
 unfold fT at h
 rw[List.all_eq_true]at h
 have:=h κ h1
 simp at this
 exact this h2
theorem rQ{xs:List (Sp×Nat)}(h:Cl xs=true){k:Nat}(h1:(Sp.S,k)∈xs):False:=by
 unfold Cl at h
 rw[List.all_eq_true]at h
 have:=h _ h1
 simp at this
theorem Jf{x y:FP}(h:Ev.apart x y=true∨Ev.apart y x=true){sp:Sp}{k:Nat}(hw:wrote y sp k):(sp,k)∉x.r∧(sp,k)∉x.w∧ ¬(x.all=true∧sp= .S):=by
 rcases h with h|h <;> unfold Ev.apart at h <;> simp only[Bool.and_eq_true,Bool.or_eq_true,Bool.not_eq_true']at h <;> obtain⟨⟨⟨⟨a1,a2⟩,a3⟩,a4⟩,a5⟩:=h
 ·rcases hw with hw|⟨hw,rfl⟩
  ·refine⟨fun e=>oJ a3 e hw,fun e=>oJ a2 e hw,fun e=> ?_⟩
   obtain⟨e1,rfl⟩:=e
   rcases a4 with a4|a4
   ·rw[e1]at a4;cases a4
   ·exact rQ a4.2 hw
  ·rcases a5 with a5|a5
   ·rw[hw]at a5;cases a5
   ·refine⟨fun e=>rQ a5.1 e,fun e=>rQ a5.2 e,fun e=> ?_⟩
    rcases a4 with a4|a4
    ·rw[e.1]at a4;cases a4
    ·rw[hw]at a4;simp at a4
 ·rcases hw with hw|⟨hw,rfl⟩
  ·refine⟨fun e=>oJ a1 hw e,fun e=>oJ a2 hw e,fun e=> ?_⟩
   obtain⟨e1,rfl⟩:=e
   rcases a5 with a5|a5
   ·rw[e1]at a5;cases a5
   ·exact rQ a5.2 hw
  ·rcases a4 with a4|a4
   ·rw[hw]at a4;cases a4
   ·refine⟨fun e=>rQ a4.1.2 e,fun e=>rQ a4.2 e,fun e=> ?_⟩
    rw[e.1]at a4;simp at a4
theorem Jg(R:jf E call n as lQ bit pre fp){L:Nat→Prop}(hc:uQ lQ L){s:St}(I:Inv as pre fp L s){i:Nat}{a:aT}(hi:as[i]? =some a)(S3: ¬L i)(U3: ∀ps,lQ[i]? =some ps→ ∀p∈ps,L p):
  ∃s',bu E call n a s=some s'∧Inv as pre fp (fun j=>L j∨j=i) s':=by
 have nG:i<as.length:=(List.getElem?_eq_some_iff.1 hi).1
 obtain⟨r1,r2⟩:=R.run i a hi
 have Eu: ∀t,(t∈looks a∨a.d=some t)→ ∀(j:Nat) (a':aT),as[j]? =some a'→a'.d=some t→(L j↔j<i):=by
  intro t ht j a' hj hd
  have mi:=(List.getElem?_eq_some_iff.1 hj).1
  by_cases Xh:i=j
  ·subst Xh;exact lr R hc nG mi S3 U3 (.inl rfl)
  ·rcases either R hi hj Xh with h|⟨h,_⟩
   ·exact lr R hc nG mi S3 U3 (.inr h)
   ·exfalso
    have:=wo (Or.symm h) hd
    rcases ht with ht|ht
    ·exact this.1 ht
    ·exact this.2 ht
 have yt: ∀sp k,((sp,k)∈(fp i).r∨(sp,k)∈(fp i).w∨((fp i).all=true∧sp= .S))→ ∀j,j<as.length→wrote (fp j) sp k→(L j↔j<i):=by
  intro sp k ht j mi hw
  have hj:as[j]? =some as[j]:=List.getElem?_eq_getElem mi
  by_cases Xh:i=j
  ·subst Xh;exact lr R hc nG mi S3 U3 (.inl rfl)
  ·rcases either R hi hj Xh with h|⟨_,h⟩
   ·exact lr R hc nG mi S3 U3 (.inr h)
   ·exfalso
    rcases h with h|h|h
    ·obtain⟨q1,q2,q3⟩:=AI h r2
     rcases ht with ht|ht|ht
     ·rw[q2]at ht;simp at ht
     ·rw[q3]at ht;simp at ht
     ·rw[q1]at ht;cases ht.1
    ·obtain⟨q1,q2,q3⟩:=AI h (R.run j _ hj).2
     rcases hw with hw|hw
     ·rw[q3]at hw;simp at hw
     ·rw[q1]at hw;cases hw.1
    ·obtain⟨z1,z2,z3⟩:=Jf h hw
     rcases ht with ht|ht|ht
     ·exact z1 ht
     ·exact z2 ht
     ·exact z3 ht
 have Jh:(fp i).all=true→ ∀j,j<as.length→(fp j).all=true→(L j↔j<i):=by
  intro ha j mi Rg
  exact yt .S 0 (.inr (.inr ⟨ha,rfl⟩)) j mi (.inr ⟨Rg,rfl⟩)
 obtain⟨s',e1,e2⟩:=AG (s:=s) r1 r2 (fun t ht=>I.slot t i (Nat.le_of_lt nG) (fun j a' hj hd=>Eu t (.inl ht) j a' hj hd))
  (fun sp k ht=>I.key sp k i (Nat.le_of_lt nG) (fun j mi hw=>yt sp k (ht.elim .inl fun h=> .inr (.inl h)) j mi hw))
  (fun ha=>Je _ _ (fun k=>I.key .S k i (Nat.le_of_lt nG) (fun j mi hw=>yt .S k (.inr (.inr ⟨ha,rfl⟩)) j mi hw)) (I.len i (Nat.le_of_lt nG) (Jh ha)))
 refine⟨s',e1,fun t i' wh hh=> ?_,fun sp k i' wh hh=> ?_,fun i' wh hh=> ?_⟩
 ·rw[e2.slot t]
  split
  ·rename_i hd
   have Xi:i<i':=(hh i a hi hd).1 (.inr rfl)
   rw[AJ R t (i+1) i' Xi wh]
   intro j a' hj h1 h2 Xj
   have hL:=(hh j a' hj Xj).2 h2
   have:=Eu t (.inr hd) j a' hj Xj
   rcases hL with hL|hL
   ·have:=this.1 hL;omega
   ·omega
  ·rename_i hd
   exact I.slot t i' wh (fun j a' hj Xj=>by
    have:=hh j a' hj Xj
    constructor
    ·exact fun hL=>this.1 (.inl hL)
    ·intro eo
     rcases this.2 eo with hL|hL
     ·exact hL
     ·subst hL;rw[hi]at hj;simp at hj;subst hj;exact absurd Xj hd)
 ·by_cases hw:wrote (fp i) sp k
  ·have Xi:i<i':=(hh i nG hw).1 (.inr rfl)
   rw[(e2.key sp k).1 hw,Es R sp k (i+1) i' Xi wh]
   intro j h1 h2 Rh
   have mi:j<as.length:=by omega
   have hL:=(hh j mi Rh).2 h2
   have:=yt sp k (hw.elim (fun e=> .inr (.inl e)) fun e=> .inr (.inr e)) j mi Rh
   rcases hL with hL|hL
   ·have:=this.1 hL;omega
   ·omega
  ·rw[(e2.key sp k).2 hw]
   exact I.key sp k i' wh (fun j mi Rh=>by
    have:=hh j mi Rh
    constructor
    ·exact fun hL=>this.1 (.inl hL)
    ·intro eo
     rcases this.2 eo with hL|hL
     ·exact hL
     ·subst hL;exact absurd Rh hw)
 ·cases ha:(fp i).all with
  |true=>
   have Xi:i<i':=(hh i nG ha).1 (.inr rfl)
   rw[e2.len.1 ha,Et R (i+1) i' Xi wh]
   intro j h1 h2
   cases Rg:(fp j).all with
   |false=>rfl
   |true=>
    have mi:j<as.length:=by omega
    have hL:=(hh j mi Rg).2 h2
    have:=Jh ha j mi Rg
    rcases hL with hL|hL
    ·have:=this.1 hL;omega
    ·omega
  |false=>
   rw[e2.len.2 ha]
   exact I.len i' wh (fun j mi Rg=>by
    have:=hh j mi Rg
    constructor
    ·exact fun hL=>this.1 (.inl hL)
    ·intro eo
     rcases this.2 eo with hL|hL
     ·exact hL
     ·subst hL;rw[ha]at Rg;cases Rg)
end Go.Ev
namespace Go.Ev
open Go
section
variable{P:Program}{E:Env}{call:lj}{n:Nat}{hs:List Nat}{ops:Array Oper}
theorem lR: ∀{os:List Oper} {as:List aT},eg P hs ops os=some as→as.length=os.length∧ ∀(j:Nat) (o:Oper),os[j]? =some o→ ∃a,as[j]? =some a∧qi P hs ops o=some a
 | [],as,h=>by simp[eg]at h;subst h;simp
 |o::os,as,h=>by
  simp only[eg]at h
  split at h
  ·rename_i a as' h1 h2
   simp at h;subst h
   obtain⟨e1,e2⟩:=lR h2
   refine⟨by simp[e1],fun j o' hj=> ?_⟩
   cases j with
   |zero=>simp at hj;subst hj;exact⟨a,rfl,h1⟩
   |succ j=>obtain⟨x,y1,y2⟩:=e2 j o' (by simpa using hj);exact⟨x,by simpa using y1,y2⟩
  ·cases h
theorem Ji(hE:nR P E)(hO:sJ P E call){Q:Exit→Act→World→Prop}: ∀(k i:Nat) (as:List aT),i+k=ops.size→eg P hs ops (ops.toList.drop i)=some as→
  ∀{B:eu} {st bD:St} {a:Act} {w:World} {β:bj} {M:aM},bz B st w β M→lO st a w β M n→au E call n as st=some bD→
  (∀a' w' bB M',bz B bD w' bB M'→lO bD a' w' bB M' n→Tr st w β M bD w' bB M'→w.heap.size≤w'.heap.size→Q .normal a' w')→wpOps P ops Q (List.range' i k) a w
 |0,i,as,Cv,hc,B,st,bD,a,w,β,M,h,hf,he,hq=>by
  have hd:ops.toList.drop i= []:=List.drop_eq_nil_of_le (by simp;omega)
  rw[hd]at hc
  simp[eg]at hc;subst hc
  simp[au]at he;subst he
  simp only[List.range',wpOps]
  exact hq a w β M h hf (Tr.refl _ _ _ _) (Nat.le_refl _)
 |k+1,i,as,Cv,hc,B,st,bD,a,w,β,M,h,hf,he,hq=>by
  have hi:i<ops.toList.length:=by simp;omega
  rw[List.drop_eq_getElem_cons hi]at hc
  simp only[eg]at hc
  split at hc
  ·rename_i ao as' h1 h2
   simp at hc;subst hc
   simp only[au]at he
   split at he
   ·rename_i eb jd
    rw[List.range'_succ,wpOps_cons]
    refine Eo hE hO (o:=ops.toList[i]) (by simp at hi ⊢) h1 h hf jd ?_
    intro a' w' bB M' r1 r2 r3 r4
    exact Ji hE hO k (i+1) as' (by omega) h2 r1 r2 he (fun a2 w2 β2 M2 s1 s2 s3 s4=>hq a2 w2 β2 M2 s1 s2 (r3.trans s3 r4) (Nat.le_trans r4 s4))
   ·cases he
  ·cases hc
theorem Xk{B:eu}{s s':St}{w:World}{β:bj}{M:aM}(hg: ∀sp k,s'.get sp k=s.get sp k)(h:bz B s w β M):bz B s' w β M:=by
 have wq:s'.gens=s.gens:=by funext sp k;show(s'.get sp k).g=_;rw[hg]
 refine⟨fun sp k=>by rw[hg,wq];exact h.obj sp k,fun sp k cQ k' l1 l2 e=> ?_,h.mlt,fun k hl=> ?_,fun k hl=> ?_,h.os,h.tape,h.output,h.size,h.same,h.keep,h.msup⟩
 ·rw[hg]at l1 l2;rw[wq]at e;exact h.dist sp k cQ k' l1 l2 e
 ·rw[hg]at hl;rw[wq];exact h.lblk k hl
 ·rw[hg]at hl;rw[wq];exact h.sblk k hl
theorem Xl{s s':St}{a:Act}{w:World}{β:bj}{M:aM}(hg: ∀sp k,s'.get sp k=s.get sp k)(hf: ∀t,ak s'.fr t=ak s.fr t)(h:lO s a w β M n):lO s' a w β M n:=by
 have wq:s'.gens=s.gens:=by funext sp k;show(s'.get sp k).g=_;rw[hg]
 exact⟨h.size,h.defers,fun t=>by rw[wq,hf];exact h.slot t⟩
theorem S4{st s s':St}{w w':World}{β bB:bj}{M M':aM}(hg: ∀sp k,s'.get sp k=s.get sp k)(h:Tr st w β M s w' bB M'):Tr st w β M s' w' bB M':=by
 have wq:s'.gens=s.gens:=by funext sp k;show(s'.get sp k).g=_;rw[hg]
 exact⟨h.keep,h.beta,by rw[wq];exact h.gens⟩
theorem S5(hE:nR P E)(hO:sJ P E call){Q:Exit→Act→World→Prop}{as:List aT}{bit:Nat→Nat→Bool}{pre:Nat→St}{fp:Nat→FP}(hc:eg P hs ops ops.toList=some as)
  (R:jf E call n as (ops.toList.map dx) bit pre fp) {B:eu} {st:St} {w:World} {β:bj} {M:aM}:
  ∀(fuel:Nat) (cB:Array Bool) (s:St) (a:Act) (w1:World) (yu:bj) (M1:aM),cB.size=ops.size→((List.range ops.size).filter fun i=> !cB.getD i true).length≤fuel→uQ (ops.toList.map dx) (fun j=>cB.getD j false=true)→
   Inv as pre fp (fun j=>cB.getD j false=true) s→bz B s w1 yu M1→lO s a w1 yu M1 n→Tr st w β M s w1 yu M1→w.heap.size≤w1.heap.size→
   (∀a' w' bB M',bz B (pre as.length) w' bB M'→lO (pre as.length) a' w' bB M' n→Tr st w β M (pre as.length) w' bB M'→w.heap.size≤w'.heap.size→Q .normal a' w')→
   wpAny P .any ops Q fuel cB a w1:=by
 obtain⟨hlen,Xm⟩:=lR hc
 have qK:as.length=ops.size:=by simpa using hlen
 have done: ∀(cB:Array Bool) (s:St) (a:Act) (w1:World) (yu:bj) (M1:aM),cB.size=ops.size→uQ (ops.toList.map dx) (fun j=>cB.getD j false=true)→Inv as pre fp (fun j=>cB.getD j false=true) s→bz B s w1 yu M1→lO s a w1 yu M1 n→Tr st w β M s w1 yu M1→w.heap.size≤w1.heap.size→
   (∀a' w' bB M',bz B (pre as.length) w' bB M'→lO (pre as.length) a' w' bB M' n→Tr st w β M (pre as.length) w' bB M'→w.heap.size≤w'.heap.size→Q .normal a' w')→Region.ready .any ops cB= []→Q .normal a w1:=by
  intro cB s a w1 yu M1 Xn eA I h hf ht oI hq hr
  have all: ∀j,j<ops.size→cB.getD j false=true:=by
   intro j
   induction j using Nat.strongRecOn with
   |_ j ih=>
    intro hj
    cases hb:cB.getD j false with
    |true=>rfl
    |false=>
     exfalso
     have:j∈Region.ready .any ops cB:=by
      unfold Region.ready
      rw[List.mem_filter]
      refine⟨List.mem_range.2 hj, ?_⟩
      have h1:cB.getD j true=false:=by
       have mi:j<cB.size:=by omega
       simp[Array.getD_eq_getD_getElem?,Array.getElem?_eq_getElem mi]at hb ⊢; exact hb
      rw[h1]
      simp only[Bool.not_false,Bool.true_and]
      have ho:ops[j]? =some ops[j]:=Array.getElem?_eq_getElem hj
      rw[ho]
      simp only[Option.map_some,Option.getD_some]
      rw[←Array.all_toList,List.all_eq_true]
      intro e he
      cases jP:Region.binds .any e with
      |false=>rfl
      |true=>
       simp only[Bool.not_true,Bool.false_or]
       have acB:e.on∈dx ops[j]:=by
        unfold dx
        exact List.mem_map.2 ⟨e,List.mem_filter.2 ⟨he,jP⟩,rfl⟩
       have hpj:(ops.toList.map dx)[j]? =some (dx ops[j]):=by simp[ho]
       have eo:=R.edges j _ hpj e.on acB
       exact ih e.on eo (by omega)
     rw[hr]at this;simp at this
  have cond: ∀j,j<as.length→(cB.getD j false=true↔j<as.length):=fun j hj=>⟨fun _=>hj,fun _=>all j (by omega)⟩
  have g1: ∀sp k,(pre as.length).get sp k=s.get sp k:=fun sp k=>(I.key sp k as.length (Nat.le_refl _) (fun j hj _=>cond j hj)).symm
  have g2: ∀t,ak (pre as.length).fr t=ak s.fr t:=fun t=>(I.slot t as.length (Nat.le_refl _) (fun j a hj _=>cond j (List.getElem?_eq_some_iff.1 hj).1)).symm
  exact hq a w1 yu M1 (Xk g1 h) (Xl g1 g2 hf) (S4 g1 ht) oI
 intro fuel
 induction fuel with
 |zero=>
  intro cB s a w1 yu M1 Xn Xo eA I h hf ht oI hq
  have hr:Region.ready .any ops cB= []:=by
   have h0:(List.range ops.size).filter (fun i=> !cB.getD i true)= []:=List.eq_nil_of_length_eq_zero (Nat.le_zero.1 Xo)
   unfold Region.ready
   rw[List.filter_eq_nil_iff]at h0 ⊢
   intro x hx hh
   simp only[Bool.and_eq_true]at hh
   exact h0 x hx hh.1
  exact⟨hr,done cB s a w1 yu M1 Xn eA I h hf ht oI hq hr⟩
 |succ fuel ih=>
  intro cB s a w1 yu M1 Xn Xo eA I h hf ht oI hq
  refine⟨done cB s a w1 yu M1 Xn eA I h hf ht oI hq,fun i hi=> ?_⟩
  unfold Region.ready at hi
  rw[List.mem_filter]at hi
  obtain⟨hir,S6⟩:=hi
  have nG:i<ops.size:=List.mem_range.1 hir
  have ho:ops[i]? =some ops[i]:=Array.getElem?_eq_getElem nG
  rw[ho]at S6
  simp only[Bool.and_eq_true,Bool.not_eq_true',Option.map_some,Option.getD_some]at S6
  obtain⟨Xp,Hy⟩:=S6
  have S7:i<cB.size:=by omega
  have pI: ¬(cB.getD i false=true):=by
   simp[Array.getD_eq_getD_getElem?,Array.getElem?_eq_getElem S7]at Xp ⊢; exact Xp
  have Xq: ∀ps,(ops.toList.map dx)[i]? =some ps→ ∀p∈ps,cB.getD p false=true:=by
   intro ps yq p hp
   simp[ho]at yq;subst yq
   unfold dx at hp
   obtain⟨e,he,rfl⟩:=List.mem_map.1 hp
   obtain⟨jd,B2⟩:=List.mem_filter.1 he
   rw[←Array.all_toList,List.all_eq_true]at Hy
   have:=Hy e jd
   simpa[B2]using this
  obtain⟨ao,hao,wu⟩:=Xm i ops[i] (by simp)
  obtain⟨s',he,I'⟩:=Jg R eA I hao pI Xq
  refine Eo hE hO ho wu h hf he ?_
  intro a' w' bB M' r1 r2 r3 r4
  have Ax: ∀j,(cB.setIfInBounds i true).getD j false=true↔(cB.getD j false=true∨j=i):=by
   intro j
   simp only[Array.getD_eq_getD_getElem?,Array.getElem?_setIfInBounds]
   by_cases hj:i=j
   ·subst hj;simp[S7]
   ·rw[if_neg hj]
    exact⟨.inl,fun e=>e.resolve_right (fun e=>hj e.symm)⟩
  refine ih (cB.setIfInBounds i true) s' a' w' bB M' (by simp[Xn]) ?_ ?_ ?_ r1 r2 (ht.trans r3 oI) (Nat.le_trans oI r4) hq
  ·have hfe:(List.range ops.size).filter (fun j=> !(cB.setIfInBounds i true).getD j true)=((List.range ops.size).filter (fun j=> !cB.getD j true)).filter (fun j=>decide (j≠i)):=by
    rw[List.filter_filter]
    apply List.filter_congr
    intro j hj
    simp only[Array.getD_eq_getD_getElem?,Array.getElem?_setIfInBounds]
    by_cases hji:i=j
    ·subst hji;simp[S7]
    ·have: ¬j=i:=fun e=>hji e.symm
     rw[if_neg hji];simp[this]
   rw[hfe]
   have eo:(((List.range ops.size).filter (fun j=> !cB.getD j true)).filter (fun j=>decide (j≠i))).length<((List.range ops.size).filter (fun j=> !cB.getD j true)).length:=by
    rw[List.length_filter_lt_length_iff_exists]
    exact⟨i,List.mem_filter.2 ⟨hir,by rw[Xp];rfl⟩,by simp⟩
   omega
  ·intro j ps yq hj p hp
   rw[Ax]at hj ⊢
   rcases hj with hj|hj
   ·exact .inl (eA j ps yq hj p hp)
   ·subst hj;exact .inl (Xq ps yq p hp)
  ·have:(fun j=>(cB.setIfInBounds i true).getD j false=true)=(fun j=>cB.getD j false=true∨j=i):=by funext j;exact propext (Ax j)
   rw[this];exact I'
end
end Go.Ev
namespace Go.Ev
open Go
def S8:Out→Exit
 | .nrm=> .normal
 | .ext id=> .exit id
 | .ret=> .ret
section
variable{P:Program}{E:Env}{call:lj}{n:Nat}{hs:List Nat}
theorem Jj{l:List Nat}{j:Nat}(h:j<l.length):l[j]? =some (aZ 0 l j):=by
 induction l generalizing j with
 |nil=>simp at h
 |cons x xs ih=>
  cases j with
  |zero=>rfl
  |succ j=>simp only[aZ];simpa using ih (by simpa using h)
theorem Jk(hE:nR P E)(hO:sJ P E call)(hm:P.follows .mixedOrders=true){id:Nat}{ops:Array Oper}{as:List aT}(hc:eg P hs ops ops.toList=some as)(jd:qj 0 (ops.toList.map dx)=true)(B2:qk (kA (ops.toList.map dx) []) [] as=true)
  {B:eu} {st bD:St} {a:Act} {w:World} {β:bj} {M:aM} (h:bz B st w β M) (hf:lO st a w β M n) (S9:aL E call n (mg (kA (ops.toList.map dx) []) [] as) [] st=some bD) {Q:Exit→Act→World→Prop}
  (hq: ∀a' w' bB M',bz B bD w' bB M'→lO bD a' w' bB M' n→Tr st w β M bD w' bB M'→w.heap.size≤w'.heap.size→Q .normal a' w'):(Code.region id ops true).wp P Q a w:=by
 obtain⟨hlen,Xm⟩:=lR hc
 obtain⟨m1,m2,m3⟩:=uN (ops.toList.map dx) []
 have Rf:(kA (ops.toList.map dx) []).length=as.length:=by rw[m1,hlen];simp
 obtain⟨pre,fp,p1,p2,p3⟩:=uP as [] _ [] st bD rfl Rf S9
 have hmj: ∀j,j<as.length→(kA (ops.toList.map dx) [])[j]? =some (aZ 0 (kA (ops.toList.map dx) []) j):=fun j hj=>Jj (by rw[Rf];exact hj)
 have hed:=qI _ 0 jd
 have R:jf E call n as (ops.toList.map dx) (fun j i=>(aZ 0 (kA (ops.toList.map dx) []) j).testBit i) pre fp:=by
  refine⟨by rw[hlen];simp,fun j ps hj p hp=>by have:=hed j ps hj p hp;omega,fun j ps hj i=> ?_,fun j a' hj=> ?_,fun j a1 k a2 hj hk eo hb=> ?_,fun j a1 k a2 hj hk eo hb kF nz=> ?_⟩
  ·have:=m3 j ps hj i
   simp only[List.length_nil,Nat.zero_add]at this
   rw[this]
   constructor
   ·rintro⟨p,hp,e⟩
    refine⟨p,hp,e.imp (fun x=>x) fun e=> ?_⟩
    rw[if_pos (by have:=hed j ps hj p hp;omega)]at e;exact e
   ·rintro⟨p,hp,e⟩
    refine⟨p,hp,e.imp (fun x=>x) fun e=> ?_⟩
    rw[if_pos (by have:=hed j ps hj p hp;omega)];exact e
  ·obtain⟨e1,e2,_⟩:=p3 j a' _ hj (hmj j (List.getElem?_eq_some_iff.1 hj).1)
   exact⟨e1,e2⟩
  ·exact qJ as [] _ B2 j a1 hj _ (hmj j (List.getElem?_eq_some_iff.1 hj).1) k a2 (by simpa using eo) (by simpa using hk) hb
  ·obtain⟨_,_,e3⟩:=p3 j a1 _ hj (hmj j (List.getElem?_eq_some_iff.1 hj).1)
   have:=e3 k a2 (by simpa using eo) (by simpa using hk) hb kF nz
   simpa using this
 obtain⟨d1,d2⟩:=D7 h (w.drawn+1)
 refine wp_region_any hm ?_
 have Xr: ∀j,((Array.replicate ops.size false).getD j false=true)↔False:=by
  intro j
  simp only[Array.getD_eq_getD_getElem?,Array.getElem?_replicate]
  split <;> simp
 have hI:Inv as pre fp (fun j=>(Array.replicate ops.size false).getD j false=true) st:=by
  have acF:(fun j=>(Array.replicate ops.size false).getD j false=true)=fun _=>False:=by funext j;exact propext (Xr j)
  rw[acF]
  refine⟨fun t i hi hh=> ?_,fun sp k i hi hh=> ?_,fun i hi hh=> ?_⟩
  ·rw[AJ R t 0 i (Nat.zero_le _) hi (fun j a' hj _ eo hd=>(hh j a' hj hd).2 eo),p1]
  ·rw[Es R sp k 0 i (Nat.zero_le _) hi (fun j _ eo hw=>(hh j (by omega) hw).2 eo),p1]
  ·rw[Et R 0 i (Nat.zero_le _) hi (fun j _ eo=>by
    cases uH:(fp j).all with
    |false=>rfl
    |true=>exact((hh j (by omega) uH).2 eo).elim),p1]
 refine S5 (st:=st) (w:=w) (β:=β) (M:=M) hE hO hc R ops.size _ st a _ β M (by simp) ?_ ?_ hI d1 ⟨hf.size,hf.defers,fun t=>d2.val (hf.slot t)⟩ d2 (Nat.le_refl _) ?_
 ·exact Nat.le_trans (List.length_filter_le _ _) (by simp)
 ·intro j ps _ hj
  exact((Xr j).1 hj).elim
 ·intro a' w' bB M' r1 r2 r3 r4
  rw[p2]at r1 r2 r3
  exact hq a' w' bB M' r1 r2 r3 r4
theorem Ta(hE:nR P E)(hO:sJ P E call)(hm:P.follows .mixedOrders=true)(fl:Nat): ∀(c:Code) (ac:aN),fP P hs c=some ac→
  ∀{B:eu} {st bD:St} {a:Act} {w:World} {β:bj} {M:aM} {o:Out},bz B st w β M→lO st a w β M n→fU E call fl n ac st=some (o,bD)→ ∀{Q:Exit→Act→World→Prop},
  (∀a' w' bB M',bz B bD w' bB M'→lO bD a' w' bB M' n→Tr st w β M bD w' bB M'→w.heap.size≤w'.heap.size→Q (S8 o) a' w')→c.wp P Q a w:=by
 intro c
 induction c with
 |skip=>
  intro ac hc B st bD a w β M o h hf he Q hq
  simp[fP]at hc;subst hc
  simp[fU]at he;obtain⟨rfl,rfl⟩:=he
  exact wp_skip (hq a w β M h hf (Tr.refl _ _ _ _) (Nat.le_refl _))
 |region id ops draw=>
  intro ac hc B st bD a w β M o h hf he Q hq
  cases draw with
  |false=>
   simp only[fP,Option.map_eq_some_iff]at hc
   obtain⟨as,h1,rfl⟩:=hc
   simp only[fU,Option.map_eq_some_iff]at he
   obtain⟨eb,h2,h3⟩:=he
   simp at h3;obtain⟨rfl,rfl⟩:=h3
   refine wp_region ?_
   rw[List.range_eq_range']
   exact Ji hE hO ops.size 0 as (by omega) (by simpa using h1) h hf h2 hq
  |true=>
   simp only[fP]at hc
   split at hc
   ·rename_i as h1
    split at hc
    ·rename_i fg
     simp only[Bool.and_eq_true]at fg
     simp at hc;subst hc
     simp only[fU,Option.map_eq_some_iff]at he
     obtain⟨eb,h2,h3⟩:=he
     simp at h3;obtain⟨rfl,rfl⟩:=h3
     exact Jk hE hO hm h1 fg.1 fg.2 h hf h2 hq
    ·cases hc
   ·cases hc
 |seq x y Xs Tb=>
  intro ac hc B st bD a w β M o h hf he Q hq
  simp only[fP]at hc
  split at hc
  ·rename_i ax ay h1 h2
   simp at hc;subst hc
   simp only[fU]at he
   refine wp_seq ?_
   cases hx:fU E call fl n ax st with
   |none=>simp[hx]at he
   |some p=>
    obtain⟨ox,eb⟩:=p
    cases ox with
    |nrm=>
     simp only[hx]at he
     refine Xs ax h1 h hf hx ?_
     intro a' w' bB M' r1 r2 r3 r4
     exact Tb ay h2 r1 r2 he (fun a2 w2 β2 M2 s1 s2 s3 s4=>hq a2 w2 β2 M2 s1 s2 (r3.trans s3 r4) (Nat.le_trans r4 s4))
    |ext id=>
     simp[hx]at he;obtain⟨rfl,rfl⟩:=he
     exact Xs ax h1 h hf hx hq
    |ret=>
     simp[hx]at he;obtain⟨rfl,rfl⟩:=he
     exact Xs ax h1 h hf hx hq
  ·cases hc
 |cond c x y Xs Tb=>
  intro ac hc B st bD a w β M o h hf he Q hq
  simp only[fP]at hc
  split at hc
  ·rename_i c' ax ay h0 h1 h2
   simp at hc;subst hc
   simp only[fU]at he
   have vc:=IX hf c c' h0
   split at he
   ·rename_i e
    rw[e]at vc
    exact wp_cond_true vc.bool (Xs ax h1 h hf he hq)
   ·rename_i e
    rw[e]at vc
    exact wp_cond_false vc.bool (Tb ay h2 h hf he hq)
   ·cases he
  ·cases hc
 |block id x ih=>
  intro ac hc B st bD a w β M o h hf he Q hq
  simp only[fP,Option.map_eq_some_iff]at hc
  obtain⟨ax,h1,rfl⟩:=hc
  simp only[fU]at he
  refine wp_block ?_
  cases hx:fU E call fl n ax st with
  |none=>simp[hx]at he
  |some p=>
   obtain⟨ox,eb⟩:=p
   cases ox with
   |nrm=>simp[hx]at he;obtain⟨rfl,rfl⟩:=he;exact ih ax h1 h hf hx hq
   |ret=>simp[hx]at he;obtain⟨rfl,rfl⟩:=he;exact ih ax h1 h hf hx hq
   |ext D6=>
    simp only[hx]at he
    by_cases ZS:D6=id
    ·simp only[ZS,if_true,Option.some.injEq,Prod.mk.injEq]at he
     obtain⟨rfl,rfl⟩:=he
     refine ih ax h1 h hf hx ?_
     intro a' w' bB M' r1 r2 r3 r4
     show Exit.inBlock id Q (.exit D6) a' w'
     simp only[Exit.inBlock,ZS,if_true]
     exact hq a' w' bB M' r1 r2 r3 r4
    ·simp only[ZS,if_false,Option.some.injEq,Prod.mk.injEq]at he
     obtain⟨rfl,rfl⟩:=he
     refine ih ax h1 h hf hx ?_
     intro a' w' bB M' r1 r2 r3 r4
     show Exit.inBlock id Q (.exit D6) a' w'
     simp only[Exit.inBlock,ZS,if_false]
     exact hq a' w' bB M' r1 r2 r3 r4
 |loop x ih=>
  intro ac hc B st bD a w β M o h hf he Q hq
  simp only[fP,Option.map_eq_some_iff]at hc
  obtain⟨ax,h1,rfl⟩:=hc
  simp only[fU]at he
  have key: ∀(m:Nat) (eb:St) (a1:Act) (w1:World) (yu:bj) (M1:aM),bz B eb w1 yu M1→lO eb a1 w1 yu M1 n→Tr st w β M eb w1 yu M1→w.heap.size≤w1.heap.size→iter (fU E call fl n ax) m eb=some (o,bD)→Code.rounds P x Q m a1 w1:=by
   intro m
   induction m with
   |zero=>intro eb a1 w1 yu M1 _ _ _ _ hi;simp[iter]at hi
   |succ m ihm=>
    intro eb a1 w1 yu M1 g1 g2 g3 g4 hi
    rw[rounds_succ]
    simp only[iter]at hi
    cases hx:fU E call fl n ax eb with
    |none=>simp[hx]at hi
    |some p=>
     obtain⟨ox,zD⟩:=p
     cases ox with
     |nrm=>
      simp only[hx]at hi
      refine ih ax h1 g1 g2 hx ?_
      intro a' w' bB M' r1 r2 r3 r4
      exact ihm zD a' w' bB M' r1 r2 (g3.trans r3 g4) (Nat.le_trans g4 r4) hi
     |ext id=>
      simp[hx]at hi;obtain⟨rfl,rfl⟩:=hi
      refine ih ax h1 g1 g2 hx ?_
      intro a' w' bB M' r1 r2 r3 r4
      exact hq a' w' bB M' r1 r2 (g3.trans r3 g4) (Nat.le_trans g4 r4)
     |ret=>
      simp[hx]at hi;obtain⟨rfl,rfl⟩:=hi
      refine ih ax h1 g1 g2 hx ?_
      intro a' w' bB M' r1 r2 r3 r4
      exact hq a' w' bB M' r1 r2 (g3.trans r3 g4) (Nat.le_trans g4 r4)
  exact wp_loop_rounds fl (key fl st a w β M h hf (Tr.refl _ _ _ _) (Nat.le_refl _) he)
 |exit id=>
  intro ac hc B st bD a w β M o h hf he Q hq
  simp[fP]at hc;subst hc
  simp[fU]at he;obtain⟨rfl,rfl⟩:=he
  exact wp_exit (hq a w β M h hf (Tr.refl _ _ _ _) (Nat.le_refl _))
 |ret=>
  intro ac hc B st bD a w β M o h hf he Q hq
  simp[fP]at hc;subst hc
  simp[fU]at he;obtain⟨rfl,rfl⟩:=he
  exact wp_ret (hq a w β M h hf (Tr.refl _ _ _ _) (Nat.le_refl _))
 |rangeFunc _ _ _ _=>intro ac hc;simp[fP]at hc
 |scope _=>intro ac hc;simp[fP]at hc
 |label _=>intro ac hc;simp[fP]at hc
 |goto _=>intro ac hc;simp[fP]at hc
 |refuse _=>intro ac hc;simp[fP]at hc
end
end Go.Ev
namespace Go.Ev
open Go
section
variable{P:Program}{E:Env}{n:Nat}
def yw(ts:Array Value)(r:ResultVar):Sem Value:=
 match r with
 | .tmp t=>pure (ts.getD t undef)
 | .cell ad t=>do loadVar t (←asAddr (ts.getD ad undef))
theorem CH(fn:Func)(ts:Array Value):results fn ts=(do
  let vs ←(List.toArray <$> fn.results.toList.mapM (yw ts))
  pure (if h:vs.size=1 then vs[0]else .tuple vs)):=by
 unfold results
 rw[Array.mapM_eq_mapM_toList]
 congr 2
theorem pK{B:eu}{st:St}{a:Act}{w:World}{β:bj}{M:aM}(h:bz B st w β M)(hf:lO st a w β M n): ∀(rs:List ResultVar) (Ri:List ur) (vs:List T),mP P rs=some Ri→fx st Ri=some vs→
  ∃pV:List Value,(rs.mapM (yw a.tmps)).run P w=Result.ok pV w∧aA β st.gens w M vs pV
 | [],Ri,vs,hc,hr=>by
   simp[mP]at hc;subst hc
   simp[fx]at hr;subst hr
   exact⟨[],by simp,by simp[aA]⟩
 | .tmp t::rs,Ri,vs,hc,hr=>by
   simp only[mP,Option.map_eq_some_iff]at hc
   obtain⟨Tc,h1,rfl⟩:=hc
   simp only[fx,Ag]at hr
   split at hr
   ·rename_i v mR e1 e2
    simp at hr e1;subst hr;subst e1
    obtain⟨pV,r1,r2⟩:=pK h hf rs Tc mR h1 e2
    refine⟨a.tmps.getD t undef::pV, ?_, ?_⟩
    ·rw[List.mapM_cons]
     simp only[yw,Sem.run_bind,Sem.run_pure,Result.andThen_ok,r1]
    ·simp only[aA];exact⟨_,_,rfl,hf.slot t,r2⟩
   ·cases hr
 | .cell ad t::rs,Ri,vs,hc,hr=>by
   simp only[mP]at hc
   split at hc
   ·rename_i sz ag Tc h1 h2 h3
    simp at hc;subst hc
    simp only[fx,Ag]at hr
    split at hr
    ·rename_i v mR e1 e2
     simp at hr;subst hr
     obtain⟨pV,r1,r2⟩:=pK h hf rs Tc mR h3 e2
     obtain⟨ad',cv,q1,q2,q3⟩:=An (P:=P) h h1 h2 (hf.slot ad) e1
     refine⟨cv::pV, ?_, ?_⟩
     ·rw[List.mapM_cons]
      simp only[yw,Sem.run_bind,q1,asAddr,Sem.run_pure,Result.andThen_ok,q2,r1]
     ·simp only[aA];exact⟨_,_,rfl,q3,r2⟩
    ·cases hr
   ·cases hc
theorem F8{β:bj}{G:Sp→Nat→Nat}{w:World}{M:aM}{args:List T}{ch:Array Value}(hl:aA β G w M args ch.toList)(k:Nat)(t:Nat):aw β G w M (ak (iO args) t) ((ch++Array.replicate k undef).getD t undef):=by
 have hlen:=aA.length _ _ hl
 by_cases ht:t<args.length
 ·have hg:args[t]? =some args[t]:=List.getElem?_eq_getElem ht
  obtain⟨cv,c1,c2⟩:=hl.get hg
  have e1:ak (iO args) t=args[t]:=by
   rw[wQ]
   have: ∀(l:List T) (j:Nat) (hj:j<l.length),aZ bA l j=l[j]:=by
    intro l
    induction l with
    |nil=>intro j hj;simp at hj
    |cons x xs ih=>intro j hj;cases j with|zero=>rfl|succ j=>exact ih j (by simpa using hj)
   exact this args t ht
  have WS:ch[t]? =some cv:=by simpa using c1
  have je:t<ch.size:=by simp at hlen;omega
  have e2:(ch++Array.replicate k undef).getD t undef=cv:=by
   rw[Array.getD_eq_getD_getElem?,Array.getElem?_append_left je,WS];rfl
  rw[e1,e2];exact c2
 ·have e1:ak (iO args) t=bA:=by
   rw[wQ]
   have: ∀(l:List T) (j:Nat),l.length≤j→aZ bA l j=bA:=by
    intro l
    induction l with
    |nil=>intro j _;rfl
    |cons x xs ih=>intro j hj;cases j with|zero=>simp at hj|succ j=>exact ih j (by simpa using hj)
   exact this args t (by omega)
  have e2:(ch++Array.replicate k undef).getD t undef=undef:=by
   rw[Array.getD_eq_getD_getElem?,Array.getElem?_append_right (by simp at hlen;omega),Array.getElem?_replicate]
   split <;> rfl
  rw[e1,e2]
  simp[aw,bA,undef,aA]
def pack:List T→T
 | [v]=>v
 |vs=> .tup vs
theorem Jl{keep:Bool}{n:Nat}:fz keep (n+1) .nilsl= .ret (.nilsl,[]):=rfl
theorem uS{f:T→Q (T×List Up)}{h:Sp→Nat→aB}{nx:Nat}(hf:f .nilsl= .ret (.nilsl,[])): ∀(ts:List T) {j:Nat} {q:List T×List Up},(bC f ts).run h nx=some q→ts[j]? =some .nilsl→q.1[j]? =some .nilsl
 | [],j,q,_,hj=>by simp at hj
 |t::ts,j,q,hq,hj=>by
  simp only[bC,Q.run_bind]at hq
  cases h1:(f t).run h nx with
  |none=>simp[h1]at hq
  |some p=>
   simp only[h1,Option.bind_some]at hq
   cases h2:(bC f ts).run h nx with
   |none=>simp[h2]at hq
   |some q2=>
    simp only[h2,Option.bind_some,Q.run,Option.some.injEq]at hq
    subst hq
    cases j with
    |zero=>
     simp at hj;subst hj
     rw[hf]at h1;simp[Q.run]at h1;subst h1;rfl
    |succ j=>simpa using uS hf ts h2 (by simpa using hj)
theorem MK{r t:T}{us:List Up}{h:Sp→Nat→aB}{nx j:Nat}(hz:(fz false aU r).run h nx=some (t,us))(hc:fw r j=some .nilsl):fw t j=some .nilsl:=by
 cases r
 case tup vs=>
  have hz:((bC (fz false 7) vs).bind fun q=>Q.ret (T.tup q.1,q.2)).run h nx=some (t,us):=hz
  rw[Q.run_bind]at hz
  cases h1:(bC (fz false 7) vs).run h nx with
  |none=>simp[h1]at hz
  |some q=>
   simp only[h1,Option.bind_some,Q.run,Option.some.injEq,Prod.mk.injEq]at hz
   obtain⟨rfl,rfl⟩:=hz
   exact uS Jl vs h1 hc
 case agg vs=>
  have hz:((bC (fz false 7) vs).bind fun q=>Q.ret (T.agg q.1,q.2)).run h nx=some (t,us):=hz
  rw[Q.run_bind]at hz
  cases h1:(bC (fz false 7) vs).run h nx with
  |none=>simp[h1]at hz
  |some q=>
   simp only[h1,Option.bind_some,Q.run,Option.some.injEq,Prod.mk.injEq]at hz
   obtain⟨rfl,rfl⟩:=hz
   exact uS Jl vs h1 hc
 all_goals
  simp only[fw,Option.some.injEq]at hc
  try (cases hc;done)
 simp[aU,fz,Q.run]at hz
 obtain⟨rfl,rfl⟩:=hz
 rfl
theorem uT(hE:nR P E)(hm:P.follows .mixedOrders=true){m:Nat}(hO:sJ P E (cL E m)){f:Nat}{af:aE}{args:List T}{sh:List aB}{r:T}{br:List aB}(uM:E.fn f=some af)(az:cL E (m+1) f args sh=some (r,br))
  {w:World} {β:bj} {M:aM} {ch:Array Value} (po:bz ⟨w,M,dN sh β⟩ (bare .nil sh) w β M) (hV0:aA β (bare .nil sh).gens w M args ch.toList) {Q:Ending→World→Prop}
  (hQ: ∀eb vs w' bB M' v,bz ⟨w,M,dN sh β⟩ eb w' bB M'→ln af.own af.eff vs eb=some (r,br)→aw bB eb.gens w' M' (pack vs) v→Tr (bare (iO args) sh) w β M eb w' bB M'→Q (.returned v) w'):Calls P f ch w Q:=by
  obtain⟨hs,fn,hf,pW⟩:=hE.1 f af uM
  simp only[cL,uM]at az
  split at az
  ·cases az
  ·rename_i hlen
   unfold Ah at pW
   split at pW
   ·cases pW
   ·split at pW
    ·cases pW
    ·rename_i code Xt
     split at pW
     ·rename_i ac Ri h1 h2
      simp at pW
      have hV:aA β (bare (iO args) sh).gens w M args ch.toList:=hV0
      have eA:=aA.length _ _ hV
      have hn:fn.ntmps=af.n:=by rw[←pW]
      have Xu:af.code=ac:=by rw[←pW]
      have pd:af.res=Ri:=by rw[←pW]
      rw[Xu]at az
      cases S9:fU E (cL E m) m af.n ac {fr:=iO args,lh:= .nil,sh}with
      |none=>simp[S9]at az
      |some p=>
       obtain⟨o,eb⟩:=p
       have FY:o≠ .nrm→o≠ .ret→False:=by
        intro n1 n2
        cases o with
        |nrm=>exact n1 rfl
        |ret=>exact n2 rfl
        |ext id=>simp[S9]at az
       have CI: ∃vs,fx eb af.res=some vs∧ln af.own af.eff vs eb=some (r,br):=by
        cases o with
        |nrm=>
         simp only[S9]at az
         split at az
         ·rename_i vs hv
          exact⟨vs,hv,az⟩
         ·cases az
        |ret=>
         simp only[S9]at az
         split at az
         ·rename_i vs hv
          exact⟨vs,hv,az⟩
         ·cases az
        |ext id=>exact(FY (by simp) (by simp)).elim
       obtain⟨Vn,acG,CI⟩:=CI
       have hF:lO (bare (iO args) sh) {tmps:=ch++Array.replicate (fn.ntmps-ch.size) undef,defers:= []} w β M af.n:=by
        refine⟨by simp at eA ⊢; omega,rfl,fun t=>F8 hV _ t⟩
       refine calls_of_wp hf Xt ?_
       refine Ta (n:=af.n) hE hO hm m code ac h1 (B:=⟨w,M,dN sh β⟩) (st:=bare (iO args) sh) (MG po (iO args)) hF S9 ?_
       intro a' w' bB M' r1 r2 r3 r4
       have post:a'.defers= []∧ ∃v,(results fn a'.tmps).run P w'= .ok v w'∧Q (.returned v) w':=by
        refine⟨r2.defers, ?_⟩
        have hra:=acG
        rw[pd]at hra
        obtain⟨pV,q1,q2⟩:=pK (P:=P) r1 r2 fn.results.toList Ri Vn h2 hra
        have Xv:(results fn a'.tmps).run P w'= .ok (if hh:pV.toArray.size=1 then pV.toArray[0]else .tuple pV.toArray) w':=by
         rw[CH]
         simp only[Sem.run_bind,Sem.run_map,q1,Result.andThen_ok,Sem.run_pure]
        have Jm:aw bB eb.gens w' M' (pack Vn) (if hh:pV.toArray.size=1 then pV.toArray[0]else .tuple pV.toArray):=by
         have zA:=aA.length _ _ q2
         cases Vn with
         |nil=>
          simp only[aA]at q2;subst q2
          simp[pack,aw,aA]
         |cons v vs=>
          cases vs with
          |nil=>
           simp only[aA]at q2
           obtain⟨u,us,rfl,k1,rfl⟩:=q2
           simpa[pack]using k1
          |cons v2 vs=>
           have:pV.toArray.size≠1:=by simp at zA ⊢; omega
           rw[dif_neg this]
           simp only[pack,aw]
           exact⟨_,rfl,by simpa using q2⟩
        exact⟨_,Xv,hQ eb Vn w' bB M' _ r1 CI Jm r3⟩
       cases o with
       |nrm=>exact post
       |ret=>exact post
       |ext id=>exact(FY (by simp) (by simp)).elim
     ·cases pW
theorem sM(eff:Bool)(vs:List T)(st:St):answer eff vs st=match(fz eff aU (pack vs)).run st.get st.sh.length with
 |some p=>some (p.1,(st.ups p.2).sh)
 |none=>none:=by
 cases vs with
 |nil=>rfl
 |cons v vs=>cases vs <;> rfl
theorem yx(j:Nat)(vs:List T)(st:St):ll j vs st=match fw (pack vs) j with
 |some .nilsl=>answer false vs st
 |some (.isl .L k g 0 len sz)=>
  (match(fz false aU (bw (pack vs) j .nilsl)).run st.get st.sh.length with
  |some p=>(match(st.ups p.2).get .L k with
   |⟨g',.cells cs wm false⟩=>if g'=g∧cs.length=len*sz∧len≠0∧(wm=0∨scalar (bw p.1 j .nilsl)=true)then some (bw p.1 j (.sl cs len false),(st.ups p.2).sh)else none
   |_=>none)
  |none=>none)
 |_=>none:=by
 cases vs with
 |nil=>rfl
 |cons v vs=>cases vs <;> rfl
theorem xc{B:eu}{eb:St}{vs:List T}{w':World}{bB:bj}{M':aM}{v:Value}{eff:Bool}{r:T}{br:List aB}(r1:bz B eb w' bB M')(ha:answer eff vs eb=some (r,br))(Jm:aw bB eb.gens w' M' (pack vs) v):
  ∃M2 us,bz B (eb.ups us) w' bB M2∧(eb.ups us).gens=eb.gens∧br=(eb.ups us).sh∧mS eff bB eb.gens w' M2 r v:=by
 rw[sM]at ha
 split at ha
 ·rename_i p hz
  obtain⟨t',us⟩:=p
  simp at ha
  obtain⟨rfl,rfl⟩:=ha
  obtain⟨M2,z1,z2,z3,z4,z5⟩:=sD eff eb aU _ _ eb w' bB M' _ t' us _ (Fz.refl eb) r1 Jm hz
  exact⟨M2,us,z1,z2.gens,rfl,z4⟩
 ·cases ha
theorem AK(hE:nR P E)(hm:P.follows .mixedOrders=true): ∀m,sJ P E (cL E m)
 |0=>by
  intro f af args sh r br uM hc
  simp[cL]at hc
 |m+1=>by
  have hO:=AK hE hm m
  intro f af args sh r br uM az
  refine⟨fun pe=> ?_,fun j pe=> ?_⟩
  ·intro w β M ch po ew
   refine uT hE hm hO uM az po (ig.toV ew) ?_
   intro eb vs w' bB M' v r1 ha hv r3
   rw[pe]at ha
   obtain⟨M2,us,z1,z2,rfl,z4⟩:=xc r1 ha hv
   refine⟨v,bB,M2,rfl,yk z1 .nil,fun k g hg=>r3.beta .S k g hg,fun k=> ?_, ?_⟩
   ·have e1:(dg (eb.ups us).sh k).g=(eb.ups us).gens .S k:=rfl
    rw[e1,z2]
    exact r3.gens .S k
   ·have hg2: ∀k,(bare .nil (eb.ups us).sh).gens .S k=eb.gens .S k:=by
     intro k
     have e1:(bare .nil (eb.ups us).sh).gens .S k=(eb.ups us).gens .S k:=rfl
     rw[e1,z2]
    cases mV:af.eff with
    |false=>rw[mV]at z4;exact z4
    |true=>
     rw[mV]at z4
     intro b g p q
     exact z4 b g (fun k x hx=>p k x (by rw[hg2];exact hx)) (fun k=>by rw[←hg2];exact q k)
  ·have mV:af.eff=false:=by
    cases he:af.eff with
    |false=>rfl
    |true=>
     exfalso
     simp only[cL,uM]at az
     split at az
     ·cases az
     ·split at az
      ·cases az
      ·split at az
       ·simp[ln,pe,he]at az
       ·cases az
      ·cases az
   refine⟨mV, ?_⟩
   intro w β M ch po ew
   refine uT hE hm hO uM az po (ig.toV ew) ?_
   intro eb vs w' bB M' v r1 ha hv r3
   rw[pe,mV]at ha
   have ha:ll j vs eb=some (r,br):=by simpa[ln]using ha
   rw[yx]at ha
   split at ha
   ·rename_i hc
    obtain⟨M2,us,z1,z2,rfl,z4⟩:=xc r1 ha hv
    refine⟨v,bB,M2,rfl,yk z1 .nil,.inl ⟨?_,z4⟩⟩
    rw[sM]at ha
    split at ha
    ·rename_i p hz
     simp at ha
     obtain⟨rfl,_⟩:=ha
     exact MK hz hc
    ·cases ha
   ·rename_i k g len sz hc
    split at ha
    ·rename_i p hz
     obtain⟨t',us⟩:=p
     have hn:aw bB eb.gens w' M' .nilsl rO:=by simp only[aw]
     obtain⟨⟨x,hx,ZT⟩,WQ⟩:=I9 hv hc hn rfl
     obtain⟨M2,z1,z2,z3,z4,z5⟩:=sD false eb aU _ _ eb w' bB M' _ t' us _ (Fz.refl eb) r1 WQ hz
     dsimp only at ha
     split at ha
     ·rename_i g' cs wm tq
      split at ha
      ·rename_i jo
       obtain⟨rfl,eA,hl0,Cy⟩:=jo
       simp at ha
       obtain⟨rfl,rfl⟩:=ha
       simp only[aw]at ZT
       obtain⟨ahq,cap,rfl,ZK,hcx⟩:=ZT
       have ho:=z1.obj .L k
       rw[tq]at ho
       unfold dO at ho
       obtain⟨c,el,fzz,o1,o2,o3,o4,o5,o6,o7,o8⟩:=ho
       dsimp only at o1 o2 o3 o4 o5 o6
       subst o4
       have Xw:=fun(b:bj) (G:Sp→Nat→Nat)=>Ja (cs:=cs) (len:=len) (ex:=false) (PRel.toV b G _ _ z4) hx
       have wR:live ((eb.ups us).get .L k):=by rw[tq];trivial
       have wq:(eb.ups us).gens .L k=g':=by show((eb.ups us).get .L k).g=g';rw[tq]
       have Xx:=z1.lblk k wR
       rw[wq]at Xx
       refine⟨v,bB,M2,rfl,yk z1 .nil,.inr ⟨cs,len,(Xw bB eb.gens).1,bB .L k g',sz,cap,c,el,Xx,o1,o2,o3,o5, ?_,o7,eA,hl0,ZK,by simpa using hcx,hx,fun b G=>(Xw b G).2⟩⟩
       rcases Cy with rfl|Cy
       ·exact .inr fun i hi=>o6 i (Nat.zero_le _) hi
       ·exact .inl (by rw[CB _ _ _ _ rfl];exact Cy)
      ·cases ha
     ·cases ha
    ·cases ha
   ·cases ha
end
theorem pure_call{P:Program}{E:Env}(hE:nR P E)(hm:P.follows .mixedOrders=true){m f:Nat}{af:aE}(uM:E.fn f=some af)(mV:af.eff=false)(pe:af.own=none){args:List T}{r:T}{br:List aB}(hc:cL E m f args []=some (r,br))(w:World)(ch:Array Value)
  (ew:PList w (fun _ _=>False) args ch.toList):Calls P f ch w fun e w'=> ∃cv,e= .returned cv∧RowKit.Below w.heap.size w w'∧PRel w' (fun _ _=>False) r cv:=by
 have pJ:=(AK hE hm m f af args [] r br uM hc).1 pe
 rw[mV]at pJ
 let β:bj:=fun _ _ _=>⟨0,0,0⟩
 have fh: ∀b,¬dN [] β b:=by rintro b ⟨k,hl,_⟩;simp[dg,aZ]at hl;exact hl.elim
 have po:bz ⟨w,fun _ _=>False,dN [] β⟩ (bare .nil []) w β (fun _ _=>False):=by
  have e: ∀sp k,(bare .nil []).get sp k=jj:=by intro sp k;cases sp <;> simp[bare,St.get,dg,aZ,aQ.get_nil]
  refine⟨fun sp k=> ?_,fun sp k cQ k' l1 _ _=> ?_,fun _ _ h=>h.elim,fun k hl=> ?_,fun k hl=> ?_,rfl,rfl,rfl,Nat.le_refl _,fun _ _ _=>rfl,dz.refl _ _,fun _ _ _ _ hm=>hm⟩
  ·rw[e];unfold dO jj;trivial
  ·rw[e]at l1;exact l1.elim
  ·rw[e]at hl;exact hl.elim
  ·rw[e]at hl;exact hl.elim
 refine(pJ w β _ ch po ew).mono ?_
 rintro e w' ⟨cv,bB,M',rfl,h',_,_,hr⟩
 refine⟨cv,rfl,⟨h'.os,h'.tape,h'.output,h'.size,fun b hb=>h'.same b hb (fh b)⟩, ?_⟩
 exact PRel.mono (dc (fun _ _ h=>h.elim)) _ _ hr
end Go.Ev
namespace Go.Ev
open Go
inductive wM where
 |nil
 |nd (l:wM) (k:Nat) (v:aE) (r:wM)
def wM.find:wM→Nat→Option aE
 | .nil,_=>none
 | .nd l k v r,f=>bif Nat.beq f k then some v else bif Nat.ble f k then l.find f else r.find f
def wM.All(p:Nat→aE→Prop):wM→Prop
 | .nil=>True
 | .nd l k v r=>wM.All p l∧p k v∧wM.All p r
theorem wM.all_find{p:Nat→aE→Prop}{f:Nat}{v:aE}: ∀{t:wM},wM.All p t→t.find f=some v→p f v
 | .nil,_,h=>by simp[wM.find]at h
 | .nd l k u r,ha,h=>by
   obtain⟨h1,h2,h3⟩:=ha
   simp only[wM.find]at h
   cases hb:Nat.beq f k with
   |true=>
    rw[hb,cond_true]at h
    have:f=k:=Nat.eq_of_beq_eq_true hb
    subst this
    cases h;exact h2
   |false=>
    rw[hb,cond_false]at h
    cases hc:Nat.ble f k with
    |true=>rw[hc,cond_true]at h;exact wM.all_find h1 h
    |false=>rw[hc,cond_false]at h;exact wM.all_find h3 h
def aC(P:Program)(f:Nat)(af:aE):Prop:= ∃hs fn,P.funcs[f]? =some fn∧Ah P hs af.eff fn=some af
theorem codeOk{P:Program}{f:Nat}{af:aE}{hs:List Nat}{fn:Func}(h:P.funcs[f]? =some fn)(k:Ah P hs af.eff fn=some af):aC P f af:=⟨hs,fn,h,k⟩
def Rj(P:Program)(f:Nat)(g:List T→Option T):Prop:=
 (∃fn,P.funcs[f]? =some fn∧(fn.name== "runtime.NumGoroutine")=false∧fn.body.isSome=true)∧
   ∀args r,g args=some r→ ∀(w:World) (M:aM) (ch:Array Value),(∀b o,M b o→b<w.heap.size)→PList w M args ch.toList→
    Calls P f ch w fun e w'=> ∃cv,e= .returned cv∧RowKit.Below w.heap.size w w'∧PRel w' (fun b _=>b<w.heap.size) r cv
theorem VD{P:Program}{t:wM}{x:Nat→Option (List T→Option T)}(h:wM.All (aC P) t)(hx: ∀f g,x f=some g→Rj P f g):nR P ⟨t.find,x⟩:=
 ⟨fun f af hf=>wM.all_find h hf,fun f g _ hg=>hx f g hg⟩
end Go.Ev
namespace Go.Ev
open Go
abbrev Jn(E:Env)(m f:Nat)(args:List T)(sh:List aB):Option (T×List aB):=cL E m f args sh
theorem bZ{E:Env}{m f:Nat}{args:List T}{sh:List aB}{r:Option (T×List aB)}(h:Jn E m f args sh=r):cL E m f args sh=r:=h
theorem Jo{E:Env}{m f:Nat}{args:List T}{sh:List aB}:Jn E m f args sh=cL E m f args sh:=rfl
end Go.Ev
