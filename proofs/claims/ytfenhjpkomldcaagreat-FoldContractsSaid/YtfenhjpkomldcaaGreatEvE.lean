/- A tree evaluator over the model, proved against it (part E): where it answers, the call returns that answer. Conditions: none beyond its theorems' own. -/
import Derived.Test.YtfenhjpkomldcaaGreatEvD
set_option linter.unusedSimpArgs false
set_option linter.unusedVariables false
namespace Go.Ev
open Go
section
variable{E:Env}{call:lj}{fl n:Nat}
theorem U4{st:St}:au E call n [] st=some st:=rfl
def open_(o:aT)(st:St):Prop:=match o.gd with|none=>True|some (j,want)=>ak st.fr j= .b want
end
end Go.Ev
namespace Go.Ev
open Go
def qL(c c':lj):Prop:= ∀f a sh r,c f a sh=some r→c' f a sh=some r
section
variable{E:Env}
theorem sN{c c':lj}(h:qL c c'){dd:Nat}{st:St}{f:Nat}{args:List T}{r:T×St}(hr:ar E c dd st f args=some r):ar E c' dd st f args=some r:=by
 unfold ar at hr ⊢
 cases hf:E.fn f with
 |none=>cases hx:E.ext f <;> simp only[hf,hx]at hr ⊢ <;> exact hr
 |some af=>
  simp only[hf]at hr ⊢
  cases hq:(bC (fz af.eff aU) args).run st.get st.sh.length with
  |none=>simp only[hq]at hr;cases hr
  |some q=>
   simp only[hq]at hr ⊢
   cases he:af.eff with
   |true=>
    simp only[he,if_true,Option.map_eq_some_iff]at hr ⊢
    obtain⟨a,h1,h2⟩:=hr
    exact⟨a,h _ _ _ _ h1,h2⟩
   |false=>
    simp only[he]at hr ⊢
    cases hc:c f q.1 []with
    |none=>simp only[hc]at hr;simp at hr
    |some a=>
     simp only[hc]at hr
     simp only[h _ _ _ _ hc]
     exact hr
theorem ls{c c':lj}(h:qL c c'){n:Nat}{o:aT}{st bD:St}(hr:bu E c n o st=some bD):bu E c' n o st=some bD:=by
 unfold bu at hr ⊢
 have key: ∀bD,(match bI st.rho o.op with
  |some (some cc)=>match ar E c (o.d.getD 0) st cc.1 cc.2 with
   |some r=>(fS st.fr n o.d r.1).map fun fr=>{r.2 with fr}
   |none=>none
  |some none=>none
  |none=>match(bT (o.d.getD 0) st.rho o.op).run st.get st.sh.length with
   |some (.val v ups)=>(fS st.fr n o.d v).map fun fr=>{st.ups ups with fr}
   |none=>none)=some bD→(match bI st.rho o.op with
  |some (some cc)=>match ar E c' (o.d.getD 0) st cc.1 cc.2 with
   |some r=>(fS st.fr n o.d r.1).map fun fr=>{r.2 with fr}
   |none=>none
  |some none=>none
  |none=>match(bT (o.d.getD 0) st.rho o.op).run st.get st.sh.length with
   |some (.val v ups)=>(fS st.fr n o.d v).map fun fr=>{st.ups ups with fr}
   |none=>none)=some bD:=by
  intro bD hs
  cases hc:bI st.rho o.op with
  |none=>simp only[hc]at hs ⊢; exact hs
  |some x=>
   cases x with
   |none=>simp only[hc]at hs;cases hs
   |some cc=>
    simp only[hc]at hs ⊢
    cases hd:ar E c (o.d.getD 0) st cc.1 cc.2 with
    |none=>simp only[hd]at hs;cases hs
    |some r=>
     simp only[hd]at hs
     simp only[sN h hd]
     exact hs
 cases hg:o.gd with
 |none=>simp only[hg]at hr ⊢; exact key _ hr
 |some p=>
  obtain⟨j,want⟩:=p
  simp only[hg]at hr ⊢
  split at hr
  ·rename_i x hx
   by_cases hw:x=want
   ·rw[if_pos hw]at hr ⊢; exact key _ hr
   ·rw[if_neg hw]at hr ⊢; exact hr
  ·exact hr
theorem mW{c c':lj}(h:qL c c'){n:Nat}: ∀(os:List aT) {st bD:St},au E c n os st=some bD→au E c' n os st=some bD
 | [],st,bD,hr=>hr
 |o::os,st,bD,hr=>by
  simp only[au]at hr ⊢
  cases ho:bu E c n o st with
  |none=>simp only[ho]at hr;cases hr
  |some s=>
   simp only[ho]at hr
   simp only[ls h ho]
   exact mW h os hr
theorem sO{c c':lj}(h:qL c c'){dd:Nat}{st:St}{f:Nat}{args:List T}{r:FP}(hr:dV E c dd st f args=some r):dV E c' dd st f args=some r:=by
 unfold dV at hr ⊢
 cases hf:E.fn f with
 |none=>simp only[hf]at hr ⊢; exact hr
 |some af=>
  simp only[hf]at hr ⊢
  cases hq:(bC (fz af.eff aU) args).run st.get st.sh.length with
  |none=>simp only[hq]at hr;cases hr
  |some q=>
   simp only[hq]at hr ⊢
   by_cases hi:(!pG st q.2)=true
   ·rw[if_pos hi]at hr;cases hr
   ·rw[if_neg hi]at hr ⊢
    cases he:af.eff with
    |true=>simp only[he]at hr ⊢; exact hr
    |false=>
     simp only[he]at hr ⊢
     cases hc:c f q.1 []with
     |none=>simp[hc]at hr
     |some a=>
      simp only[hc]at hr
      simp only[h _ _ _ _ hc]
      exact hr
theorem sP{c c':lj}(h:qL c c'){o:aT}{st:St}{r:FP}(hr:cj E c o st=some r):cj E c' o st=some r:=by
 unfold cj at hr ⊢
 have key: ∀r,(match bI st.rho o.op with
  |some (some cc)=>dV E c (o.d.getD 0) st cc.1 cc.2
  |some none=>none
  |none=>
   let q:=bT (o.d.getD 0) st.rho o.op
   match q.run st.get st.sh.length with
   |some (.val _ ups)=>if q.asks st.get st.sh.length||pG st ups then some ⟨q.asks st.get st.sh.length,q.log st.get st.sh.length,cX ups⟩else none
   |none=>none)=some r→(match bI st.rho o.op with
  |some (some cc)=>dV E c' (o.d.getD 0) st cc.1 cc.2
  |some none=>none
  |none=>
   let q:=bT (o.d.getD 0) st.rho o.op
   match q.run st.get st.sh.length with
   |some (.val _ ups)=>if q.asks st.get st.sh.length||pG st ups then some ⟨q.asks st.get st.sh.length,q.log st.get st.sh.length,cX ups⟩else none
   |none=>none)=some r:=by
  intro r hs
  cases hc:bI st.rho o.op with
  |none=>simp only[hc]at hs ⊢; exact hs
  |some x=>
   cases x with
   |none=>simp only[hc]at hs;cases hs
   |some cc=>simp only[hc]at hs ⊢; exact sO h hs
 cases hg:o.gd with
 |none=>simp only[hg]at hr ⊢; exact key _ hr
 |some p=>
  obtain⟨j,want⟩:=p
  simp only[hg]at hr ⊢
  split at hr
  ·rename_i x hx
   by_cases hw:x=want
   ·rw[if_pos hw]at hr ⊢; exact key _ hr
   ·rw[if_neg hw]at hr ⊢; exact hr
  ·exact hr
theorem lu{c c':lj}(h:qL c c'){n:Nat}: ∀(os:List (List Nat×aT)) {bL:List FP} {st bD:St},aL E c n os bL st=some bD→aL E c' n os bL st=some bD
 | [],bL,st,bD,hr=>hr
 |(u,o)::os,bL,st,bD,hr=>by
  simp only[aL]at hr ⊢
  cases hp:cj E c o st with
  |none=>simp only[hp]at hr;cases hr
  |some fp=>
   simp only[hp]at hr
   simp only[sP h hp]
   split at hr
   ·rename_i ha
    rw[if_pos ha]
    cases ho:bu E c n o st with
    |none=>simp only[ho]at hr;cases hr
    |some s=>
     simp only[ho]at hr
     simp only[ls h ho]
     exact lu h os hr
   ·cases hr
theorem oK{f g:St→Option (Out×St)}(h: ∀st r,f st=some r→g st=some r): ∀{k k':Nat},k≤k'→ ∀{st:St} {r:Out×St},iter f k st=some r→iter g k' st=some r
 |0,_,_,st,r,hr=>by simp[iter]at hr
 |k+1,0,hk,_,_,_=>by omega
 |k+1,k'+1,hk,st,r,hr=>by
  simp only[iter]at hr ⊢
  cases hf:f st with
  |none=>rw[hf]at hr;cases hr
  |some p=>
   rw[h _ _ hf]
   rw[hf]at hr
   obtain⟨o,s⟩:=p
   cases o with
   |nrm=>exact oK h (by omega) hr
   |ext id=>exact hr
   |ret=>exact hr
theorem dT{c c':lj}(h:qL c c'){n:Nat}{fl fl':Nat}(CJ:fl≤fl'): ∀(code:aN) {st:St} {r:Out×St},fU E c fl n code st=some r→fU E c' fl' n code st=some r
 | .skip,st,r,hr=>hr
 | .region ops,st,r,hr=>by
   simp only[fU,Option.map_eq_some_iff]at hr ⊢
   obtain⟨a,h1,h2⟩:=hr
   exact⟨a,mW h ops h1,h2⟩
 | .draws ops,st,r,hr=>by
   simp only[fU,Option.map_eq_some_iff]at hr ⊢
   obtain⟨a,h1,h2⟩:=hr
   exact⟨a,lu h ops h1,h2⟩
 | .seq a b,st,r,hr=>by
   simp only[fU]at hr ⊢
   cases ha:fU E c fl n a st with
   |none=>rw[ha]at hr;cases hr
   |some p=>
    rw[dT h CJ a ha]
    rw[ha]at hr
    obtain⟨o,s⟩:=p
    cases o with
    |nrm=>exact dT h CJ b hr
    |ext id=>exact hr
    |ret=>exact hr
 | .cond x a b,st,r,hr=>by
   simp only[fU]at hr ⊢
   split at hr
   ·exact dT h CJ a hr
   ·exact dT h CJ b hr
   ·cases hr
 | .block id a,st,r,hr=>by
   simp only[fU]at hr ⊢
   cases ha:fU E c fl n a st with
   |none=>rw[ha]at hr;cases hr
   |some p=>
    rw[dT h CJ a ha]
    rw[ha]at hr
    exact hr
 | .loop a,st,r,hr=>by
   simp only[fU]at hr ⊢
   exact oK (fun st r hh=>dT h CJ a hh) CJ hr
 | .exit id,st,r,hr=>hr
 | .ret,st,r,hr=>hr
theorem cS: ∀{m m':Nat},m≤m'→qL (cL E m) (cL E m')
 |0,m',_=>fun f a sh r h=>by simp[cL]at h
 |m+1,0,h=>by omega
 |m+1,m'+1,h=>fun f a sh r hr=>by
  simp only[cL]at hr ⊢
  cases hf:E.fn f with
  |none=>rw[hf]at hr;cases hr
  |some af=>
   simp only[hf]at hr ⊢
   split at hr
   ·cases hr
   ·rename_i hn
    rw[if_neg hn]
    cases hc:fU E (cL E m) m af.n af.code {fr:=iO a,lh:= .nil,sh}with
    |none=>rw[hc]at hr;cases hr
    |some p=>
     rw[dT (cS (Nat.le_of_succ_le_succ h)) (Nat.le_of_succ_le_succ h) af.code hc]
     rw[hc]at hr
     exact hr
end
noncomputable def U5{α:Type}(F:Nat→Option α):Option α:=
 open Classical in if h: ∃m,(F m).isSome=true then F (Classical.choose h)else none
def Xy{α:Type}(F:Nat→Option α):Prop:= ∀m m' r,m≤m'→F m=some r→F m'=some r
theorem Ew{α:Type}{F:Nat→Option α}(hF:Xy F)(r:α):U5 F=some r↔ ∃m,F m=some r:=by
 unfold U5
 constructor
 ·intro h
  split at h
  ·exact⟨_,h⟩
  ·cases h
 ·rintro⟨m,hm⟩
  have he: ∃m,(F m).isSome=true:=⟨m,by rw[hm];rfl⟩
  rw[dif_pos he]
  have hs:=Classical.choose_spec he
  generalize Classical.choose he=k at hs
  cases hk:F k with
  |none=>rw[hk]at hs;cases hs
  |some a=>
   have h1:=hF k (max k m) a (Nat.le_max_left _ _) hk
   have h2:=hF m (max k m) r (Nat.le_max_right _ _) hm
   rw[h1]at h2
   exact h2
section
variable(E:Env)
noncomputable def ai:lj:=fun f a sh=>U5 fun m=>cL E m f a sh
noncomputable def DC(n:Nat)(code:aN)(st:St):Option (Out×St):=U5 fun m=>fU E (cL E m) m n code st
end
section
variable{E:Env}
theorem DCall_iff{f:Nat}{a:List T}{sh:List aB}{r:T×List aB}:ai E f a sh=some r↔ ∃m,cL E m f a sh=some r:=
 Ew (fun m m' r h hr=>cS h _ _ _ _ hr) r
theorem dk{n:Nat}{code:aN}{st:St}{r:Out×St}:DC E n code st=some r↔ ∃m,fU E (cL E m) m n code st=some r:=
 Ew (fun m m' r h hr=>dT (cS h) h code hr) r
theorem mX(m:Nat):qL (cL E m) (ai E):=fun f a sh r h=>DCall_iff.2 ⟨m,h⟩
theorem CM{dd:Nat}{st:St}{f:Nat}{args:List T}{r:T×St}(hr:ar E (ai E) dd st f args=some r): ∃m,ar E (cL E m) dd st f args=some r:=by
 unfold ar at hr
 cases hf:E.fn f with
 |none=>refine⟨0, ?_⟩;unfold ar;cases hx:E.ext f <;> simp only[hf,hx]at hr ⊢ <;> exact hr
 |some af=>
  simp only[hf]at hr
  cases hq:(bC (fz af.eff aU) args).run st.get st.sh.length with
  |none=>simp only[hq]at hr;cases hr
  |some q=>
   simp only[hq]at hr
   cases he:af.eff with
   |true=>
    rw[he]at hq
    simp only[he,if_true,Option.map_eq_some_iff]at hr
    obtain⟨a,h1,h2⟩:=hr
    obtain⟨m,hm⟩:=DCall_iff.1 h1
    refine⟨m, ?_⟩
    unfold ar
    simp only[hf,hq,he,if_true,Option.map_eq_some_iff]
    exact⟨a,hm,h2⟩
   |false=>
    rw[he]at hq
    simp only[he]at hr
    cases hc:ai E f q.1 []with
    |none=>simp[hc]at hr
    |some a=>
     simp only[hc]at hr
     obtain⟨m,hm⟩:=DCall_iff.1 hc
     refine⟨m, ?_⟩
     unfold ar
     simp only[hf,hq,he,hm]
     exact hr
theorem CN{dd:Nat}{st:St}{f:Nat}{args:List T}{r:FP}(hr:dV E (ai E) dd st f args=some r): ∃m,dV E (cL E m) dd st f args=some r:=by
 unfold dV at hr
 cases hf:E.fn f with
 |none=>simp only[hf]at hr;refine⟨0, ?_⟩;unfold dV;simp only[hf];exact hr
 |some af=>
  simp only[hf]at hr
  cases hq:(bC (fz af.eff aU) args).run st.get st.sh.length with
  |none=>simp only[hq]at hr;cases hr
  |some q=>
   simp only[hq]at hr
   by_cases hi:(!pG st q.2)=true
   ·rw[if_pos hi]at hr;cases hr
   ·rw[if_neg hi]at hr
    cases he:af.eff with
    |true=>
     rw[he]at hq
     simp only[he]at hr
     refine⟨0, ?_⟩
     unfold dV
     simp only[hf,hq,he]
     rw[if_neg hi]
     exact hr
    |false=>
     rw[he]at hq
     simp only[he]at hr
     cases hc:ai E f q.1 []with
     |none=>simp[hc]at hr
     |some a=>
      simp only[hc]at hr
      obtain⟨m,hm⟩:=DCall_iff.1 hc
      refine⟨m, ?_⟩
      unfold dV
      simp only[hf,hq,he,hm]
      rw[if_neg hi]
      exact hr
theorem uU{n:Nat}{o:aT}{st bD:St}(hr:bu E (ai E) n o st=some bD): ∃m,bu E (cL E m) n o st=some bD:=by
 cases hc:bI st.rho o.op with
 |none=>
  refine⟨0, ?_⟩
  unfold bu at hr ⊢
  simp only[hc]at hr ⊢
  exact hr
 |some x=>
  cases x with
  |none=>
   refine⟨0, ?_⟩
   unfold bu at hr ⊢
   simp only[hc]at hr ⊢
   exact hr
  |some cc=>
   cases hd:ar E (ai E) (o.d.getD 0) st cc.1 cc.2 with
   |none=>
    refine⟨0, ?_⟩
    have h0:ar E (cL E 0) (o.d.getD 0) st cc.1 cc.2=none:=by
     cases h0:ar E (cL E 0) (o.d.getD 0) st cc.1 cc.2 with
     |none=>rfl
     |some r=>rw[sN (mX 0) h0]at hd;cases hd
    unfold bu at hr ⊢
    simp only[hc,hd,h0]at hr ⊢
    exact hr
   |some r=>
    obtain⟨m,hm⟩:=CM hd
    refine⟨m, ?_⟩
    unfold bu at hr ⊢
    simp only[hc,hd,hm]at hr ⊢
    exact hr
theorem CO{o:aT}{st:St}{r:FP}(hr:cj E (ai E) o st=some r): ∃m,cj E (cL E m) o st=some r:=by
 cases hc:bI st.rho o.op with
 |none=>
  refine⟨0, ?_⟩
  unfold cj at hr ⊢
  simp only[hc]at hr ⊢
  exact hr
 |some x=>
  cases x with
  |none=>
   refine⟨0, ?_⟩
   unfold cj at hr ⊢
   simp only[hc]at hr ⊢
   exact hr
  |some cc=>
   cases hd:dV E (ai E) (o.d.getD 0) st cc.1 cc.2 with
   |none=>
    refine⟨0, ?_⟩
    have h0:dV E (cL E 0) (o.d.getD 0) st cc.1 cc.2=none:=by
     cases h0:dV E (cL E 0) (o.d.getD 0) st cc.1 cc.2 with
     |none=>rfl
     |some r=>rw[sO (mX 0) h0]at hd;cases hd
    unfold cj at hr ⊢
    simp only[hc,hd,h0]at hr ⊢
    exact hr
   |some r=>
    obtain⟨m,hm⟩:=CN hd
    refine⟨m, ?_⟩
    unfold cj at hr ⊢
    simp only[hc,hd,hm]at hr ⊢
    exact hr
theorem xe{n:Nat}: ∀(os:List aT) {st bD:St},au E (ai E) n os st=some bD→ ∃m,au E (cL E m) n os st=some bD
 | [],st,bD,hr=>⟨0,hr⟩
 |o::os,st,bD,hr=>by
  simp only[au]at hr
  cases ho:bu E (ai E) n o st with
  |none=>simp only[ho]at hr;cases hr
  |some s=>
   simp only[ho]at hr
   obtain⟨m1,h1⟩:=uU ho
   obtain⟨m2,h2⟩:=xe os hr
   refine⟨max m1 m2, ?_⟩
   simp only[au,ls (cS (Nat.le_max_left m1 m2)) h1]
   exact mW (cS (Nat.le_max_right m1 m2)) os h2
theorem uV{n:Nat}: ∀(os:List (List Nat×aT)) {bL:List FP} {st bD:St},aL E (ai E) n os bL st=some bD→ ∃m,aL E (cL E m) n os bL st=some bD
 | [],bL,st,bD,hr=>⟨0,hr⟩
 |(u,o)::os,bL,st,bD,hr=>by
  simp only[aL]at hr
  cases hp:cj E (ai E) o st with
  |none=>simp only[hp]at hr;cases hr
  |some fp=>
   simp only[hp]at hr
   split at hr
   ·rename_i ha
    cases ho:bu E (ai E) n o st with
    |none=>simp only[ho]at hr;cases hr
    |some s=>
     simp only[ho]at hr
     obtain⟨m1,h1⟩:=uU ho
     obtain⟨m2,h2⟩:=uV os hr
     obtain⟨m3,h3⟩:=CO hp
     refine⟨max m3 (max m1 m2), ?_⟩
     have l1:m1≤max m3 (max m1 m2):=by omega
     have l2:m2≤max m3 (max m1 m2):=by omega
     have l3:m3≤max m3 (max m1 m2):=by omega
     simp only[aL,sP (cS l3) h3,ls (cS l1) h1]
     rw[if_pos ha]
     exact lu (cS l2) os h2
   ·cases hr
theorem mY{α:Type}{x y:Option α}(h: ∀r,x=some r↔y=some r):x=y:=Option.ext h
theorem ML{n:Nat}{st:St}:DC E n .skip st=some (.nrm,st):=dk.2 ⟨0,rfl⟩
theorem MM{n id:Nat}{st:St}:DC E n (.exit id) st=some (.ext id,st):=dk.2 ⟨0,rfl⟩
theorem Td{n:Nat}{st:St}:DC E n .ret st=some (.ret,st):=dk.2 ⟨0,rfl⟩
theorem F9{n:Nat}{ops:List aT}{st:St}:DC E n (.region ops) st=(au E (ai E) n ops st).map fun bD=>(.nrm,bD):=by
 refine mY fun r=> ?_
 rw[dk,Option.map_eq_some_iff]
 constructor
 ·rintro⟨m,h⟩
  simp only[fU,Option.map_eq_some_iff]at h
  obtain⟨a,h1,h2⟩:=h
  exact⟨a,mW (mX m) ops h1,h2⟩
 ·rintro⟨a,h1,h2⟩
  obtain⟨m,hm⟩:=xe ops h1
  refine⟨m, ?_⟩
  simp only[fU,Option.map_eq_some_iff]
  exact⟨a,hm,h2⟩
theorem AL{n:Nat}{ops:List (List Nat×aT)}{st:St}:DC E n (.draws ops) st=(aL E (ai E) n ops [] st).map fun bD=>(.nrm,bD):=by
 refine mY fun r=> ?_
 rw[dk,Option.map_eq_some_iff]
 constructor
 ·rintro⟨m,h⟩
  simp only[fU,Option.map_eq_some_iff]at h
  obtain⟨a,h1,h2⟩:=h
  exact⟨a,lu (mX m) ops h1,h2⟩
 ·rintro⟨a,h1,h2⟩
  obtain⟨m,hm⟩:=uV ops h1
  refine⟨m, ?_⟩
  simp only[fU,Option.map_eq_some_iff]
  exact⟨a,hm,h2⟩
def andThen(x:Option (Out×St))(f:St→Option (Out×St)):Option (Out×St):=
 match x with
 |some (.nrm,bD)=>f bD
 |r=>r
theorem sQ{st:St}{f:St→Option (Out×St)}:andThen (some (.nrm,st)) f=f st:=rfl
theorem AM{id:Nat}{st:St}{f:St→Option (Out×St)}:andThen (some (.ext id,st)) f=some (.ext id,st):=rfl
theorem AN{st:St}{f:St→Option (Out×St)}:andThen (some (.ret,st)) f=some (.ret,st):=rfl
theorem yy{f:St→Option (Out×St)}:andThen none f=none:=rfl
theorem Te{n:Nat}{a b:aN}{st:St}:DC E n (.seq a b) st=andThen (DC E n a st) (DC E n b):=by
 refine mY fun r=> ?_
 rw[dk]
 constructor
 ·rintro⟨m,h⟩
  simp only[fU]at h
  cases ha:fU E (cL E m) m n a st with
  |none=>rw[ha]at h;cases h
  |some p=>
   rw[ha]at h
   rw[dk.2 ⟨m,ha⟩]
   obtain⟨o,s⟩:=p
   cases o with
   |nrm=>exact dk.2 ⟨m,h⟩
   |ext id=>exact h
   |ret=>exact h
 ·intro h
  cases ha:DC E n a st with
  |none=>rw[ha]at h;cases h
  |some p=>
   rw[ha]at h
   obtain⟨m1,h1⟩:=dk.1 ha
   obtain⟨o,s⟩:=p
   cases o with
   |nrm=>
    obtain⟨m2,h2⟩:=dk.1 h
    refine⟨max m1 m2, ?_⟩
    have l1:=Nat.le_max_left m1 m2
    have l2:=Nat.le_max_right m1 m2
    simp only[fU,dT (cS l1) l1 a h1]
    exact dT (cS l2) l2 b h2
   |ext id=>refine⟨m1, ?_⟩;simp only[fU,h1];exact h
   |ret=>refine⟨m1, ?_⟩;simp only[fU,h1];exact h
theorem MN{n:Nat}{c:bq}{a b:aN}{st:St}:DC E n (.cond c a b) st=match st.rho c with| .b true=>DC E n a st| .b false=>DC E n b st|_=>none:=by
 refine mY fun r=> ?_
 rw[dk]
 constructor
 ·rintro⟨m,h⟩
  simp only[fU]at h
  split at h
  ·rename_i hx;rw[hx];exact dk.2 ⟨m,h⟩
  ·rename_i hx;rw[hx];exact dk.2 ⟨m,h⟩
  ·cases h
 ·intro h
  split at h
  ·rename_i hx
   obtain⟨m,hm⟩:=dk.1 h
   exact⟨m,by simp only[fU,hx];exact hm⟩
  ·rename_i hx
   obtain⟨m,hm⟩:=dk.1 h
   exact⟨m,by simp only[fU,hx];exact hm⟩
  ·cases h
def AO(id:Nat)(x:Option (Out×St)):Option (Out×St):=
 match x with
 |some (.ext D6,bD)=>if D6=id then some (.nrm,bD)else some (.ext D6,bD)
 |r=>r
theorem Ga{id:Nat}{st:St}:AO id (some (.nrm,st))=some (.nrm,st):=rfl
theorem Gb{id:Nat}{st:St}:AO id (some (.ret,st))=some (.ret,st):=rfl
theorem Gc{id D6:Nat}{st:St}:AO id (some (.ext D6,st))=if D6=id then some (.nrm,st)else some (.ext D6,st):=rfl
theorem CP{id:Nat}:AO id none=none:=rfl
theorem Jp{n id:Nat}{a:aN}{st:St}:DC E n (.block id a) st=AO id (DC E n a st):=by
 refine mY fun r=> ?_
 rw[dk]
 constructor
 ·rintro⟨m,h⟩
  simp only[fU]at h
  cases ha:fU E (cL E m) m n a st with
  |none=>rw[ha]at h;cases h
  |some p=>
   rw[ha]at h
   rw[dk.2 ⟨m,ha⟩]
   exact h
 ·intro h
  cases ha:DC E n a st with
  |none=>rw[ha]at h;cases h
  |some p=>
   rw[ha]at h
   obtain⟨m1,h1⟩:=dk.1 ha
   refine⟨m1, ?_⟩
   simp only[fU,h1]
   exact h
theorem im{n:Nat}{a:aN}{st:St}:DC E n (.loop a) st=andThen (DC E n a st) (DC E n (.loop a)):=by
 refine mY fun r=> ?_
 rw[dk]
 constructor
 ·rintro⟨m,h⟩
  simp only[fU]at h
  cases m with
  |zero=>simp[iter]at h
  |succ m=>
   rw[iter]at h
   cases ha:fU E (cL E (m+1)) (m+1) n a st with
   |none=>rw[ha]at h;cases h
   |some p=>
    rw[ha]at h
    rw[dk.2 ⟨m+1,ha⟩]
    obtain⟨o,s⟩:=p
    cases o with
    |nrm=>
     refine dk.2 ⟨m+1, ?_⟩
     simp only[fU]
     exact oK (fun _ _ h=>h) (Nat.le_succ m) h
    |ext id=>exact h
    |ret=>exact h
 ·intro h
  cases ha:DC E n a st with
  |none=>rw[ha]at h;cases h
  |some p=>
   rw[ha]at h
   obtain⟨m1,h1⟩:=dk.1 ha
   obtain⟨o,s⟩:=p
   cases o with
   |nrm=>
    obtain⟨m2,h2⟩:=dk.1 h
    refine⟨max m1 m2+1, ?_⟩
    have l1:m1≤max m1 m2+1:=by omega
    have l2:m2≤max m1 m2+1:=by omega
    have l3:m2≤max m1 m2:=by omega
    simp only[fU]at h2
    simp only[fU]
    rw[iter,dT (cS l1) l1 a h1]
    exact oK (fun st r hh=>dT (cS l2) l2 a hh) l3 h2
   |ext id=>
    refine⟨m1+1, ?_⟩
    simp only[fU]
    rw[iter,dT (cS (Nat.le_succ m1)) (Nat.le_succ m1) a h1]
    exact h
   |ret=>
    refine⟨m1+1, ?_⟩
    simp only[fU]
    rw[iter,dT (cS (Nat.le_succ m1)) (Nat.le_succ m1) a h1]
    exact h
def Jq(af:aE)(x:Option (Out×St)):Option (T×List aB):=
 match x with
 |some (.ext _,_)=>none
 |some (_,st)=>match fx st af.res with
  |some vs=>ln af.own af.eff vs st
  |none=>none
 |none=>none
theorem AP{f:Nat}{af:aE}{args:List T}{sh:List aB}(hf:E.fn f=some af)(hn:args.length≤af.n):
  ai E f args sh=Jq af (DC E af.n af.code {fr:=iO args,lh:= .nil,sh}):=by
 refine mY fun r=> ?_
 rw[DCall_iff]
 constructor
 ·rintro⟨m,h⟩
  cases m with
  |zero=>simp[cL]at h
  |succ m=>
   simp only[cL,hf,if_neg (Nat.not_lt.2 hn)]at h
   cases hc:fU E (cL E m) m af.n af.code {fr:=iO args,lh:= .nil,sh}with
   |none=>rw[hc]at h;cases h
   |some p=>rw[hc]at h;rw[dk.2 ⟨m,hc⟩];exact h
 ·intro h
  cases hc:DC E af.n af.code {fr:=iO args,lh:= .nil,sh}with
  |none=>rw[hc]at h;cases h
  |some p=>
   rw[hc]at h
   obtain⟨m,hm⟩:=dk.1 hc
   refine⟨m+1, ?_⟩
   simp only[cL,hf,if_neg (Nat.not_lt.2 hn),hm]
   exact h
end
end Go.Ev
namespace Go.Ev
open Go
theorem nr{α:Sort _}{a b:α}(h:a=b):a=b:=h
def rd(fr:Fr):bq→T
 | .t k=>ak fr k
 | .c v=>v
theorem acH(fr:Fr)(k:Nat):rd fr (.t k)=ak fr k:=nr rfl
theorem acI(fr:Fr)(v:T):rd fr (.c v)=v:=nr rfl
theorem eY(fr:Fr)(lh:aQ aB)(sh:List aB):(St.mk fr lh sh).rho=rd fr:=by funext x;cases x <;> rfl
theorem Jr(fr:Fr)(d:Nat)(v:T):ak (dp fr d v) d=v:=by rw[j5,if_pos rfl]
theorem Js(fr:Fr){d m:Nat}(v:T)(h:m≠d):ak (dp fr d v) m=ak fr m:=by rw[j5,if_neg h]
def aq(lh:aQ aB)(k:Nat):aB:=aQ.get jj lh k
def cM(lh:aQ aB)(k:Nat)(e:aB):aQ aB:=aQ.set jj lh k e
theorem bV(lh:aQ aB)(k:Nat)(e:aB):aq (cM lh k e) k=e:=by unfold aq cM;rw[aQ.get_set,if_pos rfl]
theorem aO(lh:aQ aB){k m:Nat}(e:aB)(h:m≠k):aq (cM lh k e) m=aq lh m:=by unfold aq cM;rw[aQ.get_set,if_neg h]
theorem Jt(k:Nat):aq .nil k=jj:=by unfold aq;exact aQ.get_nil _ _
theorem MO(fr:Fr)(lh:aQ aB)(sh:List aB)(k:Nat):(St.mk fr lh sh).get .L k=aq lh k:=rfl
theorem ZU(fr:Fr)(lh:aQ aB)(sh:List aB)(k:Nat):(St.mk fr lh sh).get .S k=dg sh k:=rfl
theorem tH(st:St):st.ups []=st:=rfl
theorem Rk(fr:Fr)(lh:aQ aB)(sh:List aB)(k:Nat)(e:aB)(us:List Up):(St.mk fr lh sh).ups ((.L,k,e)::us)=(St.mk fr (cM lh k e) sh).ups us:=rfl
theorem afp(fr:Fr)(lh:aQ aB)(sh:List aB)(k:Nat)(e:aB)(us:List Up):(St.mk fr lh sh).ups ((.S,k,e)::us)=(St.mk fr lh (ky sh k e)).ups us:=rfl
def iH:Option wP→Option (T×List Up)
 |some (.val v ups)=>some (v,ups)
 |none=>none
def one(fr:Fr)(lh:aQ aB)(sh:List aB)(d:Nat)(op:nu):Option (T×List Up):=
 iH ((bT d (rd fr) op).run (St.mk fr lh sh).get sh.length)
def pf(fr:Fr):Option Nat→T→Fr
 |some d,v=>dp fr d v
 |none,_=>fr
def yz(n:Nat):Option Nat→Prop
 |some d=>d<n
 |none=>True
section
variable{E:Env}{call:lj}{n:Nat}{fr:Fr}{lh:aQ aB}{sh:List aB}{os:List aT}
theorem Xz{st:St}:au E call n [] st=some st:=rfl
theorem lv{d:Option Nat}{op:nu}(hc:bI (rd fr) op=none)(hd:yz n d):
  au E call n (⟨d,op,none⟩::os) ⟨fr,lh,sh⟩=(one fr lh sh (d.getD 0) op).bind fun r=>au E call n os {(St.mk fr lh sh).ups r.2 with fr:=pf fr d r.1}:=by
 simp only[au,bu,eY,hc]
 unfold one
 cases h:(bT (d.getD 0) (rd fr) op).run (St.mk fr lh sh).get sh.length with
 |none=>rfl
 |some r=>
  obtain⟨v,ups⟩:=r
  simp only[Option.bind_some,iH]
  cases d with
  |none=>rfl
  |some d=>simp only[fS,if_pos (show d<n from hd),pf,Option.map_some]
theorem eh{d:Option Nat}{op:nu}(hc:bI (rd fr) op=none)(hd:yz n d){v:Option T}(h1:one fr lh sh (d.getD 0) op=v.map fun v=>(v,[])):
  au E call n (⟨d,op,none⟩::os) ⟨fr,lh,sh⟩=v.bind fun v=>au E call n os ⟨pf fr d v,lh,sh⟩:=by
 rw[lv hc hd,h1]
 cases v <;> rfl
theorem j0{o:Option T}{h:Sp→Nat→aB}{nx:Nat}:iH ((val o).run h nx)=o.map fun v=>(v,([]:List Up)):=by
 cases o <;> rfl
variable{d:Nat}
theorem acJ{x:bq}(hd:d<n):au E call n (⟨some d,.mv x,none⟩::os) ⟨fr,lh,sh⟩=au E call n os ⟨dp fr d (rd fr x),lh,sh⟩:=
 eh (d:=some d) (v:=some (rd fr x)) (by rfl) hd rfl
def Ey(c a b:T):Option T:=match c with| .b x=>some (if x=true then a else b)|_=>none
theorem MP(x:Bool)(a b:T):Ey (.b x) a b=some (if x=true then a else b):=rfl
theorem Tf{c a b:bq}(hd:d<n):au E call n (⟨some d,.pick c a b,none⟩::os) ⟨fr,lh,sh⟩=(Ey (rd fr c) (rd fr a) (rd fr b)).bind fun v=>au E call n os ⟨dp fr d v,lh,sh⟩:=by
 refine eh (d:=some d) (by rfl) hd ?_
 unfold one Ey
 simp only[bT]
 cases h:rd fr c <;> try rfl
 rename_i x
 cases x <;> rfl
theorem XA{op:BinOp}{x y:bq}(hd:d<n):au E call n (⟨some d,.bin op x y,none⟩::os) ⟨fr,lh,sh⟩=(Ev.bin op (rd fr x) (rd fr y)).bind fun v=>au E call n os ⟨dp fr d v,lh,sh⟩:=
 eh (d:=some d) (by rfl) hd j0
theorem acK{neg:Bool}{k:EK}{x y:bq}(hd:d<n):au E call n (⟨some d,.eq neg k x y,none⟩::os) ⟨fr,lh,sh⟩=((mN k (rd fr x) (rd fr y)).map fun r=>T.b (r != neg)).bind fun v=>au E call n os ⟨dp fr d v,lh,sh⟩:=
 eh (d:=some d) (by rfl) hd j0
theorem acL{op:UnOp}{x:bq}(hd:d<n):au E call n (⟨some d,.un op x,none⟩::os) ⟨fr,lh,sh⟩=(Ev.un op (rd fr x)).bind fun v=>au E call n os ⟨dp fr d v,lh,sh⟩:=
 eh (d:=some d) (by rfl) hd j0
def MQ(k:IntKind):T→Option T
 | .i _ n=>some (.i k (wr k n))
 |_=>none
theorem XB{k:IntKind}{x:bq}(hd:d<n):au E call n (⟨some d,.cvi k x,none⟩::os) ⟨fr,lh,sh⟩=(MQ k (rd fr x)).bind fun v=>au E call n os ⟨dp fr d v,lh,sh⟩:=by
 refine eh (d:=some d) (by rfl) hd ?_
 unfold one MQ
 simp only[bT]
 cases h:rd fr x <;> rfl
theorem Tg{f:Nat}{a c:List bq}(hd:d<n):au E call n (⟨some d,.mkfn f a c,none⟩::os) ⟨fr,lh,sh⟩=au E call n os ⟨dp fr d (.fn f (a.map (rd fr)) (c.map (rd fr))),lh,sh⟩:=
 eh (d:=some d) (v:=some _) (by rfl) hd rfl
def aF(fr:Fr)(z:List T)(ps:List (Nat×Nat×bq)):Option T:=
 if(ps.all fun p=>(cellsOf (rd fr p.2.2)).length=p.2.1&&noTup (rd fr p.2.2))=true then(aH z (ps.map fun p=>(p.1,cellsOf (rd fr p.2.2)))).map .agg else none
theorem MR{z:List T}{ps:List (Nat×Nat×bq)}(hd:d<n):au E call n (⟨some d,.build z ps,none⟩::os) ⟨fr,lh,sh⟩=(aF fr z ps).bind fun v=>au E call n os ⟨dp fr d v,lh,sh⟩:=by
 refine eh (d:=some d) (by rfl) hd ?_
 unfold one aF
 simp only[bT]
 split
 ·exact j0
 ·rfl
def mZ(fr:Fr)(x:T)(l h:Option bq):Option T:=
 match x with
 | .s bs=>match bH (rd fr) 0 l,bH (rd fr) bs.length h with
   |some l,some h=>if l≤h∧h≤bs.length then some (.s ((bs.drop l).take (h-l)))else none
   |_,_=>none
 |_=>none
theorem XC{x:bq}{l h:Option bq}(hd:d<n):au E call n (⟨some d,.slS x l h,none⟩::os) ⟨fr,lh,sh⟩=(mZ fr (rd fr x) l h).bind fun v=>au E call n os ⟨dp fr d v,lh,sh⟩:=by
 refine eh (d:=some d) (by rfl) hd ?_
 unfold one mZ
 simp only[bT]
 cases hx:rd fr x <;> try rfl
 rename_i bs
 simp only[]
 cases h1:bH (rd fr) 0 l <;> cases h2:bH (rd fr) bs.length h <;> try rfl
 rename_i a b
 simp only[Bool.and_eq_true,decide_eq_true_eq]
 by_cases hb:a≤b∧b≤bs.length
 ·simp only[if_pos hb];rfl
 ·simp only[if_neg hb];rfl
def XD(x:T)(off:Nat):Option T:=
 match x with
 | .vp cs=>if off≤cs.length then some (.vp (cs.drop off))else none
 | .ptr sp k g o=>some (.ptr sp k g (o+off))
 |_=>none
theorem acM{x:bq}{off:Nat}(hd:d<n):au E call n (⟨some d,.fa x off,none⟩::os) ⟨fr,lh,sh⟩=(XD (rd fr x) off).bind fun v=>au E call n os ⟨dp fr d v,lh,sh⟩:=by
 refine eh (d:=some d) (by rfl) hd ?_
 unfold one XD
 simp only[bT]
 cases hx:rd fr x <;> try rfl
 rename_i cs
 simp only[]
 split <;> rfl
def acN(x:T)(off n:Nat)(ag:Bool):Option T:=match x with| .agg cs=>part cs off n ag|_=>none
def uW(x ix:T)(sz:Nat):Option T:=
 match asNat ix,x with
 |some j,.sl cs len _=>if j<len∧(j+1)*sz≤cs.length then some (.vp (cs.drop (j*sz)))else none
 |some j,.isl sp k g off len mb=>if j<len∧mb=sz then some (.ptr sp k g (off+j*sz))else none
 |_,_=>none
theorem acO{x ix:bq}{sz:Nat}(hd:d<n):au E call n (⟨some d,.ia x ix sz,none⟩::os) ⟨fr,lh,sh⟩=(uW (rd fr x) (rd fr ix) sz).bind fun v=>au E call n os ⟨dp fr d v,lh,sh⟩:=by
 refine eh (d:=some d) (by rfl) hd ?_
 unfold one uW
 simp only[bT]
 cases h1:asNat (rd fr ix)with
 |none=>rfl
 |some j=>
  cases hx:rd fr x <;> try rfl
  ·simp only[Bool.and_eq_true,decide_eq_true_eq];split <;> rfl
  ·simp only[Bool.and_eq_true,decide_eq_true_eq];split <;> rfl
def ahs(x ix:T)(len sz:Nat):Option T:=
 match asNat ix,x with
 |some j,.vp cs=>if j<len∧(j+1)*sz≤cs.length then some (.vp (cs.drop (j*sz)))else none
 |some j,.ptr sp k g off=>if j<len then some (.ptr sp k g (off+j*sz))else none
 |_,_=>none
def CQ(x ix:T):Option T:=
 match asNat ix,x with
 |some j,.s bs=>bs[j]?.map fun c=> .i .u8 c
 |_,_=>none
theorem XE{x ix:bq}(hd:d<n):au E call n (⟨some d,.ixS x ix,none⟩::os) ⟨fr,lh,sh⟩=(CQ (rd fr x) (rd fr ix)).bind fun v=>au E call n os ⟨dp fr d v,lh,sh⟩:=by
 refine eh (d:=some d) (by rfl) hd ?_
 unfold one CQ
 simp only[bT]
 cases h1:asNat (rd fr ix)with
 |none=>rfl
 |some j=>
  cases hx:rd fr x <;> try rfl
  rename_i bs
  simp only[]
  cases hb:bs[j]? <;> rfl
def aht(x ix:T)(len sz:Nat)(ag:Bool):Option T:=
 match asNat ix,x with
 |some j,.agg cs=>if j<len then part cs (j*sz) sz ag else none
 |_,_=>none
def MS(x:T)(j:Nat):Option T:=match x with| .tup vs=>vs[j]? |_=>none
theorem XF{x:bq}{j:Nat}(hd:d<n):au E call n (⟨some d,.ext x j,none⟩::os) ⟨fr,lh,sh⟩=(MS (rd fr x) j).bind fun v=>au E call n os ⟨dp fr d v,lh,sh⟩:=by
 refine eh (d:=some d) (by rfl) hd ?_
 unfold one MS
 simp only[bT]
 cases hx:rd fr x <;> try rfl
 exact j0
def Ez(x:T):Option T:=match x with| .s bs=>some (.i .i64 bs.length)|_=>none
theorem Th{x:bq}(hd:d<n):au E call n (⟨some d,.lenS x,none⟩::os) ⟨fr,lh,sh⟩=(Ez (rd fr x)).bind fun v=>au E call n os ⟨dp fr d v,lh,sh⟩:=by
 refine eh (d:=some d) (by rfl) hd ?_
 unfold one Ez
 simp only[bT]
 cases hx:rd fr x <;> rfl
theorem Ti{x:bq}(hd:d<n):au E call n (⟨some d,.lenV x,none⟩::os) ⟨fr,lh,sh⟩=((nD (rd fr x)).map fun m=>T.i .i64 m).bind fun v=>au E call n os ⟨dp fr d v,lh,sh⟩:=
 eh (d:=some d) (by rfl) hd j0
def pL(isMax:Bool)(l:List T):Option T:=match l with|x::rest=>bM isMax x rest| []=>none
theorem acP{isMax:Bool}{args:List bq}(hd:d<n):au E call n (⟨some d,.mm isMax args,none⟩::os) ⟨fr,lh,sh⟩=(pL isMax (args.map (rd fr))).bind fun v=>au E call n os ⟨dp fr d v,lh,sh⟩:=by
 refine eh (d:=some d) (by rfl) hd ?_
 unfold one pL
 simp only[bT]
 cases hx:args.map (rd fr)with
 |nil=>rfl
 |cons x rest=>exact j0
def CR(x:T):Option T:=match x with| .vp cs=>some (.vp cs)| .ptr sp k g off=>some (.ptr sp k g off)| .fn f a c=>some (.fn f a c)|_=>none
theorem MT{x:bq}:one fr lh sh d (.nck x)=(CR (rd fr x)).map fun v=>(v,[]):=by
 unfold one CR
 simp only[bT]
 cases hx:rd fr x <;> rfl
theorem XG{x:bq}(hd:d<n):au E call n (⟨some d,.nck x,none⟩::os) ⟨fr,lh,sh⟩=(CR (rd fr x)).bind fun v=>au E call n os ⟨dp fr d v,lh,sh⟩:=
 eh (d:=some d) (by rfl) hd MT
def Tj(e:aB)(g off m:Nat)(ag:Bool):Option T:=
 match e with
 |⟨g',.cells cs _ _⟩=>if g'=g then part cs off m ag else none
 |_=>none
theorem Gd{g g' off m wm:Nat}{ag bx:Bool}{cs:List T}:Tj ⟨g',.cells cs wm bx⟩ g off m ag=if g'=g then part cs off m ag else none:=rfl
def LW(lh:aQ aB)(sh:List aB)(x:T)(m:Nat)(ag:Bool):Option T:=
 match x with
 | .vp cs=>part cs 0 m ag
 | .ptr .L k g off=>Tj (aq lh k) g off m ag
 | .ptr .S k g off=>Tj (dg sh k) g off m ag
 |_=>none
theorem Ju{α:Type}{o:Option α}{h:Sp→Nat→aB}{nx:Nat}:(Q.of o).run h nx=o:=by cases o <;> rfl
theorem ldQ{h:Sp→Nat→aB}{nx g off m:Nat}{ag:Bool}(e:aB):Q.run h nx (if e.g=g then(match e.ob with| .cells cs _ _=>Q.of (part cs off m ag)|_=> .fail)else .fail)=Tj e g off m ag:=by
 obtain⟨g',ob⟩:=e
 unfold Tj
 by_cases hg:g'=g
 ·cases ob <;> simp only[hg,if_true] <;> first|rfl|exact Ju
 ·cases ob <;> simp only[hg,if_false] <;> rfl
theorem EA{x:T}{m:Nat}{ag:Bool}:(x8 x m ag).run (St.mk fr lh sh).get sh.length=LW lh sh x m ag:=by
 unfold x8 LW
 cases x <;> try rfl
 ·exact Ju
 ·rename_i sp k g off
  cases sp
  ·exact ldQ (aq lh k)
  ·exact ldQ (dg sh k)
theorem cG{α β:Type}{h:Sp→Nat→aB}{nx:Nat}{f:α→Q β}: ∀(q:Q α),(q.bind f).run h nx=(q.run h nx).bind fun a=>(f a).run h nx
 | .ret a=>rfl
 | .fail=>rfl
 | .rd sp k g=>cG (g (h sp k))
 | .new g=>cG (g nx)
theorem acQ{x:bq}{m:Nat}{ag:Bool}(hd:d<n):au E call n (⟨some d,.ld x m ag,none⟩::os) ⟨fr,lh,sh⟩=(LW lh sh (rd fr x) m ag).bind fun v=>au E call n os ⟨dp fr d v,lh,sh⟩:=by
 refine eh (d:=some d) (by rfl) hd ?_
 unfold one
 simp only[bT,cG,EA]
 cases LW lh sh (rd fr x) m ag <;> rfl
theorem MU{z:List T}(hd:d<n):au E call n (⟨some d,.alloc z false,none⟩::os) ⟨fr,lh,sh⟩=au E call n os ⟨dp fr d (.ptr .L d ((aq lh d).g+1) 0),cM lh d ⟨(aq lh d).g+1,.cells z 0 true⟩,sh⟩:=by
 rw[lv (by rfl) (show yz n (some d)from hd)];rfl
theorem XH{x:bq}(hd:d<n)(ht:noTup (rd fr x)=true):au E call n (⟨some d,.box x false,none⟩::os) ⟨fr,lh,sh⟩=au E call n os ⟨dp fr d (.ptr .L d ((aq lh d).g+1) 0),cM lh d ⟨(aq lh d).g+1,.cells (cellsOf (rd fr x)) 0 true⟩,sh⟩:=by
 rw[lv (by rfl) (show yz n (some d)from hd)]
 unfold one
 simp only[bT,ht]
 rfl
theorem MV(hd:d<n):au E call n (⟨some d,.mkmap false,none⟩::os) ⟨fr,lh,sh⟩=au E call n os ⟨dp fr d (.mp .L d ((aq lh d).g+1)),cM lh d ⟨(aq lh d).g+1,.map [] [] false⟩,sh⟩:=by
 rw[lv (by rfl) (show yz n (some d)from hd)];rfl
def yA(x:T)(bytes:Nat):Option Nat:=match asNat x with|some m=>if m*bytes≤roomy∧m≤roomy then some m else none|none=>none
theorem Tk{z:List T}{bytes:Nat}{x:bq}(hd:d<n):au E call n (⟨some d,.mksl z bytes x false,none⟩::os) ⟨fr,lh,sh⟩=
  (yA (rd fr x) bytes).bind fun m=>au E call n os ⟨dp fr d (.isl .L d ((aq lh d).g+1) 0 m z.length),cM lh d ⟨(aq lh d).g+1,.cells (repl z m) 0 false⟩,sh⟩:=by
 rw[lv (by rfl) (show yz n (some d)from hd)]
 unfold one yA
 simp only[bT]
 cases asNat (rd fr x)with
 |none=>rfl
 |some m=>
  simp only[Bool.and_eq_true,decide_eq_true_eq]
  split <;> rfl
end
end Go.Ev
namespace Go.Ev
open Go
def froz1:T→Bool
 | .b _| .i .. | .s _| .nilsl| .sl .. | .nilptr| .vp _| .nilmp| .vm .. | .nilfn=>true
 |_=>false
def froz:T→Bool
 | .agg cs=>cs.all froz1
 | .tup cs=>cs.all froz1
 | .fn _ a c=>a.all froz1&&c.all froz1
 |t=>froz1 t
theorem mj{keep:Bool}{n:Nat}{t:T}(h:froz1 t=true):fz keep (n+1) t= .ret (t,[]):=by
 cases t <;> first|rfl|(simp[froz1]at h)
theorem kG{keep:Bool}{n:Nat}: ∀(ts:List T),ts.all froz1=true→bC (fz keep (n+1)) ts= .ret (ts,[])
 | [],_=>rfl
 |t::ts,h=>by
  simp only[List.all_cons,Bool.and_eq_true]at h
  simp only[bC,mj h.1,kG ts h.2,Q.bind,List.append_nil]
theorem yB{keep:Bool}{n:Nat}{cs:List T}:fz keep (n+1) (.agg cs)=(bC (fz keep n) cs).bind fun q=> .ret (.agg q.1,q.2):=rfl
theorem CS{keep:Bool}{n:Nat}{cs:List T}:fz keep (n+1) (.tup cs)=(bC (fz keep n) cs).bind fun q=> .ret (.tup q.1,q.2):=rfl
theorem Rl{keep:Bool}{n f:Nat}{a c:List T}:fz keep (n+1) (.fn f a c)=(bC (fz keep n) a).bind fun p=>(bC (fz keep n) c).bind fun q=> .ret (.fn f p.1 q.1,p.2++q.2):=rfl
theorem lz{keep:Bool}{n:Nat}{t:T}(h:froz t=true):fz keep (n+2) t= .ret (t,[]):=by
 cases t with
 |agg cs=>simp only[froz]at h;rw[yB,kG cs h];rfl
 |tup cs=>simp only[froz]at h;rw[CS,kG cs h];rfl
 |fn f a c=>simp only[froz,Bool.and_eq_true]at h;rw[Rl,kG a h.1,kG c h.2];rfl
 |_=>exact mj h
def fzV(lh:aQ aB)(sh:List aB)(keep:Bool)(v:T):Option (T×List Up):=(fz keep aU v).run (St.mk .nil lh sh).get sh.length
def rG(lh:aQ aB)(sh:List aB)(keep:Bool)(vs:List T):Option (List T×List Up):=(bC (fz keep aU) vs).run (St.mk .nil lh sh).get sh.length
section
variable{lh:aQ aB}{sh:List aB}{keep:Bool}
theorem uX{v:T}(h:froz v=true):fzV lh sh keep v=some (v,[]):=by
 unfold fzV aU;rw[lz h];rfl
theorem MW:rG lh sh keep []=some ([],[]):=rfl
theorem AQ{v:T}{vs:List T}:rG lh sh keep (v::vs)=(fzV lh sh keep v).bind fun p=>(rG lh sh keep vs).bind fun q=>some (p.1::q.1,p.2++q.2):=by
 unfold rG fzV
 rw[bC,cG]
 congr 1
 funext p
 rw[cG]
 rfl
theorem qM{vs:List T}(h:vs.all froz=true):rG lh sh keep vs=some (vs,[]):=by
 induction vs with
 |nil=>rfl
 |cons v vs ih=>
  simp only[List.all_cons,Bool.and_eq_true]at h
  rw[AQ,uX h.1,ih h.2]
  rfl
def Jv(m:Nat)(lh:aQ aB)(sh:List aB)(k:Nat)(e:aB)(g off len sz:Nat):Option (T×List Up):=
 match e with
 |⟨g',.cells cs _ false⟩=>if g'=g∧off+len*sz≤cs.length then some (.sl ((cs.drop off).take (len*sz)) len false,[(.L,k,⟨g,.cells cs cs.length false⟩)])else none
 |⟨g',.cells cs _ true⟩=>if g'=g∧off+len*sz≤cs.length then((bC (fz false m) ((cs.drop off).take (len*sz))).run (St.mk .nil lh sh).get sh.length).map fun q=>(.sl q.1 len false,q.2++ [(.L,k,⟨g,.cells cs cs.length true⟩)])else none
 |_=>none
theorem XI{m k g off len sz:Nat}(e:aB):Q.run (St.mk .nil lh sh).get sh.length (if e.g=g then(match e.ob with
        | .cells cs _ false=>if off+len*sz≤cs.length then .ret (T.sl ((cs.drop off).take (len*sz)) len false,[(Sp.L,k,(⟨g,.cells cs cs.length false⟩:aB))])else .fail
        | .cells cs _ true=>if off+len*sz≤cs.length then(bC (fz false m) ((cs.drop off).take (len*sz))).bind fun q=> .ret (T.sl q.1 len false,q.2++ [(Sp.L,k,(⟨g,.cells cs cs.length true⟩:aB))])else .fail
        |_=> .fail)else .fail)=Jv m lh sh k e g off len sz:=by
 obtain⟨g',ob⟩:=e
 unfold Jv
 by_cases hg:g'=g
 ·cases ob with
  |cells cs wm bx=>
   cases bx
   ·by_cases hl:off+len*sz≤cs.length <;> simp[hg,hl,Q.run]
   ·by_cases hl:off+len*sz≤cs.length
    ·simp only[hg,hl,if_true,and_self,cG]
     cases (bC (fz false m) ((cs.drop off).take (len*sz))).run (St.mk .nil lh sh).get sh.length <;> rfl
    ·simp[hg,hl,Q.run]
  |_=>simp[hg,Q.run]
 ·cases ob with
  |cells cs wm bx=>cases bx <;> simp[hg,Q.run]
  |_=>simp[hg,Q.run]
theorem EB{k g off len sz:Nat}:fzV lh sh keep (.isl .L k g off len sz)=Jv 7 lh sh k (aq lh k) g off len sz:=by
 cases keep <;> exact XI (aq lh k)
def mpV(k:Nat)(e:aB)(g:Nat):Option (T×List Up):=
 match e with
 |⟨g',.map ks vs _⟩=>if g'=g then some (.vm ks vs,[(.L,k,⟨g,.map ks vs true⟩)])else none
 |_=>none
theorem Ge{k g off len sz:Nat}:fzV lh sh true (.isl .S k g off len sz)=some (.isl .S k g off len sz,[]):=rfl
theorem Gf{k g off:Nat}:fzV lh sh true (.ptr .S k g off)=some (.ptr .S k g off,[]):=rfl
theorem Gg{k g:Nat}:fzV lh sh true (.mp .S k g)=some (.mp .S k g,[]):=rfl
theorem MX{cs:List T}:fzV lh sh keep (.agg cs)=((bC (fz keep 7) cs).run (St.mk .nil lh sh).get sh.length).map fun q=>(.agg q.1,q.2):=by
 unfold fzV aU
 rw[yB,cG]
 cases (bC (fz keep 7) cs).run (St.mk .nil lh sh).get sh.length <;> rfl
theorem MY{cs:List T}:fzV lh sh keep (.tup cs)=((bC (fz keep 7) cs).run (St.mk .nil lh sh).get sh.length).map fun q=>(.tup q.1,q.2):=by
 unfold fzV aU
 rw[CS,cG]
 cases (bC (fz keep 7) cs).run (St.mk .nil lh sh).get sh.length <;> rfl
end
section
variable{E:Env}{call:lj}{n:Nat}{fr:Fr}{lh:aQ aB}{sh:List aB}{os:List aT}{d:Nat}
theorem lS:(St.mk fr lh sh).get=(St.mk .nil lh sh).get:=by funext sp k;cases sp <;> rfl
theorem kb: ∀(us:List Up) (lh:aQ aB) (sh:List aB),(St.mk fr lh sh).ups us={(St.mk .nil lh sh).ups us with fr:=fr}
 | [],lh,sh=>rfl
 |(.L,k,e)::us,lh,sh=>kb us (cM lh k e) sh
 |(.S,k,e)::us,lh,sh=>kb us lh (ky sh k e)
def CT(lh:aQ aB)(sh:List aB)(x v:T)(m:Nat):Option (aQ aB×List aB):=
 match(nS x v m).run (St.mk .nil lh sh).get sh.length with
 |some (.val _ us)=>some (((St.mk .nil lh sh).ups us).lh,((St.mk .nil lh sh).ups us).sh)
 |none=>none
theorem acR{x v:bq}{m:Nat}:au E call n (⟨none,.st x v m,none⟩::os) ⟨fr,lh,sh⟩=(CT lh sh (rd fr x) (rd fr v) m).bind fun r=>au E call n os ⟨fr,r.1,r.2⟩:=by
 rw[lv (by rfl) (show yz n none from trivial)]
 unfold one CT
 simp only[bT,lS]
 cases h:(nS (rd fr x) (rd fr v) m).run (St.mk .nil lh sh).get sh.length with
 |none=>rfl
 |some r=>
  obtain⟨u,us⟩:=r
  simp only[Option.bind_some,pf,iH]
  rw[kb us lh sh]
def MZ(lh:aQ aB)(sh:List aB)(k:Nat)(e:aB)(g off:Nat)(v:T)(m:Nat):Option (aQ aB×List aB):=
 match e with
 |⟨g',.cells cs wm true⟩=>if g'=g∧(cellsOf v).length=m∧noTup v=true∧wm≤off∧off+m≤cs.length then some (cM lh k ⟨g,.cells (splice cs off (cellsOf v)) wm true⟩,sh)else none
 |⟨g',.cells cs wm false⟩=>if g'=g∧(cellsOf v).length=m∧noTup v=true∧wm≤off∧off+m≤cs.length then
    (fzV lh sh false v).bind fun p=>if ib p.2 .L k=true∨noTup p.1=false∨(cellsOf p.1).length≠m then none else some (((St.mk .nil lh sh).ups (p.2++ [(.L,k,⟨g,.cells (splice cs off (cellsOf p.1)) wm false⟩)])).lh,((St.mk .nil lh sh).ups (p.2++ [(.L,k,⟨g,.cells (splice cs off (cellsOf p.1)) wm false⟩)])).sh)
  else none
 |_=>none
def dZ(lh:aQ aB)(sh:List aB):Option wP→Option (aQ aB×List aB)
 |some (.val _ us)=>some (((St.mk .nil lh sh).ups us).lh,((St.mk .nil lh sh).ups us).sh)
 |none=>none
def M4(k g off m:Nat)(v:T)(e:aB):Q wP:=if e.g=g then match e.ob with
     | .cells cs wm bx=>if wm≤off&&off+m≤cs.length then
         (if bx&&Sp.L== .L then .ret (.val bA [(Sp.L,k,⟨g,.cells (splice cs off (cellsOf v)) wm bx⟩)])
         else(fz (bx&&Sp.L== .S) aU v).bind fun p=>if ib p.2 .L k|| !noTup p.1||(cellsOf p.1).length≠m then .fail else .ret (.val bA (p.2++ [(Sp.L,k,⟨g,.cells (splice cs off (cellsOf p.1)) wm bx⟩)])))
       else .fail
     |_=> .fail
    else .fail
theorem stQ{k g off m:Nat}{v:T}(e:aB)(h1:(cellsOf v).length=m)(h2:noTup v=true):dZ lh sh (Q.run (St.mk .nil lh sh).get sh.length (M4 k g off m v e))=MZ lh sh k e g off v m:=by
 obtain⟨g',ob⟩:=e
 unfold MZ M4
 by_cases hg:g'=g
 ·subst hg
  cases ob with
  |none=>simp[Q.run,dZ]
  |map ks vs z=>simp[Q.run,dZ]
  |cells cs wm bx=>
   by_cases hb:wm≤off∧off+m≤cs.length
   ·cases bx with
    |true=>simp[hb.1,hb.2,h1,h2,Q.run,Rk,tH,dZ]
    |false=>
     have xf:(decide (wm≤off)&&decide (off+m≤cs.length))=true:=by simp[hb.1,hb.2]
     simp only[if_true,xf,Bool.false_and,Bool.false_eq_true,if_false,cG]
     rw[if_pos (show True∧(cellsOf v).length=m∧noTup v=true∧wm≤off∧off+m≤cs.length from⟨trivial,h1,h2,hb⟩)]
     show dZ lh sh (Option.bind (fzV lh sh false v) _)=_
     cases hz:fzV lh sh false v with
     |none=>rfl
     |some p=>
      simp only[Option.bind_some]
      by_cases hh:(ib p.2 .L k=true∨noTup p.1=false∨(cellsOf p.1).length≠m)
      ·rw[if_pos hh]
       have:(ib p.2 .L k|| !noTup p.1||decide ((cellsOf p.1).length≠m))=true:=by
        rcases hh with h|h|h
        ·simp[h]
        ·simp[h]
        ·simp[h]
       simp only[this,if_true,Q.run,dZ]
      ·rw[if_neg hh]
       have:(ib p.2 .L k|| !noTup p.1||decide ((cellsOf p.1).length≠m))=false:=by
        simp only[not_or]at hh
        obtain⟨h3,h4,h5⟩:=hh
        have Ef:(cellsOf p.1).length=m:=Classical.byContradiction h5
        simp[h3,h4,Ef]
       simp only[this,Bool.false_eq_true,if_false,Q.run,dZ]
   ·have xf:(decide (wm≤off)&&decide (off+m≤cs.length))=false:=by
     cases hx:(decide (wm≤off)&&decide (off+m≤cs.length))with
     |false=>rfl
     |true=>simp at hx;exact absurd hx hb
    cases bx
    ·simp only[if_true,xf,Bool.false_eq_true,if_false,Q.run,dZ]
     rw[if_neg (by rintro⟨_,_,_,a⟩;exact hb a)]
    ·simp only[if_true,xf,Bool.false_eq_true,if_false,Q.run,dZ]
     rw[if_neg (by rintro⟨_,_,_,a⟩;exact hb a)]
 ·cases ob with
  |none=>simp[hg,Q.run,dZ]
  |map ks vs z=>simp[hg,Q.run,dZ]
  |cells cs wm bx=>cases bx <;> simp[hg,Q.run,dZ]
theorem XJ{k g off m:Nat}{v:T}:CT lh sh (.ptr .L k g off) v m=MZ lh sh k (aq lh k) g off v m:=by
 by_cases h1:(cellsOf v).length=m
 ·cases h2:noTup v with
  |false=>
   unfold CT nS
   have:(decide ((cellsOf v).length≠m)|| !noTup v)=true:=by simp[h2]
   simp only[this,if_true,Q.run]
   unfold MZ
   split <;> simp[h2]
  |true=>
   unfold CT nS
   have:(decide ((cellsOf v).length≠m)|| !noTup v)=false:=by simp[h1,h2]
   simp only[this,Bool.false_eq_true,if_false]
   exact stQ (aq lh k) h1 h2
 ·unfold CT nS
  have:(decide ((cellsOf v).length≠m)|| !noTup v)=true:=by simp[h1]
  simp only[this,if_true,Q.run]
  unfold MZ
  split <;> simp[h1]
theorem M5{k g g' off m wm:Nat}{cs:List T}{v:T}:MZ lh sh k ⟨g',.cells cs wm true⟩ g off v m=if g'=g∧(cellsOf v).length=m∧noTup v=true∧wm≤off∧off+m≤cs.length then some (cM lh k ⟨g,.cells (splice cs off (cellsOf v)) wm true⟩,sh)else none:=rfl
theorem M6{k g g' off m wm:Nat}{cs:List T}{v:T}(hf:froz v=true):MZ lh sh k ⟨g',.cells cs wm false⟩ g off v m=if g'=g∧(cellsOf v).length=m∧noTup v=true∧wm≤off∧off+m≤cs.length then some (cM lh k ⟨g,.cells (splice cs off (cellsOf v)) wm false⟩,sh)else none:=by
 unfold MZ
 simp only[uX hf,Option.bind_some,ib,List.any_nil,Bool.false_eq_true,false_or]
 by_cases h:g'=g∧(cellsOf v).length=m∧noTup v=true∧wm≤off∧off+m≤cs.length
 ·rw[if_pos h,if_pos h,if_neg (by rintro(hc|hc) <;> simp_all)]
  rfl
 ·rw[if_neg h,if_neg h]
def slC(lh:aQ aB)(sh:List aB)(sz:Nat)(x:T):Option (Nat×List T):=(dF sz x).run (St.mk .nil lh sh).get sh.length
theorem M7{sz:Nat}:slC lh sh sz .nilsl=some (0,[]):=rfl
theorem yC{sz len:Nat}{cs:List T}{ex:Bool}:slC lh sh sz (.sl cs len ex)=if cs.length=len*sz then some (len,cs)else none:=by
 unfold slC dF;simp only[];split <;> rfl
theorem XK{l:List Nat}:slC lh sh 1 (.s l)=some (l.length,l.map fun(n:Nat)=>T.i .u8 (n:Int)):=rfl
def slE(sz:Nat)(e:aB)(g off len:Nat):Option (Nat×List T):=
 match e with
 |⟨g',.cells cs _ false⟩=>if g'=g∧off+len*sz≤cs.length then some (len,(cs.drop off).take (len*sz))else none
 |_=>none
def Gh(lh:aQ aB)(k:Nat)(e:aB)(g off len sz mb bytes:Nat)(p:Nat×List T):Option (T×aQ aB):=
 match e with
 |⟨g',.cells cs wm false⟩=>if mb=sz∧off=0∧(len+p.1)*bytes≤roomy∧g'=g∧len*sz=cs.length then some (.isl .L k (g+1) 0 (len+p.1) sz,cM lh k ⟨g+1,.cells (cs++p.2) wm false⟩)else none
 |_=>none
def uY(lh:aQ aB)(d sz bytes:Nat)(s:T)(p:Nat×List T):Option (T×aQ aB):=
 if p.1=0 then(match s with| .nilsl| .sl .. | .isl .. =>some (s,lh)|_=>none)else
 match s with
 | .nilsl=>if p.1*bytes≤roomy then some (.isl .L d ((aq lh d).g+1) 0 p.1 sz,cM lh d ⟨(aq lh d).g+1,.cells p.2 0 false⟩)else none
 | .sl cs len true=>if cs.length=len*sz∧(len+p.1)*bytes≤roomy then some (.isl .L d ((aq lh d).g+1) 0 (len+p.1) sz,cM lh d ⟨(aq lh d).g+1,.cells (cs++p.2) 0 false⟩)else none
 | .isl .L k g off len mb=>Gh lh k (aq lh k) g off len sz mb bytes p
 |_=>none
def Rm(k g off len sz mb bytes:Nat)(p:Nat×List T)(e:aB):Q wP:=
     if e.g=g then match e.ob with
      | .cells cs wm false=>if len*sz=cs.length then .ret (.val (.isl .L k (g+1) 0 (len+p.1) sz) [(.L,k,⟨g+1,.cells (cs++p.2) wm false⟩)])else .fail
      |_=> .fail
     else .fail
theorem acS{k g off len sz mb bytes:Nat}{p:Nat×List T}(e:aB)(h1:mb=sz∧off=0∧(len+p.1)*bytes≤roomy):
  ((iH (Q.run (St.mk .nil lh sh).get sh.length (Rm k g off len sz mb bytes p e))).bind fun r=>au E call n os {(St.mk fr lh sh).ups r.2 with fr:=dp fr d r.1})=
    (Gh lh k e g off len sz mb bytes p).bind fun q=>au E call n os ⟨dp fr d q.1,q.2,sh⟩:=by
 obtain⟨g',ob⟩:=e
 unfold Rm Gh
 by_cases hg:g'=g
 ·cases ob with
  |cells cs wm bx=>
   cases bx
   ·by_cases hl:len*sz=cs.length
    ·simp only[hg,hl,if_true,Q.run,iH,h1,and_self,Option.bind_some]
     rfl
    ·simp only[hg,hl,if_true,if_false,Q.run,iH,and_false];rfl
   ·simp only[hg,if_true,Q.run,iH];rfl
  |_=>simp only[hg,if_true,Q.run,iH];rfl
 ·cases ob with
  |cells cs wm bx=>
   cases bx
   ·simp only[hg,if_false,Q.run,iH,false_and,and_false];rfl
   ·simp only[hg,if_false,Q.run,iH];rfl
  |_=>simp only[hg,if_false,Q.run,iH];rfl
theorem XL{sz bytes:Nat}{s x:bq}(hd:d<n)(hs: ∀k g off len sz,rd fr s≠ .isl .S k g off len sz):au E call n (⟨some d,.app sz bytes s x false false,none⟩::os) ⟨fr,lh,sh⟩=
  (slC lh sh sz (rd fr x)).bind fun p=>(uY lh d sz bytes (rd fr s) p).bind fun q=>au E call n os ⟨dp fr d q.1,q.2,sh⟩:=by
 rw[lv (by rfl) (show yz n (some d)from hd)]
 unfold one slC
 simp only[bT,qh,cG,lS]
 cases hx:(dF sz (rd fr x)).run (St.mk .nil lh sh).get sh.length with
 |none=>rfl
 |some p=>
  simp only[Option.bind_some]
  unfold uY
  by_cases hp:p.1=0
  ·simp only[if_pos hp]
   cases CU:rd fr s <;> rfl
  ·simp only[if_neg hp]
   cases CU:rd fr s <;> try rfl
   ·simp only[]
    split <;> rfl
   ·rename_i cs len ex
    cases ex
    ·rfl
    ·simp only[Bool.and_eq_true,decide_eq_true_eq]
     split <;> rfl
   ·rename_i sp k g off len mb
    cases sp
    ·simp only[Bool.and_eq_true,decide_eq_true_eq]
     by_cases h1:(mb=sz∧off=0)∧(len+p.1)*bytes≤roomy
     ·simp only[if_pos h1]
      exact acS (aq lh k) ⟨h1.1.1,h1.1.2,h1.2⟩
     ·simp only[if_neg h1,Q.run,iH]
      unfold Gh
      split
      ·rw[if_neg (by rintro⟨a,b,c,_⟩;exact h1 ⟨⟨a,b⟩,c⟩)]
       rfl
      ·rfl
    ·exact absurd CU (hs _ _ _ _ _)
def uZ(sz:Nat)(x:T)(l h:Nat):Option T:=
 match x with
 | .nilsl=>if l=0∧h=0 then some .nilsl else none
 | .sl cs len ex=>if l≤h∧h≤len∧cs.length=len*sz then some (.sl ((cs.drop (l*sz)).take ((h-l)*sz)) (h-l) (ex&&decide (h=len)))else none
 | .isl sp k g off len mb=>if l≤h∧h≤len∧mb=sz then some (if l=h then .sl [] 0 false else .isl sp k g (off+l*sz) (h-l) sz)else none
 |_=>none
def wv(fr:Fr)(sz:Nat)(x:T)(l h:Option bq):Option T:=
 (nD x).bind fun m=>(bH (rd fr) 0 l).bind fun l=>(bH (rd fr) m h).bind fun h=>uZ sz x l h
theorem Gi{sz l h nx:Nat}{x:T}{hp:Sp→Nat→aB}:(sx sz x l h).run hp nx=uZ sz x l h:=by
 unfold sx uZ
 cases x <;> try rfl
 ·simp only[Bool.and_eq_true,decide_eq_true_eq];split <;> rfl
 ·simp only[Bool.and_eq_true,decide_eq_true_eq,and_assoc];split <;> rfl
 ·simp only[Bool.and_eq_true,decide_eq_true_eq,and_assoc];split <;> rfl
theorem XM{sz:Nat}{x:bq}{l h:Option bq}(hd:d<n):au E call n (⟨some d,.slV sz x l h none,none⟩::os) ⟨fr,lh,sh⟩=(wv fr sz (rd fr x) l h).bind fun v=>au E call n os ⟨dp fr d v,lh,sh⟩:=by
 refine eh (d:=some d) (by rfl) hd ?_
 unfold one wv
 simp only[bT]
 cases nD (rd fr x)with
 |none=>rfl
 |some m=>
  simp only[Option.bind_some]
  cases bH (rd fr) 0 l with
  |none=>rfl
  |some l=>
   cases bH (rd fr) m h with
   |none=>rfl
   |some h=>
    simp only[cG,Gi,Option.bind_some]
    cases uZ sz (rd fr x) l h <;> rfl
def U6(e:aB)(g:Nat)(ek:EK)(k z:T)(ok:Bool):Option T:=
 match e with
 |⟨g',.map ks vs _⟩=>if g'=g then lN ek ks vs k z ok else none
 |_=>none
def pX(lh:aQ aB)(sh:List aB)(ek:EK)(m k z:T)(ok:Bool):Option T:=
 match m with
 | .nilmp=>if isKey ek k=true then some (if ok=true then .tup [z,.b false]else z)else none
 | .vm ks vs=>lN ek ks vs k z ok
 | .mp .L kk g=>U6 (aq lh kk) g ek k z ok
 | .mp .S kk g=>U6 (dg sh kk) g ek k z ok
 |_=>none
theorem lkQ{h:Sp→Nat→aB}{nx g:Nat}{ek:EK}{k z:T}{ok:Bool}(e:aB):iH (Q.run h nx (if e.g=g then(match e.ob with| .map ks vs _=>val (lN ek ks vs k z ok)|_=> .fail)else .fail))=(U6 e g ek k z ok).map fun v=>(v,[]):=by
 obtain⟨g',ob⟩:=e
 unfold U6
 by_cases hg:g'=g
 ·cases ob <;> simp only[hg,if_true] <;> first|rfl|exact j0
 ·cases ob <;> simp only[hg,if_false] <;> rfl
theorem acT{ek:EK}{m k:bq}{z:T}{ok:Bool}(hd:d<n):au E call n (⟨some d,.lk ek m k z ok,none⟩::os) ⟨fr,lh,sh⟩=(pX lh sh ek (rd fr m) (rd fr k) z ok).bind fun v=>au E call n os ⟨dp fr d v,lh,sh⟩:=by
 refine eh (d:=some d) (by rfl) hd ?_
 unfold one pX
 simp only[bT]
 cases hm:rd fr m <;> try rfl
 ·simp only[];split <;> rfl
 ·exact j0
 ·rename_i sp kk g
  cases sp
  ·exact lkQ (aq lh kk)
  ·exact lkQ (dg sh kk)
def U7(lh:aQ aB)(kk:Nat)(e:aB)(g:Nat)(ek:EK)(k v:T):Option (aQ aB):=
 match e with
 |⟨g',.map ks vs false⟩=>if g'=g∧isKey ek k=true then(mO ek k v ks vs).map fun q=>cM lh kk ⟨g,.map q.1 q.2 false⟩else none
 |_=>none
def XN(kk g:Nat)(ek:EK)(k v:T)(e:aB):Q wP:=if e.g=g&&isKey ek k then match e.ob with
      | .map ks vs false=>(fz false aU v).bind fun p=>match mO ek k p.1 ks vs with
        |some q=>if ib p.2 .L kk then .fail else .ret (.val bA (p.2++ [(.L,kk,⟨g,.map q.1 q.2 false⟩)]))
        |none=> .fail
      |_=> .fail
     else .fail
theorem muQ{kk g:Nat}{ek:EK}{k v:T}(e:aB)(hf:froz v=true):((iH (Q.run (St.mk fr lh sh).get sh.length (XN kk g ek k v e))).bind fun r=>au E call n os {(St.mk fr lh sh).ups r.2 with fr:=fr})=
  (U7 lh kk e g ek k v).bind fun bp=>au E call n os ⟨fr,bp,sh⟩:=by
 obtain⟨g',ob⟩:=e
 unfold XN U7
 by_cases hg:g'=g∧isKey ek k=true
 ·have:(decide (g'=g)&&isKey ek k)=true:=by simp[hg.1,hg.2]
  simp only[this,if_true]
  cases ob with
  |none=>rfl
  |cells cs wm bx=>rfl
  |map ks vs z=>
   cases z with
   |true=>rfl
   |false=>
    simp only[if_pos hg]
    unfold aU
    rw[lz hf]
    simp only[Q.bind]
    cases mO ek k v ks vs with
    |none=>rfl
    |some q=>simp only[ib,List.any_nil,Bool.false_eq_true,if_false,Q.run,List.nil_append];rfl
 ·have:(decide (g'=g)&&isKey ek k)=false:=by
   cases h:(decide (g'=g)&&isKey ek k)with
   |false=>rfl
   |true=>simp at h;exact absurd h hg
  simp only[this,Bool.false_eq_true,if_false,Q.run,iH]
  cases ob with
  |none=>rfl
  |cells cs wm bx=>rfl
  |map ks vs z=>
   cases z with
   |true=>rfl
   |false=>simp only[if_neg hg];rfl
theorem XO{ek:EK}{m k v:bq}{kk g:Nat}(hm:rd fr m= .mp .L kk g)(hf:froz (rd fr v)=true):au E call n (⟨none,.mu ek m k v,none⟩::os) ⟨fr,lh,sh⟩=(U7 lh kk (aq lh kk) g ek (rd fr k) (rd fr v)).bind fun bp=>au E call n os ⟨fr,bp,sh⟩:=by
 rw[lv (by rfl) (show yz n none from trivial)]
 unfold one
 simp only[bT,hm]
 exact muQ (aq lh kk) hf
def M8(lh:aQ aB)(ek:EK)(m k v:T):Option (aQ aB):=
 match m with
 | .mp .L kk g=>U7 lh kk (aq lh kk) g ek k v
 |_=>none
theorem acU{ek:EK}{m k v:bq}(hm: ∀kk g,rd fr m≠ .mp .S kk g)(hf:froz (rd fr v)=true):au E call n (⟨none,.mu ek m k v,none⟩::os) ⟨fr,lh,sh⟩=(M8 lh ek (rd fr m) (rd fr k) (rd fr v)).bind fun bp=>au E call n os ⟨fr,bp,sh⟩:=by
 cases h:rd fr m with
 |mp sp kk g=>
  cases sp with
  |L=>rw[XO h hf];rfl
  |S=>exact absurd h (hm kk g)
 |_=>
  rw[lv (by rfl) (show yz n none from trivial)]
  unfold one
  simp only[bT,h]
  rfl
def ahy(e:aB)(g:Nat):Option T:=
 match e with
 |⟨g',.map ks _ _⟩=>if g'=g then some (.i .i64 ks.length)else none
 |_=>none
def dq(z:List T)(len:Nat)(is:List Nat)(vs:List T):Option T:=
 if(vs.all fun v=>(cellsOf v).length=z.length&&noTup v)=true then(aH (repl z len) ((is.map fun i=>i*z.length).zip (vs.map cellsOf))).map fun cs=> .sl cs len true else none
theorem XP{z:List T}{len:Nat}{ps:List (Nat×bq)}(hd:d<n):au E call n (⟨some d,.bsl z len ps,none⟩::os) ⟨fr,lh,sh⟩=
  (rG lh sh false (ps.map fun p=>rd fr p.2)).bind fun q=>(dq z len (ps.map (·.1)) q.1).bind fun v=>au E call n os {(St.mk fr lh sh).ups q.2 with fr:=dp fr d v}:=by
 rw[lv (by rfl) (show yz n (some d)from hd)]
 unfold one rG dq
 simp only[bT,cG,lS]
 cases (bC (fz false aU) (ps.map fun p=>rd fr p.2)).run (St.mk .nil lh sh).get sh.length with
 |none=>rfl
 |some q=>
  simp only[Option.bind_some]
  have e:(ps.map (·.1)).map (fun i=>i*z.length)=ps.map fun p=>p.1*z.length:=by rw[List.map_map];rfl
  rw[e]
  split
  ·cases aH (repl z len) ((ps.map fun p=>p.1*z.length).zip (q.1.map cellsOf)) <;> rfl
  ·rfl
theorem Jw{d:Option Nat}{op:nu}{f:Nat}{args:List T}(hc:bI (rd fr) op=some (some (f,args)))(hd:yz n d):
  au E call n (⟨d,op,none⟩::os) ⟨fr,lh,sh⟩=(ar E call (d.getD 0) ⟨fr,lh,sh⟩ f args).bind fun r=>au E call n os ⟨pf fr d r.1,r.2.lh,r.2.sh⟩:=by
 simp only[au,bu,eY,hc]
 cases ar E call (d.getD 0) ⟨fr,lh,sh⟩ f args with
 |none=>rfl
 |some r=>
  simp only[Option.bind_some]
  cases d with
  |none=>rfl
  |some d=>simp only[fS,if_pos (show d<n from hd),pf,Option.map_some]
theorem Tl{f:Nat}{as:List bq}(hd:d<n):au E call n (⟨some d,.callf f as,none⟩::os) ⟨fr,lh,sh⟩=(ar E call d ⟨fr,lh,sh⟩ f (as.map (rd fr))).bind fun r=>au E call n os ⟨dp fr d r.1,r.2.lh,r.2.sh⟩:=
 Jw (d:=some d) rfl hd
def iq(E:Env)(call:lj)(d:Nat)(st:St)(f:T)(args:List T):Option (T×St):=
 match f with
 | .fn f a c=>ar E call d st f (a++args++c)
 |_=>none
theorem M9{f:bq}{as:List bq}(hd:d<n):au E call n (⟨some d,.callv f as,none⟩::os) ⟨fr,lh,sh⟩=(iq E call d ⟨fr,lh,sh⟩ (rd fr f) (as.map (rd fr))).bind fun r=>au E call n os ⟨dp fr d r.1,r.2.lh,r.2.sh⟩:=by
 unfold iq
 cases hf:rd fr f with
 |fn f' a c=>exact Jw (d:=some d) (by simp only[bI,hf]) hd
 |_=>simp only[au,bu,eY,bI,hf];rfl
theorem hZ{dd:Nat}{af:aE}{f:Nat}{args:List T}(hf:E.fn f=some af)(he:af.eff=false)(hw:af.own=none):ar E call dd ⟨fr,lh,sh⟩ f args=
  (rG lh sh false args).bind fun q=>(call f q.1 []).bind fun r=>some (r.1,if scalar r.1=true then⟨fr,lh,sh⟩else(St.mk fr lh sh).ups q.2):=by
 unfold ar rG
 simp only[hf,he,hw,lS]
 cases (bC (fz false aU) args).run (St.mk .nil lh sh).get sh.length with
 |none=>rfl
 |some q=>
  simp only[Bool.false_eq_true,if_false,Option.bind_some]
  cases call f q.1 [] <;> rfl
theorem av{dd:Nat}{af:aE}{f:Nat}{args:List T}(hf:E.fn f=some af)(he:af.eff=false)(hw:af.own=none)(hz:args.all froz=true):ar E call dd ⟨fr,lh,sh⟩ f args=
  (call f args []).bind fun r=>some (r.1,⟨fr,lh,sh⟩):=by
 rw[hZ hf he hw,qM hz]
 simp only[Option.bind_some,tH,ite_self]
theorem Jx{dd:Nat}{af:aE}{f j:Nat}{args:List T}(hf:E.fn f=some af)(he:af.eff=false)(hw:af.own=some j):ar E call dd ⟨fr,lh,sh⟩ f args=
  (rG lh sh false args).bind fun q=>(call f q.1 []).bind fun r=>jO dd j r.1 ⟨fr,lh,sh⟩ q.2:=by
 unfold ar rG
 simp only[hf,he,hw,lS]
 cases (bC (fz false aU) args).run (St.mk .nil lh sh).get sh.length with
 |none=>rfl
 |some q=>
  simp only[Bool.false_eq_true,if_false,Option.bind_some]
  cases call f q.1 [] <;> rfl
theorem FT{dd:Nat}{af:aE}{f j:Nat}{args:List T}(hf:E.fn f=some af)(he:af.eff=false)(hw:af.own=some j)(hz:args.all froz=true):ar E call dd ⟨fr,lh,sh⟩ f args=
  (call f args []).bind fun r=>jO dd j r.1 ⟨fr,lh,sh⟩ []:=by
 rw[Jx hf he hw,qM hz]
 rfl
theorem Io{dd:Nat}{af:aE}{f:Nat}{args:List T}(hf:E.fn f=some af)(he:af.eff=true):ar E call dd ⟨fr,lh,sh⟩ f args=
  (rG lh sh true args).bind fun q=>(call f q.1 ((St.mk fr lh sh).ups q.2).sh).bind fun r=>some (r.1,{(St.mk fr lh sh).ups q.2 with sh:=r.2}):=by
 unfold ar rG
 simp only[hf,he,lS]
 cases (bC (fz true aU) args).run (St.mk .nil lh sh).get sh.length with
 |none=>rfl
 |some q=>
  simp only[if_true,Option.bind_some]
  cases call f q.1 ((St.mk fr lh sh).ups q.2).sh <;> rfl
theorem Jy{dd:Nat}{g:List T→Option T}{f:Nat}{args:List T}(hf:E.fn f=none)(he:E.ext f=some g):ar E call dd ⟨fr,lh,sh⟩ f args=
  (rG lh sh false args).bind fun q=>(g q.1).bind fun r=>some (r,⟨fr,lh,sh⟩):=by
 unfold ar rG
 simp only[hf,he,lS]
 cases (bC (fz false aU) args).run (St.mk .nil lh sh).get sh.length with
 |none=>rfl
 |some q=>
  simp only[Option.bind_some]
  cases g q.1 <;> rfl
theorem Jz{d:Option Nat}{op:nu}{j:Nat}{w:Bool}(h:ak fr j= .b w):au E call n (⟨d,op,some (j,w)⟩::os) ⟨fr,lh,sh⟩=au E call n (⟨d,op,none⟩::os) ⟨fr,lh,sh⟩:=by
 simp only[au,bu,h,if_true]
theorem CV{d:Option Nat}{op:nu}{j:Nat}{w:Bool}(hd:yz n d)(h:ak fr j= .b (!w)):au E call n (⟨d,op,some (j,w)⟩::os) ⟨fr,lh,sh⟩=au E call n os ⟨pf fr d bA,lh,sh⟩:=by
 simp only[au,bu,h]
 rw[if_neg (by cases w <;> simp)]
 cases d with
 |none=>rfl
 |some d=>simp only[fS,if_pos (show d<n from hd),pf,Option.map_some]
theorem EC{d:Option Nat}{op:nu}{j:Nat}{w:Bool}(hd:yz n d)(h:ak fr j=bA):au E call n (⟨d,op,some (j,w)⟩::os) ⟨fr,lh,sh⟩=au E call n os ⟨pf fr d bA,lh,sh⟩:=by
 simp only[au,bu,h,bA]
 cases d with
 |none=>rfl
 |some d=>simp only[fS,if_pos (show d<n from hd),pf,Option.map_some]
def onB{α:Type}(t:T)(f:Bool→Option α):Option α:=match t with| .b x=>f x|_=>none
theorem afs{α:Type}{x:Bool}{f:Bool→Option α}:onB (.b x) f=f x:=rfl
theorem XQ{bL:List FP}{st:St}:aL E call n [] bL st=some st:=rfl
end
section
variable{E:Env}{n:Nat}{fr:Fr}{lh:aQ aB}{sh:List aB}
def JA(t:T)(x y:Option (Out×St)):Option (Out×St):=match t with| .b c=>if c=true then x else y|_=>none
theorem ZV{c:Bool}{x y:Option (Out×St)}:JA (.b c) x y=if c=true then x else y:=rfl
theorem JB{c:bq}{a b:aN}:DC E n (.cond c a b) ⟨fr,lh,sh⟩=JA (rd fr c) (DC E n a ⟨fr,lh,sh⟩) (DC E n b ⟨fr,lh,sh⟩):=by
 rw[MN,eY]
 unfold JA
 cases h:rd fr c <;> try rfl
 rename_i x
 cases x <;> rfl
theorem andThen_ite{c:Prop}[Decidable c]{x y:Option (Out×St)}{f:St→Option (Out×St)}:andThen (if c then x else y) f=if c then andThen x f else andThen y f:=by split <;> rfl
theorem Na{α β:Type}{c:Prop}[Decidable c]{x y:Option α}{f:α→β}:(if c then x else y).map f=if c then x.map f else y.map f:=by split <;> rfl
def tr(fr:Fr)(lh:aQ aB)(sh:List aB):List ur→Option (List T)
 | []=>some []
 | .tmp t::rs=>(tr fr lh sh rs).map fun vs=>ak fr t::vs
 | .cell t m ag::rs=>(LW lh sh (ak fr t) m ag).bind fun v=>(tr fr lh sh rs).map fun vs=>v::vs
theorem oL: ∀rs,fx ⟨fr,lh,sh⟩ rs=tr fr lh sh rs
 | []=>rfl
 | .tmp t::rs=>by
   rw[fx,tr,oL rs]
   simp only[Ag]
   cases tr fr lh sh rs <;> rfl
 | .cell t m ag::rs=>by
   rw[fx,tr,oL rs]
   simp only[Ag,EA]
   cases LW lh sh (ak fr t) m ag <;> cases tr fr lh sh rs <;> rfl
def JC(lh:aQ aB)(sh:List aB)(eff:Bool)(vs:List T):Option (T×List aB):=
 (fzV lh sh eff (match vs with| [v]=>v|vs=> .tup vs)).map fun p=>(p.1,((St.mk .nil lh sh).ups p.2).sh)
theorem xg{eff:Bool}{vs:List T}:answer eff vs ⟨fr,lh,sh⟩=JC lh sh eff vs:=by
 unfold answer JC fzV
 rw[lS]
 cases (fz eff aU (match vs with| [v]=>v|vs=> .tup vs)).run (St.mk .nil lh sh).get sh.length with
 |none=>rfl
 |some p=>simp only[Option.map_some];rw[kb]
end
def LX(os:List aT):List Nat:=os.filterMap (·.d)
def iJ:aN→List Nat
 | .region ops=>LX ops
 | .draws ops=>LX (ops.map (·.2))
 | .seq a b=>iJ a++iJ b
 | .cond _ a b=>iJ a++iJ b
 | .block _ a=>iJ a
 | .loop a=>iJ a
 |_=> []
theorem oM{fr cO:Fr}{n:Nat}{d:Option Nat}{v:T}(h:fS fr n d v=some cO){s:Nat}(hs:some s≠d):ak cO s=ak fr s:=by
 cases d with
 |none=>simp[fS]at h;rw[h]
 |some d=>
  simp only[fS]at h
  split at h
  ·cases h;exact Js _ _ (by intro e;exact hs (by rw[e]))
  ·cases h
theorem sR{E:Env}{call:lj}{n:Nat}{o:aT}{st bD:St}(h:bu E call n o st=some bD){s:Nat}(hs:some s≠o.d):ak bD.fr s=ak st.fr s:=by
 have key: ∀bD,(match bI st.rho o.op with
  |some (some cc)=>match ar E call (o.d.getD 0) st cc.1 cc.2 with
   |some r=>(fS st.fr n o.d r.1).map fun fr=>{r.2 with fr}
   |none=>none
  |some none=>none
  |none=>match(bT (o.d.getD 0) st.rho o.op).run st.get st.sh.length with
   |some (.val v ups)=>(fS st.fr n o.d v).map fun fr=>{st.ups ups with fr}
   |none=>none)=some bD→ak bD.fr s=ak st.fr s:=by
  intro bD hh
  split at hh
  ·split at hh
   ·simp only[Option.map_eq_some_iff]at hh
    obtain⟨fr,h1,rfl⟩:=hh
    exact oM h1 hs
   ·cases hh
  ·cases hh
  ·split at hh
   ·simp only[Option.map_eq_some_iff]at hh
    obtain⟨fr,h1,rfl⟩:=hh
    exact oM h1 hs
   ·cases hh
 unfold bu at h
 simp only[]at h
 split at h
 ·exact key _ h
 ·split at h
  ·split at h
   ·exact key _ h
   ·simp only[Option.map_eq_some_iff]at h
    obtain⟨fr,h1,rfl⟩:=h
    exact oM h1 hs
  ·simp only[Option.map_eq_some_iff]at h
   obtain⟨fr,h1,rfl⟩:=h
   exact oM h1 hs
theorem u5{E:Env}{call:lj}{n:Nat}: ∀(os:List aT) {st bD:St},au E call n os st=some bD→ ∀s,s∉LX os→ak bD.fr s=ak st.fr s
 | [],st,bD,h,s,_=>by cases h;rfl
 |o::os,st,bD,h,s,hs=>by
  simp only[au]at h
  cases ho:bu E call n o st with
  |none=>simp only[ho]at h;cases h
  |some s1=>
   simp only[ho]at h
   have h1:s∉LX os:=fun hm=>hs (by
    unfold LX at hm ⊢
    rw[List.filterMap_cons]
    split
    ·exact hm
    ·exact List.mem_cons_of_mem _ hm)
   have h2:some s≠o.d:=fun he=>hs (by
    unfold LX
    rw[List.filterMap_cons]
    rw[←he]
    exact List.mem_cons_self)
   rw[u5 os h s h1,sR ho h2]
theorem sS{E:Env}{call:lj}{n:Nat}: ∀(os:List (List Nat×aT)) {bL:List FP} {st bD:St},aL E call n os bL st=some bD→ ∀s,s∉LX (os.map (·.2))→ak bD.fr s=ak st.fr s
 | [],bL,st,bD,h,s,_=>by cases h;rfl
 |(u,o)::os,bL,st,bD,h,s,hs=>by
  simp only[aL]at h
  split at h
  ·cases h
  ·split at h
   ·cases ho:bu E call n o st with
    |none=>simp only[ho]at h;cases h
    |some s1=>
     simp only[ho]at h
     have h1:s∉LX (os.map (·.2)):=fun hm=>hs (by
      unfold LX at hm ⊢
      rw[List.map_cons,List.filterMap_cons]
      split
      ·exact hm
      ·exact List.mem_cons_of_mem _ hm)
     have h2:some s≠o.d:=fun he=>hs (by
      unfold LX
      rw[List.map_cons,List.filterMap_cons]
      rw[←he]
      exact List.mem_cons_self)
     rw[sS os h s h1,sR ho h2]
   ·cases h
theorem xh{f:St→Option (Out×St)}{s:Nat}(hf: ∀st r,f st=some r→ak r.2.fr s=ak st.fr s): ∀(k:Nat) {st:St} {r:Out×St},iter f k st=some r→ak r.2.fr s=ak st.fr s
 |0,st,r,h=>by simp[iter]at h
 |k+1,st,r,h=>by
  simp only[iter]at h
  cases hh:f st with
  |none=>rw[hh]at h;cases h
  |some p=>
   rw[hh]at h
   obtain⟨o,s1⟩:=p
   have h1:=hf _ _ hh
   cases o with
   |nrm=>rw[xh hf k h];exact h1
   |ext id=>cases h;exact h1
   |ret=>cases h;exact h1
theorem kH{E:Env}{call:lj}{fl n:Nat}: ∀(code:aN) {st:St} {r:Out×St},fU E call fl n code st=some r→ ∀s,s∉iJ code→ak r.2.fr s=ak st.fr s
 | .skip,st,r,h,s,_=>by cases h;rfl
 | .region ops,st,r,h,s,hs=>by
   simp only[fU,Option.map_eq_some_iff]at h
   obtain⟨a,h1,rfl⟩:=h
   exact u5 ops h1 s hs
 | .draws ops,st,r,h,s,hs=>by
   simp only[fU,Option.map_eq_some_iff]at h
   obtain⟨a,h1,rfl⟩:=h
   exact sS ops h1 s hs
 | .seq a b,st,r,h,s,hs=>by
   simp only[iJ,List.mem_append,not_or]at hs
   simp only[fU]at h
   cases ha:fU E call fl n a st with
   |none=>rw[ha]at h;cases h
   |some p=>
    rw[ha]at h
    obtain⟨o,s1⟩:=p
    have h1:=kH a ha s hs.1
    cases o with
    |nrm=>rw[kH b h s hs.2];exact h1
    |ext id=>cases h;exact h1
    |ret=>cases h;exact h1
 | .cond x a b,st,r,h,s,hs=>by
   simp only[iJ,List.mem_append,not_or]at hs
   simp only[fU]at h
   split at h
   ·exact kH a h s hs.1
   ·exact kH b h s hs.2
   ·cases h
 | .block id a,st,r,h,s,hs=>by
   simp only[fU]at h
   cases ha:fU E call fl n a st with
   |none=>rw[ha]at h;cases h
   |some p=>
    rw[ha]at h
    obtain⟨o,s1⟩:=p
    have h1:=kH a ha s hs
    cases o with
    |nrm=>cases h;exact h1
    |ext D6=>
     simp only[]at h
     split at h <;> (cases h;exact h1)
    |ret=>cases h;exact h1
 | .loop a,st,r,h,s,hs=>by
   simp only[fU]at h
   exact xh (fun st r hh=>kH a hh s hs) fl h
 | .exit id,st,r,h,s,_=>by cases h;rfl
 | .ret,st,r,h,s,_=>by cases h;rfl
theorem Nb{E:Env}{n:Nat}{code:aN}{st bD:St}{o:Out}(h:DC E n code st=some (o,bD))(s:Nat)(hs:(iJ code).contains s=false):ak bD.fr s=ak st.fr s:=by
 obtain⟨m,hm⟩:=dk.1 h
 exact kH code hm s (by intro hc;simp[hc]at hs)
end Go.Ev
namespace Go.Ev
open Go
def Q.calm:Q wP→Prop
 | .ret (.val _ ups)=>ups= []
 | .fail=>True
 | .rd _ _ f=> ∀e,(f e).calm
 | .new _=>False
theorem Q.calm_run{h:Sp→Nat→aB}{nx:Nat}: ∀(q:Q wP),q.calm→ ∀{v:T} {ups:List Up},q.run h nx=some (.val v ups)→ups= []∧q.asks h nx=false
 | .ret (.val _ _),hc,v,ups,hr=>by simp[Q.run]at hr;obtain⟨rfl,rfl⟩:=hr;exact⟨hc,rfl⟩
 | .fail,hc,v,ups,hr=>by simp[Q.run]at hr
 | .rd sp k f,hc,v,ups,hr=>Q.calm_run (f (h sp k)) (hc _) hr
 | .new f,hc,v,ups,hr=>hc.elim
theorem fA{o:Option T}:(val o).calm:=by cases o <;> simp[val,Q.calm]
def aP:nu→Bool
 | .mv _| .pick .. | .bin .. | .eq .. | .un .. | .cvi .. | .mkfn .. | .build .. | .slS .. | .fa .. | .fld .. | .ia .. | .iaA .. | .ixS .. | .ixA .. | .ext .. | .lenS _| .lenV _| .lenC _| .mm .. | .nck _| .ld .. | .lk .. | .lenM _=>true
 | .slV _ _ _ _ none=>true
 |_=>false
theorem yD{d:Nat}{ρ:bq→T}{op:nu}(h:aP op=true):(bT d ρ op).calm∧bI ρ op=none:=by
 refine⟨?_,by cases op <;> first|rfl|(simp[aP]at h)⟩
 cases op with
 |mv x=>exact rfl
 |pick c a b=>simp only[bT];split <;> simp[Q.calm]
 |bin op x y=>exact fA
 |eq neg k x y=>exact fA
 |un op x=>exact fA
 |cvi k x=>simp only[bT];split <;> simp[Q.calm]
 |mkfn f a c=>exact rfl
 |build z ps=>
  simp only[bT]
  by_cases hb:(ps.all fun p=>decide ((cellsOf (ρ p.2.2)).length=p.2.1)&&noTup (ρ p.2.2))=true
  ·rw[if_pos hb];exact fA
  ·rw[if_neg hb];trivial
 |slS x l h=>
  simp only[bT]
  split
  ·split
   ·split <;> simp[Q.calm]
   ·trivial
  ·trivial
 |fa x off=>
  simp only[bT]
  split
  ·split <;> simp[Q.calm]
  ·exact rfl
  ·trivial
 |fld x off m ag=>
  simp only[bT]
  split
  ·exact fA
  ·trivial
 |ia x ix sz=>
  simp only[bT]
  split
  ·split <;> simp[Q.calm]
  ·split <;> simp[Q.calm]
  ·trivial
 |iaA x ix len sz=>
  simp only[bT]
  split
  ·split <;> simp[Q.calm]
  ·split <;> simp[Q.calm]
  ·trivial
 |ixS x ix=>
  simp only[bT]
  split
  ·split <;> simp[Q.calm]
  ·trivial
 |ixA x ix len sz ag=>
  simp only[bT]
  split
  ·split
   ·exact fA
   ·trivial
  ·trivial
 |ext x j=>
  simp only[bT]
  split
  ·exact fA
  ·trivial
 |lenS x=>simp only[bT];split <;> simp[Q.calm]
 |lenV x=>exact fA
 |lenC m=>exact rfl
 |mm b as=>
  simp only[bT]
  split
  ·exact fA
  ·trivial
 |nck x=>simp only[bT];split <;> simp[Q.calm]
 |ld x m ag=>
  simp only[bT,x8]
  split
  ·rename_i cs _
   cases part cs 0 m ag <;> simp[Q.of,Q.bind,Q.calm]
  ·rename_i g off _
   intro e
   obtain⟨g',ob⟩:=e
   by_cases hg:g'=g
   ·cases ob with
    |cells cs wm bx=>
     simp only[hg,if_true]
     generalize part cs _ m ag=o
     cases o <;> simp[Q.of,Q.bind,Q.calm]
    |_=>simp only[hg,if_true];trivial
   ·simp only[hg,if_false];trivial
  ·trivial
 |lk ek m k z ok=>
  simp only[bT]
  split
  ·split <;> simp[Q.calm]
  ·exact fA
  ·rename_i g _
   intro e
   obtain⟨g',ob⟩:=e
   by_cases hg:g'=g
   ·cases ob with
    |map ks vs z=>simp only[hg,if_true];exact fA
    |_=>simp only[hg,if_true];trivial
   ·simp only[hg,if_false];trivial
  ·trivial
 |lenM x=>
  simp only[bT]
  split
  ·exact rfl
  ·exact rfl
  ·rename_i g _
   intro e
   obtain⟨g',ob⟩:=e
   by_cases hg:g'=g
   ·cases ob with
    |map ks vs z=>simp only[hg,if_true];exact rfl
    |_=>simp only[hg,if_true];trivial
   ·simp only[hg,if_false];trivial
  ·trivial
 |slV sz x l h mx=>
  cases mx with
  |some m=>simp[aP]at h
  |none=>
   simp only[bT]
   split
   ·trivial
   ·split
    ·rename_i l' h' _ _ _
     unfold sx
     split
     ·split <;> simp[Q.bind,Q.calm]
     ·split <;> simp[Q.bind,Q.calm]
     ·split <;> simp[Q.bind,Q.calm]
     ·trivial
    ·rename_i hh;exact absurd hh (by simp)
    ·trivial
 |_=>simp[aP]at h
def Calm(fp:FP):Prop:=fp.all=false∧fp.w= []
theorem CW{x y:FP}(hx:Calm x)(hy:Calm y):apart x y=true:=by
 obtain⟨a,r,w⟩:=x
 obtain⟨a',r',w'⟩:=y
 obtain⟨rfl,rfl⟩:=hx
 obtain⟨rfl,rfl⟩:=hy
 simp[apart,fT]
section
variable{E:Env}{call:lj}{n:Nat}
theorem Nc{o:aT}{st bD:St}(hc:aP o.op=true)(hr:bu E call n o st=some bD): ∃fp,cj E call o st=some fp∧Calm fp:=by
 obtain⟨hq,wu⟩:=yD (d:=o.d.getD 0) (ρ:=st.rho) hc
 have key: ∀bD,(match(bT (o.d.getD 0) st.rho o.op).run st.get st.sh.length with
   |some (.val v ups)=>(fS st.fr n o.d v).map fun fr=>{st.ups ups with fr}
   |none=>none)=some bD→ ∃fp,(match(bT (o.d.getD 0) st.rho o.op).run st.get st.sh.length with
   |some (.val _ ups)=>if((bT (o.d.getD 0) st.rho o.op).asks st.get st.sh.length||pG st ups)=true then some (⟨(bT (o.d.getD 0) st.rho o.op).asks st.get st.sh.length,(bT (o.d.getD 0) st.rho o.op).log st.get st.sh.length,cX ups⟩:FP)else none
   |none=>none)=some fp∧Calm fp:=by
  intro bD h
  cases hh:(bT (o.d.getD 0) st.rho o.op).run st.get st.sh.length with
  |none=>rw[hh]at h;cases h
  |some r=>
   obtain⟨v,ups⟩:=r
   obtain⟨rfl,ha⟩:=Q.calm_run _ hq hh
   refine⟨⟨false,(bT (o.d.getD 0) st.rho o.op).log st.get st.sh.length,[]⟩, ?_,rfl,rfl⟩
   simp only[ha,pG,List.all_nil,Bool.or_true,if_true,cX,List.map_nil]
 unfold bu at hr
 unfold cj
 simp only[wu]at hr ⊢
 cases hg:o.gd with
 |none=>simp only[hg]at hr;exact key _ hr
 |some p=>
  obtain⟨j,want⟩:=p
  simp only[hg]at hr ⊢
  split at hr
  ·rename_i x hx
   by_cases hw:x=want
   ·rw[if_pos hw]at hr ⊢; exact key _ hr
   ·rw[if_neg hw]at hr ⊢; exact⟨dB,rfl,rfl,rfl⟩
  ·exact⟨dB,rfl,rfl,rfl⟩
def Tm(cs:List Bool):List (List Nat×aT)→Bool
 | []=>true
 |(u,o)::ds=>aP o.op&&Tm cs ds
theorem xi: ∀(ds:List (List Nat×aT)) (bL:List FP) (st:St),(ds.all fun p=>aP p.2.op&&p.1.all fun i=>decide (i<bL.length+ds.length))=true→(∀fp∈bL,Calm fp)→
  (∀(k:Nat) (u:List Nat) (o:aT),ds[k]? =some (u,o)→ ∀i∈u,i<bL.length+k)→
  aL E call n ds bL st=au E call n (ds.map (·.2)) st
 | [],bL,st,_,_,_=>rfl
 |(u,o)::ds,bL,st,h,hf,hi=>by
  simp only[List.all_cons,Bool.and_eq_true]at h
  simp only[aL,List.map_cons,au]
  cases ho:bu E call n o st with
  |none=>
   cases cj E call o st with
   |none=>rfl
   |some fp=>simp only[ite_self]
  |some s=>
   obtain⟨fp,h1,h2⟩:=Nc h.1.1 ho
   simp only[h1]
   have hu:(u.all fun i=>apart (aZ ⟨true,[],[]⟩ bL i) fp)=true:=by
    rw[List.all_eq_true]
    intro i hiu
    have:=hi 0 u o rfl i hiu
    have hg:aZ ⟨true,[],[]⟩ bL i∈bL:=by
     have: ∀(l:List FP) (j:Nat),j<l.length→aZ ⟨true,[],[]⟩ l j∈l:=by
      intro l
      induction l with
      |nil=>intro j hj;simp at hj
      |cons x xs ih=>
       intro j hj
       cases j with
       |zero=>exact List.mem_cons_self
       |succ j=>exact List.mem_cons_of_mem _ (ih j (by simpa using hj))
     exact this bL i (by omega)
    exact CW (hf _ hg) h2
   simp only[hu,if_true]
   refine xi ds (bL++ [fp]) s ?_ ?_ ?_
   ·have h2:=h.2
    rw[List.all_eq_true]at h2 ⊢
    intro p hp
    have:=h2 p hp
    simp only[List.length_append,List.length_cons,List.length_nil]at this ⊢
    rw[Bool.and_eq_true]at this ⊢
    refine⟨this.1, ?_⟩
    have h3:=this.2
    rw[List.all_eq_true]at h3 ⊢
    intro i wh
    have:=h3 i wh
    simp only[decide_eq_true_eq]at this ⊢
    omega
   ·intro fp' hm
    rcases List.mem_append.1 hm with hm|hm
    ·exact hf _ hm
    ·simp at hm;rw[hm];exact h2
   ·intro k u' o' hk i hiu
    have:=hi (k+1) u' o' hk i hiu
    simp only[List.length_append,List.length_cons,List.length_nil]
    omega
def bn:Nat→List (List Nat×aT)→Bool
 |_,[]=>true
 |k,(u,o)::ds=>aP o.op&&(u.all fun i=>decide (i<k))&&bn (k+1) ds
theorem xj: ∀(ds:List (List Nat×aT)) (m:Nat),bn m ds=true→(∀(k:Nat) (u:List Nat) (o:aT),ds[k]? =some (u,o)→aP o.op=true∧ ∀i∈u,i<m+k)
 | [],m,_,k,u,o,hk=>by simp at hk
 |(u0,o0)::ds,m,h,k,u,o,hk=>by
  simp only[bn,Bool.and_eq_true]at h
  cases k with
  |zero=>
   simp at hk
   obtain⟨rfl,rfl⟩:=hk
   refine⟨h.1.1,fun i hi=> ?_⟩
   have:=(List.all_eq_true.1 h.1.2) i hi
   simpa using this
  |succ k=>
   obtain⟨h1,h2⟩:=xj ds (m+1) h.2 k u o (by simpa using hk)
   exact⟨h1,fun i hi=>by have:=h2 i hi;omega⟩
theorem Nd{E:Env}{n:Nat}{ds:List (List Nat×aT)}{st:St}(h:bn 0 ds=true):DC E n (.draws ds) st=(au E (ai E) n (ds.map (·.2)) st).map fun bD=>(.nrm,bD):=by
 rw[AL]
 congr 1
 have hb:=xj ds 0 h
 refine xi ds [] st ?_ (by simp) (fun k u o hk i hi=>by have:=(hb k u o hk).2 i hi;simpa using this)
 rw[List.all_eq_true]
 intro p hp
 obtain⟨k,hk,he⟩:=List.getElem_of_mem hp
 obtain⟨u,o⟩:=p
 obtain⟨h1,h2⟩:=hb k u o (by rw[List.getElem?_eq_getElem hk,he])
 rw[Bool.and_eq_true]
 refine⟨h1, ?_⟩
 rw[List.all_eq_true]
 intro i hi
 have:=h2 i hi
 simp only[decide_eq_true_eq,List.length_nil]
 omega
end
end Go.Ev
namespace Go.Ev
open Go
def kv(F:St→Option St)(fr:Fr)(lh:aQ aB)(sh:List aB)(d:Nat)(v:Option T):Option St:=v.bind fun v=>F ⟨dp fr d v,lh,sh⟩
def kn(F:St→Option St)(st:St)(v:Option T):Option St:=v.bind fun _=>F st
def ks(F:St→Option St)(fr:Fr)(r:Option (aQ aB×List aB)):Option St:=r.bind fun r=>F ⟨fr,r.1,r.2⟩
def ka(F:St→Option St)(fr:Fr)(sh:List aB)(d:Nat)(r:Option (T×aQ aB)):Option St:=r.bind fun q=>F ⟨dp fr d q.1,q.2,sh⟩
def kc(F:St→Option St)(fr:Fr)(d:Option Nat)(r:Option (T×St)):Option St:=r.bind fun r=>F ⟨pf fr d r.1,r.2.lh,r.2.sh⟩
section
variable{F:St→Option St}{fr:Fr}{lh:aQ aB}{sh:List aB}{d:Nat}{v:T}
theorem Nf:kv F fr lh sh d (some v)=F ⟨dp fr d v,lh,sh⟩:=rfl
theorem Ng:kv F fr lh sh d none=none:=rfl
theorem Tn{c:Prop}[Decidable c]{x y:Option T}:kv F fr lh sh d (if c then x else y)=if c then kv F fr lh sh d x else kv F fr lh sh d y:=by split <;> rfl
theorem Nh{st:St}:kn F st (some v)=F st:=rfl
theorem Ni{st:St}:kn F st none=none:=rfl
theorem Nj{r:aQ aB×List aB}:ks F fr (some r)=F ⟨fr,r.1,r.2⟩:=rfl
theorem Nk:ks F fr none=none:=rfl
theorem To{c:Prop}[Decidable c]{x y:Option (aQ aB×List aB)}:ks F fr (if c then x else y)=if c then ks F fr x else ks F fr y:=by split <;> rfl
theorem Nl{q:T×aQ aB}:ka F fr sh d (some q)=F ⟨dp fr d q.1,q.2,sh⟩:=rfl
theorem Nm:ka F fr sh d none=none:=rfl
theorem Nn{dd:Option Nat}{r:T×St}:kc F fr dd (some r)=F ⟨pf fr dd r.1,r.2.lh,r.2.sh⟩:=rfl
theorem No{dd:Option Nat}:kc F fr dd none=none:=rfl
end
def ZW:T→Bool
 | .b _=>true
 |_=>false
def isT:T→Bool
 | .b x=>x
 |_=>false
theorem XR{x:Bool}:ZW (.b x)=true:=nr rfl
theorem XS{x:Bool}:isT (.b x)=x:=nr rfl
theorem Np{t:T}(h:ZW t=true):t= .b (isT t):=by cases t <;> first|rfl|(simp[ZW]at h)
section
variable{E:Env}{call:lj}{n:Nat}{fr:Fr}{lh:aQ aB}{sh:List aB}{os:List aT}{d:Nat}
theorem Tp{c a b:bq}(hd:d<n):au E call n (⟨some d,.pick c a b,none⟩::os) ⟨fr,lh,sh⟩=kv (au E call n os) fr lh sh d (Ey (rd fr c) (rd fr a) (rd fr b)):=Tf hd
theorem XT{op:BinOp}{x y:bq}(hd:d<n):au E call n (⟨some d,.bin op x y,none⟩::os) ⟨fr,lh,sh⟩=kv (au E call n os) fr lh sh d (Ev.bin op (rd fr x) (rd fr y)):=XA hd
theorem acX{neg:Bool}{k:EK}{x y:bq}(hd:d<n):au E call n (⟨some d,.eq neg k x y,none⟩::os) ⟨fr,lh,sh⟩=kv (au E call n os) fr lh sh d ((mN k (rd fr x) (rd fr y)).map fun r=>T.b (r != neg)):=acK hd
theorem acY{op:UnOp}{x:bq}(hd:d<n):au E call n (⟨some d,.un op x,none⟩::os) ⟨fr,lh,sh⟩=kv (au E call n os) fr lh sh d (Ev.un op (rd fr x)):=acL hd
theorem XU{k:IntKind}{x:bq}(hd:d<n):au E call n (⟨some d,.cvi k x,none⟩::os) ⟨fr,lh,sh⟩=kv (au E call n os) fr lh sh d (MQ k (rd fr x)):=XB hd
theorem Nq{z:List T}{ps:List (Nat×Nat×bq)}(hd:d<n):au E call n (⟨some d,.build z ps,none⟩::os) ⟨fr,lh,sh⟩=kv (au E call n os) fr lh sh d (aF fr z ps):=MR hd
theorem XV{x:bq}{l h:Option bq}(hd:d<n):au E call n (⟨some d,.slS x l h,none⟩::os) ⟨fr,lh,sh⟩=kv (au E call n os) fr lh sh d (mZ fr (rd fr x) l h):=XC hd
theorem acZ{x:bq}{off:Nat}(hd:d<n):au E call n (⟨some d,.fa x off,none⟩::os) ⟨fr,lh,sh⟩=kv (au E call n os) fr lh sh d (XD (rd fr x) off):=acM hd
theorem ac0{x ix:bq}{sz:Nat}(hd:d<n):au E call n (⟨some d,.ia x ix sz,none⟩::os) ⟨fr,lh,sh⟩=kv (au E call n os) fr lh sh d (uW (rd fr x) (rd fr ix) sz):=acO hd
theorem XW{x ix:bq}(hd:d<n):au E call n (⟨some d,.ixS x ix,none⟩::os) ⟨fr,lh,sh⟩=kv (au E call n os) fr lh sh d (CQ (rd fr x) (rd fr ix)):=XE hd
theorem XX{x:bq}{j:Nat}(hd:d<n):au E call n (⟨some d,.ext x j,none⟩::os) ⟨fr,lh,sh⟩=kv (au E call n os) fr lh sh d (MS (rd fr x) j):=XF hd
theorem Tq{x:bq}(hd:d<n):au E call n (⟨some d,.lenS x,none⟩::os) ⟨fr,lh,sh⟩=kv (au E call n os) fr lh sh d (Ez (rd fr x)):=Th hd
def lenI(x:T):Option T:=match nD x with|some m=>some (.i .i64 ((m:Nat):Int))|none=>none
theorem Nr{x:T}{m:Nat}(h:nD x=some m):lenI x=some (.i .i64 (m:Int)):=by unfold lenI;rw[h]
theorem Ts{x:bq}(hd:d<n):au E call n (⟨some d,.lenV x,none⟩::os) ⟨fr,lh,sh⟩=kv (au E call n os) fr lh sh d (lenI (rd fr x)):=by
 rw[Ti hd]
 unfold kv lenI
 cases nD (rd fr x) <;> rfl
theorem ac1{isMax:Bool}{args:List bq}(hd:d<n):au E call n (⟨some d,.mm isMax args,none⟩::os) ⟨fr,lh,sh⟩=kv (au E call n os) fr lh sh d (pL isMax (args.map (rd fr))):=acP hd
theorem XY{x:bq}(hd:d<n):au E call n (⟨some d,.nck x,none⟩::os) ⟨fr,lh,sh⟩=kv (au E call n os) fr lh sh d (CR (rd fr x)):=XG hd
theorem ac2{x:bq}{m:Nat}{ag:Bool}(hd:d<n):au E call n (⟨some d,.ld x m ag,none⟩::os) ⟨fr,lh,sh⟩=kv (au E call n os) fr lh sh d (LW lh sh (rd fr x) m ag):=acQ hd
theorem XZ{sz:Nat}{x:bq}{l h:Option bq}(hd:d<n):au E call n (⟨some d,.slV sz x l h none,none⟩::os) ⟨fr,lh,sh⟩=kv (au E call n os) fr lh sh d (wv fr sz (rd fr x) l h):=XM hd
theorem ac3{ek:EK}{m k:bq}{z:T}{ok:Bool}(hd:d<n):au E call n (⟨some d,.lk ek m k z ok,none⟩::os) ⟨fr,lh,sh⟩=kv (au E call n os) fr lh sh d (pX lh sh ek (rd fr m) (rd fr k) z ok):=acT hd
def u6(lh:aQ aB)(d:Nat)(z:List T)(x:T)(bytes:Nat):Option (T×aQ aB):=
 (yA x bytes).map fun m=>(.isl .L d ((aq lh d).g+1) 0 m z.length,cM lh d ⟨(aq lh d).g+1,.cells (repl z m) 0 false⟩)
theorem Tt{z:List T}{bytes:Nat}{x:bq}(hd:d<n):au E call n (⟨some d,.mksl z bytes x false,none⟩::os) ⟨fr,lh,sh⟩=ka (au E call n os) fr sh d (u6 lh d z (rd fr x) bytes):=by
 rw[Tk hd];unfold u6 ka;cases yA (rd fr x) bytes <;> rfl
theorem ac4{x v:bq}{m:Nat}:au E call n (⟨none,.st x v m,none⟩::os) ⟨fr,lh,sh⟩=ks (au E call n os) fr (CT lh sh (rd fr x) (rd fr v) m):=acR
def appW(lh:aQ aB)(sh:List aB)(d sz bytes:Nat)(s x:T):Option (T×aQ aB):=(slC lh sh sz x).bind (uY lh d sz bytes s)
def notS:T→Bool
 | .isl .S .. =>false
 | .mp .S .. =>false
 |_=>true
theorem X0{sz bytes:Nat}{s x:bq}(hd:d<n)(hs:notS (rd fr s)=true):au E call n (⟨some d,.app sz bytes s x false false,none⟩::os) ⟨fr,lh,sh⟩=ka (au E call n os) fr sh d (appW lh sh d sz bytes (rd fr s) (rd fr x)):=by
 rw[XL hd (fun k g off len sz he=>by rw[he]at hs;simp[notS]at hs)]
 unfold appW ka
 cases slC lh sh sz (rd fr x) <;> rfl
def ahB(lh:aQ aB)(sh:List aB)(d sz bytes:Nat)(x:T):Option (T×aQ aB):=
 (slC lh sh sz x).bind fun p=>if p.1=0 then some (.nilsl,lh)else if p.1*bytes≤roomy then some (.isl .L d ((aq lh d).g+1) 0 p.1 sz,cM lh d ⟨(aq lh d).g+1,.cells p.2 0 true⟩)else none
theorem ac5{ek:EK}{m k v:bq}(hm:notS (rd fr m)=true)(hf:froz (rd fr v)=true):au E call n (⟨none,.mu ek m k v,none⟩::os) ⟨fr,lh,sh⟩=ks (au E call n os) fr ((M8 lh ek (rd fr m) (rd fr k) (rd fr v)).map fun bp=>(bp,sh)):=by
 rw[acU (fun kk g he=>by rw[he]at hm;simp[notS]at hm) hf]
 unfold ks
 cases M8 lh ek (rd fr m) (rd fr k) (rd fr v) <;> rfl
def dw(lh:aQ aB)(sh:List aB)(z:List T)(len:Nat)(is:List Nat)(vs:List T):Option (T×St):=
 (rG lh sh false vs).bind fun q=>(dq z len is q.1).map fun v=>(v,(St.mk .nil lh sh).ups q.2)
theorem X1{z:List T}{len:Nat}{ps:List (Nat×bq)}(hd:d<n):au E call n (⟨some d,.bsl z len ps,none⟩::os) ⟨fr,lh,sh⟩=kc (au E call n os) fr (some d) (dw lh sh z len (ps.map (·.1)) (ps.map fun p=>rd fr p.2)):=by
 rw[XP hd]
 unfold kc dw
 cases rG lh sh false (ps.map fun p=>rd fr p.2)with
 |none=>rfl
 |some q=>
  simp only[Option.bind_some]
  cases dq z len (ps.map (·.1)) q.1 with
  |none=>rfl
  |some v=>simp only[Option.bind_some,Option.map_some,pf];rw[kb q.2 lh sh]
theorem Tu{f:Nat}{as:List bq}(hd:d<n):au E call n (⟨some d,.callf f as,none⟩::os) ⟨fr,lh,sh⟩=kc (au E call n os) fr (some d) (ar E call d ⟨fr,lh,sh⟩ f (as.map (rd fr))):=Tl hd
theorem Ns{f:bq}{as:List bq}(hd:d<n):au E call n (⟨some d,.callv f as,none⟩::os) ⟨fr,lh,sh⟩=kc (au E call n os) fr (some d) (iq E call d ⟨fr,lh,sh⟩ (rd fr f) (as.map (rd fr))):=M9 hd
theorem Nt{dd:Option Nat}{op:nu}{j:Nat}(h:ak fr j= .b true):au E call n (⟨dd,op,some (j,true)⟩::os) ⟨fr,lh,sh⟩=au E call n (⟨dd,op,none⟩::os) ⟨fr,lh,sh⟩:=Jz h
theorem Nu{dd:Option Nat}{op:nu}{j:Nat}(h:ak fr j= .b false):au E call n (⟨dd,op,some (j,false)⟩::os) ⟨fr,lh,sh⟩=au E call n (⟨dd,op,none⟩::os) ⟨fr,lh,sh⟩:=Jz h
theorem Nv{op:nu}{j:Nat}(hd:d<n)(h:ak fr j= .b false):au E call n (⟨some d,op,some (j,true)⟩::os) ⟨fr,lh,sh⟩=au E call n os ⟨dp fr d bA,lh,sh⟩:=CV (d:=some d) hd h
theorem Nw{op:nu}{j:Nat}(hd:d<n)(h:ak fr j= .b true):au E call n (⟨some d,op,some (j,false)⟩::os) ⟨fr,lh,sh⟩=au E call n os ⟨dp fr d bA,lh,sh⟩:=CV (d:=some d) hd h
theorem JD{op:nu}{j:Nat}{w:Bool}(hd:d<n)(h:ak fr j=bA):au E call n (⟨some d,op,some (j,w)⟩::os) ⟨fr,lh,sh⟩=au E call n os ⟨dp fr d bA,lh,sh⟩:=EC (d:=some d) hd h
end
section
variable{E:Env}{n:Nat}{fr:Fr}{lh:aQ aB}{sh:List aB}
theorem Tv{c:bq}{a b:aN}(h:ZW (rd fr c)=true):DC E n (.cond c a b) ⟨fr,lh,sh⟩=if isT (rd fr c)=true then DC E n a ⟨fr,lh,sh⟩else DC E n b ⟨fr,lh,sh⟩:=by
 rw[JB,Np h];rfl
def rR(res:List ur)(eff:Bool)(x:Option (Out×St)):Option (T×List aB):=
 match x with
 |some (.ext _,_)=>none
 |some (_,st)=>(fx st res).bind fun vs=>answer eff vs st
 |none=>none
theorem aG{f:Nat}{af:aE}{args:List T}{sh:List aB}(hf:E.fn f=some af)(hn:(af.n<args.length)=False)(hw:af.own=none:=by rfl):
  ai E f args sh=rR af.res af.eff (DC E af.n af.code {fr:=iO args,lh:= .nil,sh}):=by
 rw[AP hf (Nat.le_of_not_lt (of_eq_false hn))]
 generalize DC E af.n af.code {fr:=iO args,lh:= .nil,sh}=x
 unfold Jq rR
 rw[hw]
 cases x with
 |none=>rfl
 |some p=>
  obtain⟨o,st⟩:=p
  cases o with
  |ext id=>rfl
  |nrm=>simp only[];cases fx st af.res <;> rfl
  |ret=>simp only[];cases fx st af.res <;> rfl
def Nx(res:List ur)(j:Nat)(x:Option (Out×St)):Option (T×List aB):=
 match x with
 |some (.ext _,_)=>none
 |some (_,st)=>(fx st res).bind fun vs=>ll j vs st
 |none=>none
theorem Tw{f:Nat}{af:aE}{args:List T}{sh:List aB}{j:Nat}(hf:E.fn f=some af)(hn:(af.n<args.length)=False)(hw:af.own=some j:=by rfl)(he:af.eff=false:=by rfl):
  ai E f args sh=Nx af.res j (DC E af.n af.code {fr:=iO args,lh:= .nil,sh}):=by
 rw[AP hf (Nat.le_of_not_lt (of_eq_false hn))]
 generalize DC E af.n af.code {fr:=iO args,lh:= .nil,sh}=x
 unfold Jq Nx
 rw[hw,he]
 cases x with
 |none=>rfl
 |some p=>
  obtain⟨o,st⟩:=p
  cases o with
  |ext id=>rfl
  |nrm=>simp only[ln,Bool.false_eq_true,if_false];cases fx st af.res <;> rfl
  |ret=>simp only[ln,Bool.false_eq_true,if_false];cases fx st af.res <;> rfl
def CX(lh:aQ aB)(sh:List aB)(j:Nat)(vs:List T):Option (T×List aB):=ll j vs ⟨.nil,lh,sh⟩
theorem CY{j:Nat}{vs:List T}:ll j vs ⟨fr,lh,sh⟩=CX lh sh j vs:=by
 unfold CX ll
 simp only[xg,lS]
 split
 ·rfl
 ·split
  ·rename_i p _
   rw[kb p.2 lh sh]
   rfl
  ·rfl
 ·rfl
theorem JE{res:List ur}{j:Nat}:Nx res j (some (.ret,⟨fr,lh,sh⟩))=(tr fr lh sh res).bind (CX lh sh j):=by
 unfold Nx
 simp only[oL]
 congr 1
 funext vs
 exact CY
theorem X2:CX lh sh 0 [.nilsl]=some (.nilsl,sh):=rfl
theorem U8{k:IntKind}{e:Int}:CX lh sh 0 [.nilsl,.i k e]=some (.tup [.nilsl,.i k e],sh):=rfl
theorem JF{k g len sz wm:Nat}{cs:List T}(h:aq lh k=⟨g,.cells cs wm false⟩)(hl:cs.length=len*sz)(h0:len≠0):CX lh sh 0 [.isl .L k g 0 len sz]=some (.sl cs len false,sh):=by
 have h':(St.mk .nil lh sh).get .L k=⟨g,.cells cs wm false⟩:=h
 simp only[CX,ll,fw,bw,aU,fz,Q.run,St.ups]
 rw[h']
 simp only
 rw[if_pos ⟨trivial,hl,h0,.inr rfl⟩]
theorem CZ{d:Nat}{us:List Up}:jO d 0 .nilsl ⟨fr,lh,sh⟩ us=some (.nilsl,⟨fr,lh,sh⟩):=rfl
theorem Rn{d:Nat}{us:List Up}{kk:IntKind}{e:Int}:jO d 0 (.tup [.nilsl,.i kk e]) ⟨fr,lh,sh⟩ us=some (.tup [.nilsl,.i kk e],⟨fr,lh,sh⟩):=rfl
theorem Gj{d len:Nat}{us:List Up}{cs:List T}{ex:Bool}(h1:cs.all uu=true)(h2:cs.length/len*len=cs.length):jO d 0 (.sl cs len ex) ⟨fr,lh,sh⟩ us=
  some (.isl .L d ((aq lh d).g+1) 0 len (cs.length/len),⟨fr,cM lh d ⟨(aq lh d).g+1,.cells cs 0 false⟩,sh⟩):=by
 simp only[jO,fw]
 rw[if_pos ⟨h1,h2⟩]
 rfl
theorem JG{res:List ur}{eff:Bool}:rR res eff (some (.ret,⟨fr,lh,sh⟩))=(tr fr lh sh res).bind (JC lh sh eff):=by
 unfold rR
 simp only[oL]
 congr 1
 funext vs
 exact xg
theorem JH{c:Prop}[Decidable c]{res:List ur}{eff:Bool}{x y:Option (Out×St)}:rR res eff (if c then x else y)=if c then rR res eff x else rR res eff y:=by split <;> rfl
end
section
variable{k:IntKind}{a b:Int}{x y:Bool}{s t:List Nat}
theorem Ny:Ev.bin .add (.i k a) (.i k b)=some (.i k (wr k (a+b))):=by simp[Ev.bin,mM]
theorem Nz:Ev.bin .sub (.i k a) (.i k b)=some (.i k (wr k (a-b))):=by simp[Ev.bin,mM]
theorem NA:Ev.bin .mul (.i k a) (.i k b)=some (.i k (wr k (a*b))):=by simp[Ev.bin,mM]
theorem NB:Ev.bin .eql (.i k a) (.i k b)=some (.b (decide (a=b))):=by simp[Ev.bin,mM];exact Bool.beq_eq_decide_eq a b
theorem NC:Ev.bin .neq (.i k a) (.i k b)=some (.b (!decide (a=b))):=by simp[Ev.bin,mM];rw[bne,Bool.beq_eq_decide_eq]
theorem ND:Ev.bin .lss (.i k a) (.i k b)=some (.b (decide (a<b))):=by simp[Ev.bin,mM]
theorem NF:Ev.bin .leq (.i k a) (.i k b)=some (.b (decide (a≤b))):=by simp[Ev.bin,mM]
theorem NG:Ev.bin .gtr (.i k a) (.i k b)=some (.b (decide (b<a))):=by simp[Ev.bin,mM]
theorem NH:Ev.bin .geq (.i k a) (.i k b)=some (.b (decide (b≤a))):=by simp[Ev.bin,mM]
theorem JI:Ev.bin .eql (.s s) (.s t)=some (.b (decide (s=t))):=by simp[Ev.bin,IU];exact Bool.beq_eq_decide_eq s t
theorem JJ:Ev.bin .neq (.s s) (.s t)=some (.b (!decide (s=t))):=by simp[Ev.bin,IU];rw[bne,Bool.beq_eq_decide_eq]
theorem Tx:Ev.un .not (.b x)=some (.b (!x)):=rfl
theorem Ty:Ev.un .neg (.i k a)=some (.i k (wr k (0-a))):=rfl
theorem Tz{cs:List T}{off m:Nat}:Ev.part cs off m false=cs[off]? :=rfl
theorem TA{cs:List T}{off m:Nat}:Ev.part cs off m true=if off+m≤cs.length then some (.agg ((cs.drop off).take m))else none:=rfl
theorem nX{n:Int}(h: -9223372036854775808≤n∧n≤9223372036854775807):wr .i64 n=n:=by unfold wr lo hi;exact if_pos h
theorem bW{cs:List T}{len sz:Nat}{ex:Bool}{kk:IntKind}{j:Int}:uW (.sl cs len ex) (.i kk j) sz=if 0≤j∧j.toNat<len∧(j.toNat+1)*sz≤cs.length then some (.vp (cs.drop (j.toNat*sz)))else none:=by
 unfold uW asNat
 by_cases h:0≤j
 ·simp only[h,if_true,true_and]
 ·simp only[h,if_false,false_and]
theorem NI{sp:Sp}{i g off len sz mb:Nat}{kk:IntKind}{j:Int}:uW (.isl sp i g off len mb) (.i kk j) sz=if 0≤j∧j.toNat<len∧mb=sz then some (.ptr sp i g (off+j.toNat*sz))else none:=by
 unfold uW asNat
 by_cases h:0≤j
 ·simp only[h,if_true,true_and]
 ·simp only[h,if_false,false_and]
theorem C0{bs:List Nat}{kk:IntKind}{j:Int}:CQ (.s bs) (.i kk j)=if 0≤j then bs[j.toNat]?.map fun c=>T.i .u8 c else none:=by
 unfold CQ asNat
 by_cases h:0≤j
 ·simp only[h,if_true]
 ·simp only[h,if_false]
theorem yE{kk:IntKind}{j:Int}:asNat (.i kk j)=if 0≤j then some j.toNat else none:=rfl
end
end Go.Ev
