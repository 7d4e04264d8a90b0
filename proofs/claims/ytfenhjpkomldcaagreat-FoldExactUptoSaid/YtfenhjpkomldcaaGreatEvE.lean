/- A tree evaluator over the model, proved against it (part E): where it answers, the call returns that answer. Conditions: none beyond its theorems' own. -/
import Derived.Test.YtfenhjpkomldcaaGreatEvD
set_option linter.unusedSimpArgs false
set_option linter.unusedVariables false
namespace Go.Ev
open Go
section
variable{E:Env}{call:jk}{fl n:Nat}
theorem Rf{st:St}:aq E call n [] st=some st:=rfl
end
end Go.Ev
namespace Go.Ev
open Go
def nS(c c':jk):Prop:= ∀f a sh r,c f a sh=some r→c' f a sh=some r
section
variable{E:Env}
theorem pW{c c':jk}(h:nS c c'){dd:Nat}{st:St}{f:Nat}{args:List T}{r:T×St}(hr:ar E c dd st f args=some r):ar E c' dd st f args=some r:=by
 unfold ar at hr ⊢
 cases hf:E.fn f with
 |none=>cases hx:E.ext f <;> simp only[hf,hx]at hr ⊢ <;> exact hr
 |some af=>
  simp only[hf]at hr ⊢
  cases hq:(bl (fz af.eff aM) args).run st.get st.sh.length with
  |none=>simp only[hq]at hr;cases hr
  |some q=>
   simp only[hq]at hr ⊢
   cases he:af.eff with
   |true=>
    simp only[he,if_true,Option.map_eq_some_iff]at hr ⊢
    obtain⟨a,h1,h2⟩:=hr
    exact⟨a,h _ _ _ _ h1,h2⟩
   |false=>
    simp only[he]at hr ⊢
    cases hc:c f q.1 []with
    |none=>simp only[hc]at hr;simp at hr
    |some a=>
     simp only[hc]at hr
     simp only[h _ _ _ _ hc]
     exact hr
theorem jz{c c':jk}(h:nS c c'){n:Nat}{o:aJ}{st bn:St}(hr:bg E c n o st=some bn):bg E c' n o st=some bn:=by
 unfold bg at hr ⊢
 have key: ∀bn,(match bq st.rho o.op with
  |some (some cc)=>match ar E c (o.d.getD 0) st cc.1 cc.2 with
   |some r=>(eX st.fr n o.d r.1).map fun fr=>{r.2 with fr}
   |none=>none
  |some none=>none
  |none=>match(bC (o.d.getD 0) st.rho o.op).run st.get st.sh.length with
   |some (.val v ups)=>(eX st.fr n o.d v).map fun fr=>{st.ups ups with fr}
   |none=>none)=some bn→(match bq st.rho o.op with
  |some (some cc)=>match ar E c' (o.d.getD 0) st cc.1 cc.2 with
   |some r=>(eX st.fr n o.d r.1).map fun fr=>{r.2 with fr}
   |none=>none
  |some none=>none
  |none=>match(bC (o.d.getD 0) st.rho o.op).run st.get st.sh.length with
   |some (.val v ups)=>(eX st.fr n o.d v).map fun fr=>{st.ups ups with fr}
   |none=>none)=some bn:=by
  intro bn hs
  cases hc:bq st.rho o.op with
  |none=>simp only[hc]at hs ⊢; exact hs
  |some x=>
   cases x with
   |none=>simp only[hc]at hs;cases hs
   |some cc=>
    simp only[hc]at hs ⊢
    cases hd:ar E c (o.d.getD 0) st cc.1 cc.2 with
    |none=>simp only[hd]at hs;cases hs
    |some r=>
     simp only[hd]at hs
     simp only[pW h hd]
     exact hs
 cases hg:o.gd with
 |none=>simp only[hg]at hr ⊢; exact key _ hr
 |some p=>
  obtain⟨j,want⟩:=p
  simp only[hg]at hr ⊢
  split at hr
  ·rename_i x hx
   by_cases hw:x=want
   ·rw[if_pos hw]at hr ⊢; exact key _ hr
   ·rw[if_neg hw]at hr ⊢; exact hr
  ·exact hr
theorem kB{c c':jk}(h:nS c c'){n:Nat}: ∀(os:List aJ) {st bn:St},aq E c n os st=some bn→aq E c' n os st=some bn
 | [],st,bn,hr=>hr
 |o::os,st,bn,hr=>by
  simp only[aq]at hr ⊢
  cases ho:bg E c n o st with
  |none=>simp only[ho]at hr;cases hr
  |some s=>
   simp only[ho]at hr
   simp only[jz h ho]
   exact kB h os hr
theorem pX{c c':jk}(h:nS c c'){dd:Nat}{st:St}{f:Nat}{args:List T}{r:FP}(hr:dy E c dd st f args=some r):dy E c' dd st f args=some r:=by
 unfold dy at hr ⊢
 cases hf:E.fn f with
 |none=>cases hx:E.ext f <;> simp only[hf,hx]at hr ⊢ <;> exact hr
 |some af=>
  simp only[hf]at hr ⊢
  cases hq:(bl (fz af.eff aM) args).run st.get st.sh.length with
  |none=>simp only[hq]at hr;cases hr
  |some q=>
   simp only[hq]at hr ⊢
   by_cases hi:(!lV st q.2)=true
   ·rw[if_pos hi]at hr;cases hr
   ·rw[if_neg hi]at hr ⊢
    cases he:af.eff with
    |true=>simp only[he]at hr ⊢; exact hr
    |false=>
     simp only[he]at hr ⊢
     cases hc:c f q.1 []with
     |none=>simp[hc]at hr
     |some a=>
      simp only[hc]at hr
      simp only[h _ _ _ _ hc]
      exact hr
theorem pY{c c':jk}(h:nS c c'){o:aJ}{st:St}{r:FP}(hr:bD E c o st=some r):bD E c' o st=some r:=by
 unfold bD at hr ⊢
 have key: ∀r,(match bq st.rho o.op with
  |some (some cc)=>dy E c (o.d.getD 0) st cc.1 cc.2
  |some none=>none
  |none=>
   let q:=bC (o.d.getD 0) st.rho o.op
   match q.run st.get st.sh.length with
   |some (.val _ ups)=>if q.asks st.get st.sh.length||lV st ups then some ⟨q.asks st.get st.sh.length,q.log st.get st.sh.length,cH ups⟩else none
   |none=>none)=some r→(match bq st.rho o.op with
  |some (some cc)=>dy E c' (o.d.getD 0) st cc.1 cc.2
  |some none=>none
  |none=>
   let q:=bC (o.d.getD 0) st.rho o.op
   match q.run st.get st.sh.length with
   |some (.val _ ups)=>if q.asks st.get st.sh.length||lV st ups then some ⟨q.asks st.get st.sh.length,q.log st.get st.sh.length,cH ups⟩else none
   |none=>none)=some r:=by
  intro r hs
  cases hc:bq st.rho o.op with
  |none=>simp only[hc]at hs ⊢; exact hs
  |some x=>
   cases x with
   |none=>simp only[hc]at hs;cases hs
   |some cc=>simp only[hc]at hs ⊢; exact pX h hs
 cases hg:o.gd with
 |none=>simp only[hg]at hr ⊢; exact key _ hr
 |some p=>
  obtain⟨j,want⟩:=p
  simp only[hg]at hr ⊢
  split at hr
  ·rename_i x hx
   by_cases hw:x=want
   ·rw[if_pos hw]at hr ⊢; exact key _ hr
   ·rw[if_neg hw]at hr ⊢; exact hr
  ·exact hr
theorem jA{c c':jk}(h:nS c c'){n:Nat}: ∀(os:List (List Nat×aJ)) {bo:List FP} {st bn:St},aH E c n os bo st=some bn→aH E c' n os bo st=some bn
 | [],bo,st,bn,hr=>hr
 |(u,o)::os,bo,st,bn,hr=>by
  simp only[aH]at hr ⊢
  cases hp:bD E c o st with
  |none=>simp only[hp]at hr;cases hr
  |some fp=>
   simp only[hp]at hr
   simp only[pY h hp]
   split at hr
   ·rename_i ha
    rw[if_pos ha]
    cases ho:bg E c n o st with
    |none=>simp only[ho]at hr;cases hr
    |some s=>
     simp only[ho]at hr
     simp only[jz h ho]
     exact jA h os hr
   ·cases hr
theorem l6{f g:St→Option (Out×St)}(h: ∀st r,f st=some r→g st=some r): ∀{k k':Nat},k≤k'→ ∀{st:St} {r:Out×St},iter f k st=some r→iter g k' st=some r
 |0,_,_,st,r,hr=>by simp[iter]at hr
 |k+1,0,hk,_,_,_=>by omega
 |k+1,k'+1,hk,st,r,hr=>by
  simp only[iter]at hr ⊢
  cases hf:f st with
  |none=>rw[hf]at hr;cases hr
  |some p=>
   rw[h _ _ hf]
   rw[hf]at hr
   obtain⟨o,s⟩:=p
   cases o with
   |nrm=>exact l6 h (by omega) hr
   |ext id=>exact hr
   |ret=>exact hr
theorem dv{c c':jk}(h:nS c c'){n:Nat}{fl fl':Nat}(zG:fl≤fl'): ∀(code:ba) {st:St} {r:Out×St},eZ E c fl n code st=some r→eZ E c' fl' n code st=some r
 | .skip,st,r,hr=>hr
 | .region ops,st,r,hr=>by
   simp only[eZ,Option.map_eq_some_iff]at hr ⊢
   obtain⟨a,h1,h2⟩:=hr
   exact⟨a,kB h ops h1,h2⟩
 | .draws ops,st,r,hr=>by
   simp only[eZ,Option.map_eq_some_iff]at hr ⊢
   obtain⟨a,h1,h2⟩:=hr
   exact⟨a,jA h ops h1,h2⟩
 | .seq a b,st,r,hr=>by
   simp only[eZ]at hr ⊢
   cases ha:eZ E c fl n a st with
   |none=>rw[ha]at hr;cases hr
   |some p=>
    rw[dv h zG a ha]
    rw[ha]at hr
    obtain⟨o,s⟩:=p
    cases o with
    |nrm=>exact dv h zG b hr
    |ext id=>exact hr
    |ret=>exact hr
 | .cond x a b,st,r,hr=>by
   simp only[eZ]at hr ⊢
   split at hr
   ·exact dv h zG a hr
   ·exact dv h zG b hr
   ·cases hr
 | .block id a,st,r,hr=>by
   simp only[eZ]at hr ⊢
   cases ha:eZ E c fl n a st with
   |none=>rw[ha]at hr;cases hr
   |some p=>
    rw[dv h zG a ha]
    rw[ha]at hr
    exact hr
 | .loop a,st,r,hr=>by
   simp only[eZ]at hr ⊢
   exact l6 (fun st r hh=>dv h zG a hh) zG hr
 | .exit id,st,r,hr=>hr
 | .ret,st,r,hr=>hr
theorem cA: ∀{m m':Nat},m≤m'→nS (cm E m) (cm E m')
 |0,m',_=>fun f a sh r h=>by simp[cm]at h
 |m+1,0,h=>by omega
 |m+1,m'+1,h=>fun f a sh r hr=>by
  simp only[cm]at hr ⊢
  cases hf:E.fn f with
  |none=>rw[hf]at hr;cases hr
  |some af=>
   simp only[hf]at hr ⊢
   split at hr
   ·cases hr
   ·rename_i hn
    rw[if_neg hn]
    cases hc:eZ E (cm E m) m af.n af.code {fr:=gn a,lh:= .nil,sh}with
    |none=>rw[hc]at hr;cases hr
    |some p=>
     rw[dv (cA (Nat.le_of_succ_le_succ h)) (Nat.le_of_succ_le_succ h) af.code hc]
     rw[hc]at hr
     exact hr
end
noncomputable def lim{α:Type}(F:Nat→Option α):Option α:=
 open Classical in if h: ∃m,(F m).isSome=true then F (Classical.choose h)else none
def TM{α:Type}(F:Nat→Option α):Prop:= ∀m m' r,m≤m'→F m=some r→F m'=some r
theorem Bt{α:Type}{F:Nat→Option α}(hF:TM F)(r:α):lim F=some r↔ ∃m,F m=some r:=by
 unfold lim
 constructor
 ·intro h
  split at h
  ·exact⟨_,h⟩
  ·cases h
 ·rintro⟨m,hm⟩
  have he: ∃m,(F m).isSome=true:=⟨m,by rw[hm];rfl⟩
  rw[dif_pos he]
  have hs:=Classical.choose_spec he
  generalize Classical.choose he=k at hs
  cases hk:F k with
  |none=>rw[hk]at hs;cases hs
  |some a=>
   have h1:=hF k (max k m) a (Nat.le_max_left _ _) hk
   have h2:=hF m (max k m) r (Nat.le_max_right _ _) hm
   rw[h1]at h2
   exact h2
section
variable(E:Env)
noncomputable def aa:jk:=fun f a sh=>lim fun m=>cm E m f a sh
noncomputable def DC(n:Nat)(code:ba)(st:St):Option (Out×St):=lim fun m=>eZ E (cm E m) m n code st
end
section
variable{E:Env}
theorem DCall_iff{f:Nat}{a:List T}{sh:List aA}{r:T×List aA}:aa E f a sh=some r↔ ∃m,cm E m f a sh=some r:=
 Bt (fun m m' r h hr=>cA h _ _ _ _ hr) r
theorem cR{n:Nat}{code:ba}{st:St}{r:Out×St}:DC E n code st=some r↔ ∃m,eZ E (cm E m) m n code st=some r:=
 Bt (fun m m' r h hr=>dv (cA h) h code hr) r
theorem kC(m:Nat):nS (cm E m) (aa E):=fun f a sh r h=>DCall_iff.2 ⟨m,h⟩
theorem zH{dd:Nat}{st:St}{f:Nat}{args:List T}{r:T×St}(hr:ar E (aa E) dd st f args=some r): ∃m,ar E (cm E m) dd st f args=some r:=by
 unfold ar at hr
 cases hf:E.fn f with
 |none=>refine⟨0, ?_⟩;unfold ar;cases hx:E.ext f <;> simp only[hf,hx]at hr ⊢ <;> exact hr
 |some af=>
  simp only[hf]at hr
  cases hq:(bl (fz af.eff aM) args).run st.get st.sh.length with
  |none=>simp only[hq]at hr;cases hr
  |some q=>
   simp only[hq]at hr
   cases he:af.eff with
   |true=>
    rw[he]at hq
    simp only[he,if_true,Option.map_eq_some_iff]at hr
    obtain⟨a,h1,h2⟩:=hr
    obtain⟨m,hm⟩:=DCall_iff.1 h1
    refine⟨m, ?_⟩
    unfold ar
    simp only[hf,hq,he,if_true,Option.map_eq_some_iff]
    exact⟨a,hm,h2⟩
   |false=>
    rw[he]at hq
    simp only[he]at hr
    cases hc:aa E f q.1 []with
    |none=>simp[hc]at hr
    |some a=>
     simp only[hc]at hr
     obtain⟨m,hm⟩:=DCall_iff.1 hc
     refine⟨m, ?_⟩
     unfold ar
     simp only[hf,hq,he,hm]
     exact hr
theorem zI{dd:Nat}{st:St}{f:Nat}{args:List T}{r:FP}(hr:dy E (aa E) dd st f args=some r): ∃m,dy E (cm E m) dd st f args=some r:=by
 unfold dy at hr
 cases hf:E.fn f with
 |none=>refine⟨0, ?_⟩;unfold dy;cases hx:E.ext f <;> simp only[hf,hx]at hr ⊢ <;> exact hr
 |some af=>
  simp only[hf]at hr
  cases hq:(bl (fz af.eff aM) args).run st.get st.sh.length with
  |none=>simp only[hq]at hr;cases hr
  |some q=>
   simp only[hq]at hr
   by_cases hi:(!lV st q.2)=true
   ·rw[if_pos hi]at hr;cases hr
   ·rw[if_neg hi]at hr
    cases he:af.eff with
    |true=>
     rw[he]at hq
     simp only[he]at hr
     refine⟨0, ?_⟩
     unfold dy
     simp only[hf,hq,he]
     rw[if_neg hi]
     exact hr
    |false=>
     rw[he]at hq
     simp only[he]at hr
     cases hc:aa E f q.1 []with
     |none=>simp[hc]at hr
     |some a=>
      simp only[hc]at hr
      obtain⟨m,hm⟩:=DCall_iff.1 hc
      refine⟨m, ?_⟩
      unfold dy
      simp only[hf,hq,he,hm]
      rw[if_neg hi]
      exact hr
theorem rL{n:Nat}{o:aJ}{st bn:St}(hr:bg E (aa E) n o st=some bn): ∃m,bg E (cm E m) n o st=some bn:=by
 cases hc:bq st.rho o.op with
 |none=>
  refine⟨0, ?_⟩
  unfold bg at hr ⊢
  simp only[hc]at hr ⊢
  exact hr
 |some x=>
  cases x with
  |none=>
   refine⟨0, ?_⟩
   unfold bg at hr ⊢
   simp only[hc]at hr ⊢
   exact hr
  |some cc=>
   cases hd:ar E (aa E) (o.d.getD 0) st cc.1 cc.2 with
   |none=>
    refine⟨0, ?_⟩
    have h0:ar E (cm E 0) (o.d.getD 0) st cc.1 cc.2=none:=by
     cases h0:ar E (cm E 0) (o.d.getD 0) st cc.1 cc.2 with
     |none=>rfl
     |some r=>rw[pW (kC 0) h0]at hd;cases hd
    unfold bg at hr ⊢
    simp only[hc,hd,h0]at hr ⊢
    exact hr
   |some r=>
    obtain⟨m,hm⟩:=zH hd
    refine⟨m, ?_⟩
    unfold bg at hr ⊢
    simp only[hc,hd,hm]at hr ⊢
    exact hr
theorem zJ{o:aJ}{st:St}{r:FP}(hr:bD E (aa E) o st=some r): ∃m,bD E (cm E m) o st=some r:=by
 cases hc:bq st.rho o.op with
 |none=>
  refine⟨0, ?_⟩
  unfold bD at hr ⊢
  simp only[hc]at hr ⊢
  exact hr
 |some x=>
  cases x with
  |none=>
   refine⟨0, ?_⟩
   unfold bD at hr ⊢
   simp only[hc]at hr ⊢
   exact hr
  |some cc=>
   cases hd:dy E (aa E) (o.d.getD 0) st cc.1 cc.2 with
   |none=>
    refine⟨0, ?_⟩
    have h0:dy E (cm E 0) (o.d.getD 0) st cc.1 cc.2=none:=by
     cases h0:dy E (cm E 0) (o.d.getD 0) st cc.1 cc.2 with
     |none=>rfl
     |some r=>rw[pX (kC 0) h0]at hd;cases hd
    unfold bD at hr ⊢
    simp only[hc,hd,h0]at hr ⊢
    exact hr
   |some r=>
    obtain⟨m,hm⟩:=zI hd
    refine⟨m, ?_⟩
    unfold bD at hr ⊢
    simp only[hc,hd,hm]at hr ⊢
    exact hr
theorem tI{n:Nat}: ∀(os:List aJ) {st bn:St},aq E (aa E) n os st=some bn→ ∃m,aq E (cm E m) n os st=some bn
 | [],st,bn,hr=>⟨0,hr⟩
 |o::os,st,bn,hr=>by
  simp only[aq]at hr
  cases ho:bg E (aa E) n o st with
  |none=>simp only[ho]at hr;cases hr
  |some s=>
   simp only[ho]at hr
   obtain⟨m1,h1⟩:=rL ho
   obtain⟨m2,h2⟩:=tI os hr
   refine⟨max m1 m2, ?_⟩
   simp only[aq,jz (cA (Nat.le_max_left m1 m2)) h1]
   exact kB (cA (Nat.le_max_right m1 m2)) os h2
theorem rM{n:Nat}: ∀(os:List (List Nat×aJ)) {bo:List FP} {st bn:St},aH E (aa E) n os bo st=some bn→ ∃m,aH E (cm E m) n os bo st=some bn
 | [],bo,st,bn,hr=>⟨0,hr⟩
 |(u,o)::os,bo,st,bn,hr=>by
  simp only[aH]at hr
  cases hp:bD E (aa E) o st with
  |none=>simp only[hp]at hr;cases hr
  |some fp=>
   simp only[hp]at hr
   split at hr
   ·rename_i ha
    cases ho:bg E (aa E) n o st with
    |none=>simp only[ho]at hr;cases hr
    |some s=>
     simp only[ho]at hr
     obtain⟨m1,h1⟩:=rL ho
     obtain⟨m2,h2⟩:=rM os hr
     obtain⟨m3,h3⟩:=zJ hp
     refine⟨max m3 (max m1 m2), ?_⟩
     have l1:m1≤max m3 (max m1 m2):=by omega
     have l2:m2≤max m3 (max m1 m2):=by omega
     have l3:m3≤max m3 (max m1 m2):=by omega
     simp only[aH,pY (cA l3) h3,jz (cA l1) h1]
     rw[if_pos ha]
     exact jA (cA l2) os h2
   ·cases hr
theorem kD{α:Type}{x y:Option α}(h: ∀r,x=some r↔y=some r):x=y:=Option.ext h
theorem Jr{n:Nat}{st:St}:DC E n .skip st=some (.nrm,st):=cR.2 ⟨0,rfl⟩
theorem Js{n id:Nat}{st:St}:DC E n (.exit id) st=some (.ext id,st):=cR.2 ⟨0,rfl⟩
theorem Pw{n:Nat}{st:St}:DC E n .ret st=some (.ret,st):=cR.2 ⟨0,rfl⟩
theorem CW{n:Nat}{ops:List aJ}{st:St}:DC E n (.region ops) st=(aq E (aa E) n ops st).map fun bn=>(.nrm,bn):=by
 refine kD fun r=> ?_
 rw[cR,Option.map_eq_some_iff]
 constructor
 ·rintro⟨m,h⟩
  simp only[eZ,Option.map_eq_some_iff]at h
  obtain⟨a,h1,h2⟩:=h
  exact⟨a,kB (kC m) ops h1,h2⟩
 ·rintro⟨a,h1,h2⟩
  obtain⟨m,hm⟩:=tI ops h1
  refine⟨m, ?_⟩
  simp only[eZ,Option.map_eq_some_iff]
  exact⟨a,hm,h2⟩
theorem xu{n:Nat}{ops:List (List Nat×aJ)}{st:St}:DC E n (.draws ops) st=(aH E (aa E) n ops [] st).map fun bn=>(.nrm,bn):=by
 refine kD fun r=> ?_
 rw[cR,Option.map_eq_some_iff]
 constructor
 ·rintro⟨m,h⟩
  simp only[eZ,Option.map_eq_some_iff]at h
  obtain⟨a,h1,h2⟩:=h
  exact⟨a,jA (kC m) ops h1,h2⟩
 ·rintro⟨a,h1,h2⟩
  obtain⟨m,hm⟩:=rM ops h1
  refine⟨m, ?_⟩
  simp only[eZ,Option.map_eq_some_iff]
  exact⟨a,hm,h2⟩
def andThen(x:Option (Out×St))(f:St→Option (Out×St)):Option (Out×St):=
 match x with
 |some (.nrm,bn)=>f bn
 |r=>r
theorem pZ{st:St}{f:St→Option (Out×St)}:andThen (some (.nrm,st)) f=f st:=rfl
theorem xw{id:Nat}{st:St}{f:St→Option (Out×St)}:andThen (some (.ext id,st)) f=some (.ext id,st):=rfl
theorem xx{st:St}{f:St→Option (Out×St)}:andThen (some (.ret,st)) f=some (.ret,st):=rfl
theorem vf{f:St→Option (Out×St)}:andThen none f=none:=rfl
theorem Px{n:Nat}{a b:ba}{st:St}:DC E n (.seq a b) st=andThen (DC E n a st) (DC E n b):=by
 refine kD fun r=> ?_
 rw[cR]
 constructor
 ·rintro⟨m,h⟩
  simp only[eZ]at h
  cases ha:eZ E (cm E m) m n a st with
  |none=>rw[ha]at h;cases h
  |some p=>
   rw[ha]at h
   rw[cR.2 ⟨m,ha⟩]
   obtain⟨o,s⟩:=p
   cases o with
   |nrm=>exact cR.2 ⟨m,h⟩
   |ext id=>exact h
   |ret=>exact h
 ·intro h
  cases ha:DC E n a st with
  |none=>rw[ha]at h;cases h
  |some p=>
   rw[ha]at h
   obtain⟨m1,h1⟩:=cR.1 ha
   obtain⟨o,s⟩:=p
   cases o with
   |nrm=>
    obtain⟨m2,h2⟩:=cR.1 h
    refine⟨max m1 m2, ?_⟩
    have l1:=Nat.le_max_left m1 m2
    have l2:=Nat.le_max_right m1 m2
    simp only[eZ,dv (cA l1) l1 a h1]
    exact dv (cA l2) l2 b h2
   |ext id=>refine⟨m1, ?_⟩;simp only[eZ,h1];exact h
   |ret=>refine⟨m1, ?_⟩;simp only[eZ,h1];exact h
theorem Jt{n:Nat}{c:aZ}{a b:ba}{st:St}:DC E n (.cond c a b) st=match st.rho c with| .b true=>DC E n a st| .b false=>DC E n b st|_=>none:=by
 refine kD fun r=> ?_
 rw[cR]
 constructor
 ·rintro⟨m,h⟩
  simp only[eZ]at h
  split at h
  ·rename_i hx;rw[hx];exact cR.2 ⟨m,h⟩
  ·rename_i hx;rw[hx];exact cR.2 ⟨m,h⟩
  ·cases h
 ·intro h
  split at h
  ·rename_i hx
   obtain⟨m,hm⟩:=cR.1 h
   exact⟨m,by simp only[eZ,hx];exact hm⟩
  ·rename_i hx
   obtain⟨m,hm⟩:=cR.1 h
   exact⟨m,by simp only[eZ,hx];exact hm⟩
  ·cases h
def xy(id:Nat)(x:Option (Out×St)):Option (Out×St):=
 match x with
 |some (.ext A4,bn)=>if A4=id then some (.nrm,bn)else some (.ext A4,bn)
 |r=>r
theorem CX{id:Nat}{st:St}:xy id (some (.nrm,st))=some (.nrm,st):=rfl
theorem CY{id:Nat}{st:St}:xy id (some (.ret,st))=some (.ret,st):=rfl
theorem CZ{id A4:Nat}{st:St}:xy id (some (.ext A4,st))=if A4=id then some (.nrm,st)else some (.ext A4,st):=rfl
theorem zK{id:Nat}:xy id none=none:=rfl
theorem FZ{n id:Nat}{a:ba}{st:St}:DC E n (.block id a) st=xy id (DC E n a st):=by
 refine kD fun r=> ?_
 rw[cR]
 constructor
 ·rintro⟨m,h⟩
  simp only[eZ]at h
  cases ha:eZ E (cm E m) m n a st with
  |none=>rw[ha]at h;cases h
  |some p=>
   rw[ha]at h
   rw[cR.2 ⟨m,ha⟩]
   exact h
 ·intro h
  cases ha:DC E n a st with
  |none=>rw[ha]at h;cases h
  |some p=>
   rw[ha]at h
   obtain⟨m1,h1⟩:=cR.1 ha
   refine⟨m1, ?_⟩
   simp only[eZ,h1]
   exact h
theorem fU{n:Nat}{a:ba}{st:St}:DC E n (.loop a) st=andThen (DC E n a st) (DC E n (.loop a)):=by
 refine kD fun r=> ?_
 rw[cR]
 constructor
 ·rintro⟨m,h⟩
  simp only[eZ]at h
  cases m with
  |zero=>simp[iter]at h
  |succ m=>
   rw[iter]at h
   cases ha:eZ E (cm E (m+1)) (m+1) n a st with
   |none=>rw[ha]at h;cases h
   |some p=>
    rw[ha]at h
    rw[cR.2 ⟨m+1,ha⟩]
    obtain⟨o,s⟩:=p
    cases o with
    |nrm=>
     refine cR.2 ⟨m+1, ?_⟩
     simp only[eZ]
     exact l6 (fun _ _ h=>h) (Nat.le_succ m) h
    |ext id=>exact h
    |ret=>exact h
 ·intro h
  cases ha:DC E n a st with
  |none=>rw[ha]at h;cases h
  |some p=>
   rw[ha]at h
   obtain⟨m1,h1⟩:=cR.1 ha
   obtain⟨o,s⟩:=p
   cases o with
   |nrm=>
    obtain⟨m2,h2⟩:=cR.1 h
    refine⟨max m1 m2+1, ?_⟩
    have l1:m1≤max m1 m2+1:=by omega
    have l2:m2≤max m1 m2+1:=by omega
    have l3:m2≤max m1 m2:=by omega
    simp only[eZ]at h2
    simp only[eZ]
    rw[iter,dv (cA l1) l1 a h1]
    exact l6 (fun st r hh=>dv (cA l2) l2 a hh) l3 h2
   |ext id=>
    refine⟨m1+1, ?_⟩
    simp only[eZ]
    rw[iter,dv (cA (Nat.le_succ m1)) (Nat.le_succ m1) a h1]
    exact h
   |ret=>
    refine⟨m1+1, ?_⟩
    simp only[eZ]
    rw[iter,dv (cA (Nat.le_succ m1)) (Nat.le_succ m1) a h1]
    exact h
def F0(af:aC)(x:Option (Out×St)):Option (T×List aA):=
 match x with
 |some (.ext _,_)=>none
 |some (_,st)=>match eC st af.res with
  |some vs=>jv af.own af.eff vs st
  |none=>none
 |none=>none
theorem xz{f:Nat}{af:aC}{args:List T}{sh:List aA}(hf:E.fn f=some af)(hn:args.length≤af.n):
  aa E f args sh=F0 af (DC E af.n af.code {fr:=gn args,lh:= .nil,sh}):=by
 refine kD fun r=> ?_
 rw[DCall_iff]
 constructor
 ·rintro⟨m,h⟩
  cases m with
  |zero=>simp[cm]at h
  |succ m=>
   simp only[cm,hf,if_neg (Nat.not_lt.2 hn)]at h
   cases hc:eZ E (cm E m) m af.n af.code {fr:=gn args,lh:= .nil,sh}with
   |none=>rw[hc]at h;cases h
   |some p=>rw[hc]at h;rw[cR.2 ⟨m,hc⟩];exact h
 ·intro h
  cases hc:DC E af.n af.code {fr:=gn args,lh:= .nil,sh}with
  |none=>rw[hc]at h;cases h
  |some p=>
   rw[hc]at h
   obtain⟨m,hm⟩:=cR.1 hc
   refine⟨m+1, ?_⟩
   simp only[cm,hf,if_neg (Nat.not_lt.2 hn),hm]
   exact h
end
end Go.Ev
namespace Go.Ev
open Go
theorem nr{α:Sort _}{a b:α}(h:a=b):a=b:=h
def rd(fr:Fr):aZ→T
 | .t k=>an fr k
 | .c v=>v
theorem YR(fr:Fr)(k:Nat):rd fr (.t k)=an fr k:=nr rfl
theorem rd_c(fr:Fr)(v:T):rd fr (.c v)=v:=nr rfl
theorem dA(fr:Fr)(lh:aQ aA)(sh:List aA):(St.mk fr lh sh).rho=rd fr:=by funext x;cases x <;> rfl
theorem F1(fr:Fr)(d:Nat)(v:T):an (cS fr d v) d=v:=by rw[iH,if_pos rfl]
theorem F2(fr:Fr){d m:Nat}(v:T)(h:m≠d):an (cS fr d v) m=an fr m:=by rw[iH,if_neg h]
def aE(lh:aQ aA)(k:Nat):aA:=aQ.get gO lh k
def gh(lh:aQ aA)(k:Nat)(e:aA):aQ aA:=aQ.set gO lh k e
theorem jZ(lh:aQ aA)(k:Nat)(e:aA):aE (gh lh k e) k=e:=by unfold aE gh;rw[aQ.get_set,if_pos rfl]
theorem cK(lh:aQ aA){k m:Nat}(e:aA)(h:m≠k):aE (gh lh k e) m=aE lh m:=by unfold aE gh;rw[aQ.get_set,if_neg h]
theorem F3(k:Nat):aE .nil k=gO:=by unfold aE;exact aQ.get_nil _ _
theorem Ju(fr:Fr)(lh:aQ aA)(sh:List aA)(k:Nat):(St.mk fr lh sh).get .L k=aE lh k:=rfl
theorem V3(fr:Fr)(lh:aQ aA)(sh:List aA)(k:Nat):(St.mk fr lh sh).get .S k=ch sh k:=rfl
theorem qD(st:St):st.ups []=st:=rfl
theorem NC(fr:Fr)(lh:aQ aA)(sh:List aA)(k:Nat)(e:aA)(us:List Up):(St.mk fr lh sh).ups ((.L,k,e)::us)=(St.mk fr (gh lh k e) sh).ups us:=rfl
theorem aaG(fr:Fr)(lh:aQ aA)(sh:List aA)(k:Nat)(e:aA)(us:List Up):(St.mk fr lh sh).ups ((.S,k,e)::us)=(St.mk fr lh (fO sh k e)).ups us:=rfl
def iz:Option sL→Option (T×List Up)
 |some (.val v ups)=>some (v,ups)
 |none=>none
def one(fr:Fr)(lh:aQ aA)(sh:List aA)(d:Nat)(op:k7):Option (T×List Up):=
 iz ((bC d (rd fr) op).run (St.mk fr lh sh).get sh.length)
def mA(fr:Fr):Option Nat→T→Fr
 |some d,v=>cS fr d v
 |none,_=>fr
def xA(n:Nat):Option Nat→Prop
 |some d=>d<n
 |none=>True
section
variable{E:Env}{call:jk}{n:Nat}{fr:Fr}{lh:aQ aA}{sh:List aA}{os:List aJ}
theorem TN{st:St}:aq E call n [] st=some st:=rfl
theorem k5{d:Option Nat}{op:k7}(hc:bq (rd fr) op=none)(hd:xA n d):
  aq E call n (⟨d,op,none⟩::os) ⟨fr,lh,sh⟩=(one fr lh sh (d.getD 0) op).bind fun r=>aq E call n os {(St.mk fr lh sh).ups r.2 with fr:=mA fr d r.1}:=by
 simp only[aq,bg,dA,hc]
 unfold one
 cases h:(bC (d.getD 0) (rd fr) op).run (St.mk fr lh sh).get sh.length with
 |none=>rfl
 |some r=>
  obtain⟨v,ups⟩:=r
  simp only[Option.bind_some,iz]
  cases d with
  |none=>rfl
  |some d=>simp only[eX,if_pos (show d<n from hd),mA,Option.map_some]
theorem dL{d:Option Nat}{op:k7}(hc:bq (rd fr) op=none)(hd:xA n d){v:Option T}(h1:one fr lh sh (d.getD 0) op=v.map fun v=>(v,[])):
  aq E call n (⟨d,op,none⟩::os) ⟨fr,lh,sh⟩=v.bind fun v=>aq E call n os ⟨mA fr d v,lh,sh⟩:=by
 rw[k5 hc hd,h1]
 cases v <;> rfl
theorem iG{o:Option T}{h:Sp→Nat→aA}{nx:Nat}:iz ((val o).run h nx)=o.map fun v=>(v,([]:List Up)):=by
 cases o <;> rfl
variable{d:Nat}
theorem YS{x:aZ}(hd:d<n):aq E call n (⟨some d,.mv x,none⟩::os) ⟨fr,lh,sh⟩=aq E call n os ⟨cS fr d (rd fr x),lh,sh⟩:=
 dL (d:=some d) (v:=some (rd fr x)) (by rfl) hd rfl
def Bu(c a b:T):Option T:=match c with| .b x=>some (if x=true then a else b)|_=>none
theorem Jv(x:Bool)(a b:T):Bu (.b x) a b=some (if x=true then a else b):=rfl
theorem Py{c a b:aZ}(hd:d<n):aq E call n (⟨some d,.pick c a b,none⟩::os) ⟨fr,lh,sh⟩=(Bu (rd fr c) (rd fr a) (rd fr b)).bind fun v=>aq E call n os ⟨cS fr d v,lh,sh⟩:=by
 refine dL (d:=some d) (by rfl) hd ?_
 unfold one Bu
 simp only[bC]
 cases h:rd fr c <;> try rfl
 rename_i x
 cases x <;> rfl
theorem TO{op:BinOp}{x y:aZ}(hd:d<n):aq E call n (⟨some d,.bin op x y,none⟩::os) ⟨fr,lh,sh⟩=(Ev.bin op (rd fr x) (rd fr y)).bind fun v=>aq E call n os ⟨cS fr d v,lh,sh⟩:=
 dL (d:=some d) (by rfl) hd iG
theorem YT{neg:Bool}{k:EK}{x y:aZ}(hd:d<n):aq E call n (⟨some d,.eq neg k x y,none⟩::os) ⟨fr,lh,sh⟩=((mO k (rd fr x) (rd fr y)).map fun r=>T.b (r != neg)).bind fun v=>aq E call n os ⟨cS fr d v,lh,sh⟩:=
 dL (d:=some d) (by rfl) hd iG
theorem YU{op:UnOp}{x:aZ}(hd:d<n):aq E call n (⟨some d,.un op x,none⟩::os) ⟨fr,lh,sh⟩=(Ev.un op (rd fr x)).bind fun v=>aq E call n os ⟨cS fr d v,lh,sh⟩:=
 dL (d:=some d) (by rfl) hd iG
def Jw(k:IntKind):T→Option T
 | .i _ n=>some (.i k (wr k n))
 |_=>none
theorem TP{k:IntKind}{x:aZ}(hd:d<n):aq E call n (⟨some d,.cvi k x,none⟩::os) ⟨fr,lh,sh⟩=(Jw k (rd fr x)).bind fun v=>aq E call n os ⟨cS fr d v,lh,sh⟩:=by
 refine dL (d:=some d) (by rfl) hd ?_
 unfold one Jw
 simp only[bC]
 cases h:rd fr x <;> rfl
theorem Pz{f:Nat}{a c:List aZ}(hd:d<n):aq E call n (⟨some d,.mkfn f a c,none⟩::os) ⟨fr,lh,sh⟩=aq E call n os ⟨cS fr d (.fn f (a.map (rd fr)) (c.map (rd fr))),lh,sh⟩:=
 dL (d:=some d) (v:=some _) (by rfl) hd rfl
def aG(fr:Fr)(z:List T)(ps:List (Nat×Nat×aZ)):Option T:=
 if(ps.all fun p=>(cellsOf (rd fr p.2.2)).length=p.2.1&&noTup (rd fr p.2.2))=true then(aF z (ps.map fun p=>(p.1,cellsOf (rd fr p.2.2)))).map .agg else none
theorem Jx{z:List T}{ps:List (Nat×Nat×aZ)}(hd:d<n):aq E call n (⟨some d,.build z ps,none⟩::os) ⟨fr,lh,sh⟩=(aG fr z ps).bind fun v=>aq E call n os ⟨cS fr d v,lh,sh⟩:=by
 refine dL (d:=some d) (by rfl) hd ?_
 unfold one aG
 simp only[bC]
 split
 ·exact iG
 ·rfl
def kE(fr:Fr)(x:T)(l h:Option aZ):Option T:=
 match x with
 | .s bs=>match bk (rd fr) 0 l,bk (rd fr) bs.length h with
   |some l,some h=>if l≤h∧h≤bs.length then some (.s ((bs.drop l).take (h-l)))else none
   |_,_=>none
 |_=>none
theorem TQ{x:aZ}{l h:Option aZ}(hd:d<n):aq E call n (⟨some d,.slS x l h,none⟩::os) ⟨fr,lh,sh⟩=(kE fr (rd fr x) l h).bind fun v=>aq E call n os ⟨cS fr d v,lh,sh⟩:=by
 refine dL (d:=some d) (by rfl) hd ?_
 unfold one kE
 simp only[bC]
 cases hx:rd fr x <;> try rfl
 rename_i bs
 simp only[]
 cases h1:bk (rd fr) 0 l <;> cases h2:bk (rd fr) bs.length h <;> try rfl
 rename_i a b
 simp only[Bool.and_eq_true,decide_eq_true_eq]
 by_cases hb:a≤b∧b≤bs.length
 ·simp only[if_pos hb];rfl
 ·simp only[if_neg hb];rfl
def TR(x:T)(off:Nat):Option T:=
 match x with
 | .vp cs=>if off≤cs.length then some (.vp (cs.drop off))else none
 | .ptr sp k g o=>some (.ptr sp k g (o+off))
 |_=>none
theorem YV{x:aZ}{off:Nat}(hd:d<n):aq E call n (⟨some d,.fa x off,none⟩::os) ⟨fr,lh,sh⟩=(TR (rd fr x) off).bind fun v=>aq E call n os ⟨cS fr d v,lh,sh⟩:=by
 refine dL (d:=some d) (by rfl) hd ?_
 unfold one TR
 simp only[bC]
 cases hx:rd fr x <;> try rfl
 rename_i cs
 simp only[]
 split <;> rfl
def YW(x:T)(off n:Nat)(ag:Bool):Option T:=match x with| .agg cs=>part cs off n ag|_=>none
def tJ(x ix:T)(sz:Nat):Option T:=
 match asNat ix,x with
 |some j,.sl cs len _=>if j<len∧(j+1)*sz≤cs.length then some (.vp (cs.drop (j*sz)))else none
 |some j,.isl sp k g off len jt=>if j<len∧jt=sz then some (.ptr sp k g (off+j*sz))else none
 |_,_=>none
theorem YX{x ix:aZ}{sz:Nat}(hd:d<n):aq E call n (⟨some d,.ia x ix sz,none⟩::os) ⟨fr,lh,sh⟩=(tJ (rd fr x) (rd fr ix) sz).bind fun v=>aq E call n os ⟨cS fr d v,lh,sh⟩:=by
 refine dL (d:=some d) (by rfl) hd ?_
 unfold one tJ
 simp only[bC]
 cases h1:asNat (rd fr ix)with
 |none=>rfl
 |some j=>
  cases hx:rd fr x <;> try rfl
  ·simp only[Bool.and_eq_true,decide_eq_true_eq];split <;> rfl
  ·simp only[Bool.and_eq_true,decide_eq_true_eq];split <;> rfl
def zL(x ix:T):Option T:=
 match asNat ix,x with
 |some j,.s bs=>bs[j]?.map fun c=> .i .u8 c
 |_,_=>none
theorem TS{x ix:aZ}(hd:d<n):aq E call n (⟨some d,.ixS x ix,none⟩::os) ⟨fr,lh,sh⟩=(zL (rd fr x) (rd fr ix)).bind fun v=>aq E call n os ⟨cS fr d v,lh,sh⟩:=by
 refine dL (d:=some d) (by rfl) hd ?_
 unfold one zL
 simp only[bC]
 cases h1:asNat (rd fr ix)with
 |none=>rfl
 |some j=>
  cases hx:rd fr x <;> try rfl
  rename_i bs
  simp only[]
  cases hb:bs[j]? <;> rfl
def Jy(x:T)(j:Nat):Option T:=match x with| .tup vs=>vs[j]? |_=>none
theorem TT{x:aZ}{j:Nat}(hd:d<n):aq E call n (⟨some d,.ext x j,none⟩::os) ⟨fr,lh,sh⟩=(Jy (rd fr x) j).bind fun v=>aq E call n os ⟨cS fr d v,lh,sh⟩:=by
 refine dL (d:=some d) (by rfl) hd ?_
 unfold one Jy
 simp only[bC]
 cases hx:rd fr x <;> try rfl
 exact iG
def Bv(x:T):Option T:=match x with| .s bs=>some (.i .i64 bs.length)|_=>none
theorem PA{x:aZ}(hd:d<n):aq E call n (⟨some d,.lenS x,none⟩::os) ⟨fr,lh,sh⟩=(Bv (rd fr x)).bind fun v=>aq E call n os ⟨cS fr d v,lh,sh⟩:=by
 refine dL (d:=some d) (by rfl) hd ?_
 unfold one Bv
 simp only[bC]
 cases hx:rd fr x <;> rfl
theorem PB{x:aZ}(hd:d<n):aq E call n (⟨some d,.lenV x,none⟩::os) ⟨fr,lh,sh⟩=((jH (rd fr x)).map fun m=>T.i .i64 m).bind fun v=>aq E call n os ⟨cS fr d v,lh,sh⟩:=
 dL (d:=some d) (by rfl) hd iG
def mR(isMax:Bool)(l:List T):Option T:=match l with|x::rest=>bu isMax x rest| []=>none
theorem YY{isMax:Bool}{args:List aZ}(hd:d<n):aq E call n (⟨some d,.mm isMax args,none⟩::os) ⟨fr,lh,sh⟩=(mR isMax (args.map (rd fr))).bind fun v=>aq E call n os ⟨cS fr d v,lh,sh⟩:=by
 refine dL (d:=some d) (by rfl) hd ?_
 unfold one mR
 simp only[bC]
 cases hx:args.map (rd fr)with
 |nil=>rfl
 |cons x rest=>exact iG
def zM(x:T):Option T:=match x with| .vp cs=>some (.vp cs)| .ptr sp k g off=>some (.ptr sp k g off)| .fn f a c=>some (.fn f a c)|_=>none
theorem Jz{x:aZ}:one fr lh sh d (.nck x)=(zM (rd fr x)).map fun v=>(v,[]):=by
 unfold one zM
 simp only[bC]
 cases hx:rd fr x <;> rfl
theorem TU{x:aZ}(hd:d<n):aq E call n (⟨some d,.nck x,none⟩::os) ⟨fr,lh,sh⟩=(zM (rd fr x)).bind fun v=>aq E call n os ⟨cS fr d v,lh,sh⟩:=
 dL (d:=some d) (by rfl) hd Jz
def PC(e:aA)(g off m:Nat)(ag:Bool):Option T:=
 match e with
 |⟨g',.cells cs _ _⟩=>if g'=g then part cs off m ag else none
 |_=>none
theorem C0{g g' off m wm:Nat}{ag bx:Bool}{cs:List T}:PC ⟨g',.cells cs wm bx⟩ g off m ag=if g'=g then part cs off m ag else none:=rfl
def IH(lh:aQ aA)(sh:List aA)(x:T)(m:Nat)(ag:Bool):Option T:=
 match x with
 | .vp cs=>part cs 0 m ag
 | .ptr .L k g off=>PC (aE lh k) g off m ag
 | .ptr .S k g off=>PC (ch sh k) g off m ag
 |_=>none
theorem F4{α:Type}{o:Option α}{h:Sp→Nat→aA}{nx:Nat}:(Q.of o).run h nx=o:=by cases o <;> rfl
theorem ldQ{h:Sp→Nat→aA}{nx g off m:Nat}{ag:Bool}(e:aA):Q.run h nx (if e.g=g then(match e.ob with| .cells cs _ _=>Q.of (part cs off m ag)|_=> .fail)else .fail)=PC e g off m ag:=by
 obtain⟨g',ob⟩:=e
 unfold PC
 by_cases hg:g'=g
 ·cases ob <;> simp only[hg,if_true] <;> first|rfl|exact F4
 ·cases ob <;> simp only[hg,if_false] <;> rfl
theorem Bw{x:T}{m:Nat}{ag:Bool}:(uO x m ag).run (St.mk fr lh sh).get sh.length=IH lh sh x m ag:=by
 unfold uO IH
 cases x <;> try rfl
 ·exact F4
 ·rename_i sp k g off
  cases sp
  ·exact ldQ (aE lh k)
  ·exact ldQ (ch sh k)
theorem bI{α β:Type}{h:Sp→Nat→aA}{nx:Nat}{f:α→Q β}: ∀(q:Q α),(q.bind f).run h nx=(q.run h nx).bind fun a=>(f a).run h nx
 | .ret a=>rfl
 | .fail=>rfl
 | .rd sp k g=>bI (g (h sp k))
 | .new g=>bI (g nx)
theorem YZ{x:aZ}{m:Nat}{ag:Bool}(hd:d<n):aq E call n (⟨some d,.ld x m ag,none⟩::os) ⟨fr,lh,sh⟩=(IH lh sh (rd fr x) m ag).bind fun v=>aq E call n os ⟨cS fr d v,lh,sh⟩:=by
 refine dL (d:=some d) (by rfl) hd ?_
 unfold one
 simp only[bC,bI,Bw]
 cases IH lh sh (rd fr x) m ag <;> rfl
theorem JA{z:List T}(hd:d<n):aq E call n (⟨some d,.alloc z false,none⟩::os) ⟨fr,lh,sh⟩=aq E call n os ⟨cS fr d (.ptr .L d ((aE lh d).g+1) 0),gh lh d ⟨(aE lh d).g+1,.cells z 0 true⟩,sh⟩:=by
 rw[k5 (by rfl) (show xA n (some d)from hd)];rfl
theorem TV{x:aZ}(hd:d<n)(ht:noTup (rd fr x)=true):aq E call n (⟨some d,.box x false,none⟩::os) ⟨fr,lh,sh⟩=aq E call n os ⟨cS fr d (.ptr .L d ((aE lh d).g+1) 0),gh lh d ⟨(aE lh d).g+1,.cells (cellsOf (rd fr x)) 0 true⟩,sh⟩:=by
 rw[k5 (by rfl) (show xA n (some d)from hd)]
 unfold one
 simp only[bC,ht]
 rfl
def vg(x:T)(bytes:Nat):Option Nat:=match asNat x with|some m=>if m*bytes≤roomy∧m≤roomy then some m else none|none=>none
theorem PD{z:List T}{bytes:Nat}{x:aZ}(hd:d<n):aq E call n (⟨some d,.mksl z bytes x false,none⟩::os) ⟨fr,lh,sh⟩=
  (vg (rd fr x) bytes).bind fun m=>aq E call n os ⟨cS fr d (.isl .L d ((aE lh d).g+1) 0 m z.length),gh lh d ⟨(aE lh d).g+1,.cells (repl z m) 0 false⟩,sh⟩:=by
 rw[k5 (by rfl) (show xA n (some d)from hd)]
 unfold one vg
 simp only[bC]
 cases asNat (rd fr x)with
 |none=>rfl
 |some m=>
  simp only[Bool.and_eq_true,decide_eq_true_eq]
  split <;> rfl
end
end Go.Ev
namespace Go.Ev
open Go
def froz1:T→Bool
 | .b _| .i .. | .s _| .nilsl| .sl .. | .nilptr| .vp _| .nilmp| .vm .. | .nilfn=>true
 |_=>false
def froz:T→Bool
 | .agg cs=>cs.all froz1
 | .tup cs=>cs.all froz1
 | .fn _ a c=>a.all froz1&&c.all froz1
 |t=>froz1 t
theorem j0{keep:Bool}{n:Nat}{t:T}(h:froz1 t=true):fz keep (n+1) t= .ret (t,[]):=by
 cases t <;> first|rfl|(simp[froz1]at h)
theorem iW{keep:Bool}{n:Nat}: ∀(ts:List T),ts.all froz1=true→bl (fz keep (n+1)) ts= .ret (ts,[])
 | [],_=>rfl
 |t::ts,h=>by
  simp only[List.all_cons,Bool.and_eq_true]at h
  simp only[bl,j0 h.1,iW ts h.2,Q.bind,List.append_nil]
theorem vh{keep:Bool}{n:Nat}{cs:List T}:fz keep (n+1) (.agg cs)=(bl (fz keep n) cs).bind fun q=> .ret (.agg q.1,q.2):=rfl
theorem zN{keep:Bool}{n:Nat}{cs:List T}:fz keep (n+1) (.tup cs)=(bl (fz keep n) cs).bind fun q=> .ret (.tup q.1,q.2):=rfl
theorem ND{keep:Bool}{n f:Nat}{a c:List T}:fz keep (n+1) (.fn f a c)=(bl (fz keep n) a).bind fun p=>(bl (fz keep n) c).bind fun q=> .ret (.fn f p.1 q.1,p.2++q.2):=rfl
theorem kF{keep:Bool}{n:Nat}{t:T}(h:froz t=true):fz keep (n+2) t= .ret (t,[]):=by
 cases t with
 |agg cs=>simp only[froz]at h;rw[vh,iW cs h];rfl
 |tup cs=>simp only[froz]at h;rw[zN,iW cs h];rfl
 |fn f a c=>simp only[froz,Bool.and_eq_true]at h;rw[ND,iW a h.1,iW c h.2];rfl
 |_=>exact j0 h
def fzV(lh:aQ aA)(sh:List aA)(keep:Bool)(v:T):Option (T×List Up):=(fz keep aM v).run (St.mk .nil lh sh).get sh.length
def ni(lh:aQ aA)(sh:List aA)(keep:Bool)(vs:List T):Option (List T×List Up):=(bl (fz keep aM) vs).run (St.mk .nil lh sh).get sh.length
section
variable{lh:aQ aA}{sh:List aA}{keep:Bool}
theorem lF{v:T}(h:froz v=true):fzV lh sh keep v=some (v,[]):=by
 unfold fzV aM;rw[kF h];rfl
theorem Bx:ni lh sh keep []=some ([],[]):=rfl
theorem nT{v:T}{vs:List T}:ni lh sh keep (v::vs)=(fzV lh sh keep v).bind fun p=>(ni lh sh keep vs).bind fun q=>some (p.1::q.1,p.2++q.2):=by
 unfold ni fzV
 rw[bl,bI]
 congr 1
 funext p
 rw[bI]
 rfl
theorem nU{vs:List T}(h:vs.all froz=true):ni lh sh keep vs=some (vs,[]):=by
 induction vs with
 |nil=>rfl
 |cons v vs ih=>
  simp only[List.all_cons,Bool.and_eq_true]at h
  rw[nT,lF h.1,ih h.2]
  rfl
def F5(m:Nat)(lh:aQ aA)(sh:List aA)(k:Nat)(e:aA)(g off len sz:Nat):Option (T×List Up):=
 match e with
 |⟨g',.cells cs _ false⟩=>if g'=g∧off+len*sz≤cs.length then some (.sl ((cs.drop off).take (len*sz)) len false,[(.L,k,⟨g,.cells cs cs.length false⟩)])else none
 |⟨g',.cells cs _ true⟩=>if g'=g∧off+len*sz≤cs.length then((bl (fz false m) ((cs.drop off).take (len*sz))).run (St.mk .nil lh sh).get sh.length).map fun q=>(.sl q.1 len false,q.2++ [(.L,k,⟨g,.cells cs cs.length true⟩)])else none
 |_=>none
theorem TW{m k g off len sz:Nat}(e:aA):Q.run (St.mk .nil lh sh).get sh.length (if e.g=g then(match e.ob with
        | .cells cs _ false=>if off+len*sz≤cs.length then .ret (T.sl ((cs.drop off).take (len*sz)) len false,[(Sp.L,k,(⟨g,.cells cs cs.length false⟩:aA))])else .fail
        | .cells cs _ true=>if off+len*sz≤cs.length then(bl (fz false m) ((cs.drop off).take (len*sz))).bind fun q=> .ret (T.sl q.1 len false,q.2++ [(Sp.L,k,(⟨g,.cells cs cs.length true⟩:aA))])else .fail
        |_=> .fail)else .fail)=F5 m lh sh k e g off len sz:=by
 obtain⟨g',ob⟩:=e
 unfold F5
 by_cases hg:g'=g
 ·cases ob with
  |cells cs wm bx=>
   cases bx
   ·by_cases hl:off+len*sz≤cs.length <;> simp[hg,hl,Q.run]
   ·by_cases hl:off+len*sz≤cs.length
    ·simp only[hg,hl,if_true,and_self,bI]
     cases (bl (fz false m) ((cs.drop off).take (len*sz))).run (St.mk .nil lh sh).get sh.length <;> rfl
    ·simp[hg,hl,Q.run]
  |_=>simp[hg,Q.run]
 ·cases ob with
  |cells cs wm bx=>cases bx <;> simp[hg,Q.run]
  |_=>simp[hg,Q.run]
theorem By{k g off len sz:Nat}:fzV lh sh keep (.isl .L k g off len sz)=F5 7 lh sh k (aE lh k) g off len sz:=by
 cases keep <;> exact TW (aE lh k)
def mpV(k:Nat)(e:aA)(g:Nat):Option (T×List Up):=
 match e with
 |⟨g',.map ks vs _⟩=>if g'=g then some (.vm ks vs,[(.L,k,⟨g,.map ks vs true⟩)])else none
 |_=>none
theorem C1{k g off len sz:Nat}:fzV lh sh true (.isl .S k g off len sz)=some (.isl .S k g off len sz,[]):=rfl
theorem C2{k g off:Nat}:fzV lh sh true (.ptr .S k g off)=some (.ptr .S k g off,[]):=rfl
theorem C3{k g:Nat}:fzV lh sh true (.mp .S k g)=some (.mp .S k g,[]):=rfl
theorem JB{cs:List T}:fzV lh sh keep (.agg cs)=((bl (fz keep 7) cs).run (St.mk .nil lh sh).get sh.length).map fun q=>(.agg q.1,q.2):=by
 unfold fzV aM
 rw[vh,bI]
 cases (bl (fz keep 7) cs).run (St.mk .nil lh sh).get sh.length <;> rfl
theorem JC{cs:List T}:fzV lh sh keep (.tup cs)=((bl (fz keep 7) cs).run (St.mk .nil lh sh).get sh.length).map fun q=>(.tup q.1,q.2):=by
 unfold fzV aM
 rw[zN,bI]
 cases (bl (fz keep 7) cs).run (St.mk .nil lh sh).get sh.length <;> rfl
end
section
variable{E:Env}{call:jk}{n:Nat}{fr:Fr}{lh:aQ aA}{sh:List aA}{os:List aJ}{d:Nat}
theorem jN:(St.mk fr lh sh).get=(St.mk .nil lh sh).get:=by funext sp k;cases sp <;> rfl
theorem iJ: ∀(us:List Up) (lh:aQ aA) (sh:List aA),(St.mk fr lh sh).ups us={(St.mk .nil lh sh).ups us with fr:=fr}
 | [],lh,sh=>rfl
 |(.L,k,e)::us,lh,sh=>iJ us (gh lh k e) sh
 |(.S,k,e)::us,lh,sh=>iJ us lh (fO sh k e)
def tK(lh:aQ aA)(sh:List aA)(x v:T)(m:Nat):Option (aQ aA×List aA):=
 match(jm x v m).run (St.mk .nil lh sh).get sh.length with
 |some (.val _ us)=>some (((St.mk .nil lh sh).ups us).lh,((St.mk .nil lh sh).ups us).sh)
 |none=>none
theorem Y0{x v:aZ}{m:Nat}:aq E call n (⟨none,.st x v m,none⟩::os) ⟨fr,lh,sh⟩=(tK lh sh (rd fr x) (rd fr v) m).bind fun r=>aq E call n os ⟨fr,r.1,r.2⟩:=by
 rw[k5 (by rfl) (show xA n none from trivial)]
 unfold one tK
 simp only[bC,jN]
 cases h:(jm (rd fr x) (rd fr v) m).run (St.mk .nil lh sh).get sh.length with
 |none=>rfl
 |some r=>
  obtain⟨u,us⟩:=r
  simp only[Option.bind_some,mA,iz]
  rw[iJ us lh sh]
def JD(lh:aQ aA)(sh:List aA)(k:Nat)(e:aA)(g off:Nat)(v:T)(m:Nat):Option (aQ aA×List aA):=
 match e with
 |⟨g',.cells cs wm true⟩=>if g'=g∧(cellsOf v).length=m∧noTup v=true∧wm≤off∧off+m≤cs.length then some (gh lh k ⟨g,.cells (splice cs off (cellsOf v)) wm true⟩,sh)else none
 |⟨g',.cells cs wm false⟩=>if g'=g∧(cellsOf v).length=m∧noTup v=true∧wm≤off∧off+m≤cs.length then
    (fzV lh sh false v).bind fun p=>if fP p.2 .L k=true∨noTup p.1=false∨(cellsOf p.1).length≠m then none else some (((St.mk .nil lh sh).ups (p.2++ [(.L,k,⟨g,.cells (splice cs off (cellsOf p.1)) wm false⟩)])).lh,((St.mk .nil lh sh).ups (p.2++ [(.L,k,⟨g,.cells (splice cs off (cellsOf p.1)) wm false⟩)])).sh)
  else none
 |_=>none
def dD(lh:aQ aA)(sh:List aA):Option sL→Option (aQ aA×List aA)
 |some (.val _ us)=>some (((St.mk .nil lh sh).ups us).lh,((St.mk .nil lh sh).ups us).sh)
 |none=>none
def JE(k g off m:Nat)(v:T)(e:aA):Q sL:=if e.g=g then match e.ob with
     | .cells cs wm bx=>if wm≤off&&off+m≤cs.length then
         (if bx&&Sp.L== .L then .ret (.val bm [(Sp.L,k,⟨g,.cells (splice cs off (cellsOf v)) wm bx⟩)])
         else(fz (bx&&Sp.L== .S) aM v).bind fun p=>if fP p.2 .L k|| !noTup p.1||(cellsOf p.1).length≠m then .fail else .ret (.val bm (p.2++ [(Sp.L,k,⟨g,.cells (splice cs off (cellsOf p.1)) wm bx⟩)])))
       else .fail
     |_=> .fail
    else .fail
theorem stQ{k g off m:Nat}{v:T}(e:aA)(h1:(cellsOf v).length=m)(h2:noTup v=true):dD lh sh (Q.run (St.mk .nil lh sh).get sh.length (JE k g off m v e))=JD lh sh k e g off v m:=by
 obtain⟨g',ob⟩:=e
 unfold JD JE
 by_cases hg:g'=g
 ·subst hg
  cases ob with
  |none=>simp[Q.run,dD]
  |map ks vs z=>simp[Q.run,dD]
  |cells cs wm bx=>
   by_cases hb:wm≤off∧off+m≤cs.length
   ·cases bx with
    |true=>simp[hb.1,hb.2,h1,h2,Q.run,NC,qD,dD]
    |false=>
     have yZ:(decide (wm≤off)&&decide (off+m≤cs.length))=true:=by simp[hb.1,hb.2]
     simp only[if_true,yZ,Bool.false_and,Bool.false_eq_true,if_false,bI]
     rw[if_pos (show True∧(cellsOf v).length=m∧noTup v=true∧wm≤off∧off+m≤cs.length from⟨trivial,h1,h2,hb⟩)]
     show dD lh sh (Option.bind (fzV lh sh false v) _)=_
     cases hz:fzV lh sh false v with
     |none=>rfl
     |some p=>
      simp only[Option.bind_some]
      by_cases hh:(fP p.2 .L k=true∨noTup p.1=false∨(cellsOf p.1).length≠m)
      ·rw[if_pos hh]
       have:(fP p.2 .L k|| !noTup p.1||decide ((cellsOf p.1).length≠m))=true:=by
        rcases hh with h|h|h
        ·simp[h]
        ·simp[h]
        ·simp[h]
       simp only[this,if_true,Q.run,dD]
      ·rw[if_neg hh]
       have:(fP p.2 .L k|| !noTup p.1||decide ((cellsOf p.1).length≠m))=false:=by
        simp only[not_or]at hh
        obtain⟨h3,h4,h5⟩:=hh
        have Bc:(cellsOf p.1).length=m:=Classical.byContradiction h5
        simp[h3,h4,Bc]
       simp only[this,Bool.false_eq_true,if_false,Q.run,dD]
   ·have yZ:(decide (wm≤off)&&decide (off+m≤cs.length))=false:=by
     cases hx:(decide (wm≤off)&&decide (off+m≤cs.length))with
     |false=>rfl
     |true=>simp at hx;exact absurd hx hb
    cases bx
    ·simp only[if_true,yZ,Bool.false_eq_true,if_false,Q.run,dD]
     rw[if_neg (by rintro⟨_,_,_,a⟩;exact hb a)]
    ·simp only[if_true,yZ,Bool.false_eq_true,if_false,Q.run,dD]
     rw[if_neg (by rintro⟨_,_,_,a⟩;exact hb a)]
 ·cases ob with
  |none=>simp[hg,Q.run,dD]
  |map ks vs z=>simp[hg,Q.run,dD]
  |cells cs wm bx=>cases bx <;> simp[hg,Q.run,dD]
theorem TX{k g off m:Nat}{v:T}:tK lh sh (.ptr .L k g off) v m=JD lh sh k (aE lh k) g off v m:=by
 by_cases h1:(cellsOf v).length=m
 ·cases h2:noTup v with
  |false=>
   unfold tK jm
   have:(decide ((cellsOf v).length≠m)|| !noTup v)=true:=by simp[h2]
   simp only[this,if_true,Q.run]
   unfold JD
   split <;> simp[h2]
  |true=>
   unfold tK jm
   have:(decide ((cellsOf v).length≠m)|| !noTup v)=false:=by simp[h1,h2]
   simp only[this,Bool.false_eq_true,if_false]
   exact stQ (aE lh k) h1 h2
 ·unfold tK jm
  have:(decide ((cellsOf v).length≠m)|| !noTup v)=true:=by simp[h1]
  simp only[this,if_true,Q.run]
  unfold JD
  split <;> simp[h1]
theorem JF{k g g' off m wm:Nat}{cs:List T}{v:T}:JD lh sh k ⟨g',.cells cs wm true⟩ g off v m=if g'=g∧(cellsOf v).length=m∧noTup v=true∧wm≤off∧off+m≤cs.length then some (gh lh k ⟨g,.cells (splice cs off (cellsOf v)) wm true⟩,sh)else none:=rfl
theorem JG{k g g' off m wm:Nat}{cs:List T}{v:T}(hf:froz v=true):JD lh sh k ⟨g',.cells cs wm false⟩ g off v m=if g'=g∧(cellsOf v).length=m∧noTup v=true∧wm≤off∧off+m≤cs.length then some (gh lh k ⟨g,.cells (splice cs off (cellsOf v)) wm false⟩,sh)else none:=by
 unfold JD
 simp only[lF hf,Option.bind_some,fP,List.any_nil,Bool.false_eq_true,false_or]
 by_cases h:g'=g∧(cellsOf v).length=m∧noTup v=true∧wm≤off∧off+m≤cs.length
 ·rw[if_pos h,if_pos h,if_neg (by rintro(hc|hc) <;> simp_all)]
  rfl
 ·rw[if_neg h,if_neg h]
def slC(lh:aQ aA)(sh:List aA)(sz:Nat)(x:T):Option (Nat×List T):=(bL sz x).run (St.mk .nil lh sh).get sh.length
theorem JH{sz:Nat}:slC lh sh sz .nilsl=some (0,[]):=rfl
theorem zO{sz len:Nat}{cs:List T}{ex:Bool}:slC lh sh sz (.sl cs len ex)=if cs.length=len*sz then some (len,cs)else none:=by
 unfold slC bL;simp only[];split <;> rfl
theorem TY{l:List Nat}:slC lh sh 1 (.s l)=some (l.length,l.map fun(n:Nat)=>T.i .u8 (n:Int)):=rfl
def slE(sz:Nat)(e:aA)(g off len:Nat):Option (Nat×List T):=
 match e with
 |⟨g',.cells cs _ false⟩=>if g'=g∧off+len*sz≤cs.length then some (len,(cs.drop off).take (len*sz))else none
 |_=>none
def C4(lh:aQ aA)(k:Nat)(e:aA)(g off len sz jt bytes:Nat)(p:Nat×List T):Option (T×aQ aA):=
 match e with
 |⟨g',.cells cs wm false⟩=>if jt=sz∧off=0∧(len+p.1)*bytes≤roomy∧g'=g∧len*sz=cs.length then some (.isl .L k (g+1) 0 (len+p.1) sz,gh lh k ⟨g+1,.cells (cs++p.2) wm false⟩)else none
 |_=>none
def oZ(lh:aQ aA)(d sz bytes:Nat)(s:T)(p:Nat×List T):Option (T×aQ aA):=
 if p.1=0 then(match s with| .nilsl| .sl .. | .isl .. =>some (s,lh)|_=>none)else
 match s with
 | .nilsl=>if p.1*bytes≤roomy then some (.isl .L d ((aE lh d).g+1) 0 p.1 sz,gh lh d ⟨(aE lh d).g+1,.cells p.2 0 false⟩)else none
 | .sl cs len true=>if cs.length=len*sz∧(len+p.1)*bytes≤roomy then some (.isl .L d ((aE lh d).g+1) 0 (len+p.1) sz,gh lh d ⟨(aE lh d).g+1,.cells (cs++p.2) 0 false⟩)else none
 | .isl .L k g off len jt=>C4 lh k (aE lh k) g off len sz jt bytes p
 |_=>none
def NF(k g off len sz jt bytes:Nat)(p:Nat×List T)(e:aA):Q sL:=
     if e.g=g then match e.ob with
      | .cells cs wm false=>if len*sz=cs.length then .ret (.val (.isl .L k (g+1) 0 (len+p.1) sz) [(.L,k,⟨g+1,.cells (cs++p.2) wm false⟩)])else .fail
      |_=> .fail
     else .fail
theorem Y1{k g off len sz jt bytes:Nat}{p:Nat×List T}(e:aA)(h1:jt=sz∧off=0∧(len+p.1)*bytes≤roomy):
  ((iz (Q.run (St.mk .nil lh sh).get sh.length (NF k g off len sz jt bytes p e))).bind fun r=>aq E call n os {(St.mk fr lh sh).ups r.2 with fr:=cS fr d r.1})=
    (C4 lh k e g off len sz jt bytes p).bind fun q=>aq E call n os ⟨cS fr d q.1,q.2,sh⟩:=by
 obtain⟨g',ob⟩:=e
 unfold NF C4
 by_cases hg:g'=g
 ·cases ob with
  |cells cs wm bx=>
   cases bx
   ·by_cases hl:len*sz=cs.length
    ·simp only[hg,hl,if_true,Q.run,iz,h1,and_self,Option.bind_some]
     rfl
    ·simp only[hg,hl,if_true,if_false,Q.run,iz,and_false];rfl
   ·simp only[hg,if_true,Q.run,iz];rfl
  |_=>simp only[hg,if_true,Q.run,iz];rfl
 ·cases ob with
  |cells cs wm bx=>
   cases bx
   ·simp only[hg,if_false,Q.run,iz,false_and,and_false];rfl
   ·simp only[hg,if_false,Q.run,iz];rfl
  |_=>simp only[hg,if_false,Q.run,iz];rfl
theorem TZ{sz bytes:Nat}{s x:aZ}(hd:d<n)(hs: ∀k g off len sz,rd fr s≠ .isl .S k g off len sz):aq E call n (⟨some d,.app sz bytes s x false false,none⟩::os) ⟨fr,lh,sh⟩=
  (slC lh sh sz (rd fr x)).bind fun p=>(oZ lh d sz bytes (rd fr s) p).bind fun q=>aq E call n os ⟨cS fr d q.1,q.2,sh⟩:=by
 rw[k5 (by rfl) (show xA n (some d)from hd)]
 unfold one slC
 simp only[bC,iv,bI,jN]
 cases hx:(bL sz (rd fr x)).run (St.mk .nil lh sh).get sh.length with
 |none=>rfl
 |some p=>
  simp only[Option.bind_some]
  unfold oZ
  by_cases hp:p.1=0
  ·simp only[if_pos hp]
   cases Bz:rd fr s <;> rfl
  ·simp only[if_neg hp]
   cases Bz:rd fr s <;> try rfl
   ·simp only[]
    split <;> rfl
   ·rename_i cs len ex
    cases ex
    ·rfl
    ·simp only[Bool.and_eq_true,decide_eq_true_eq]
     split <;> rfl
   ·rename_i sp k g off len jt
    cases sp
    ·simp only[Bool.and_eq_true,decide_eq_true_eq]
     by_cases h1:(jt=sz∧off=0)∧(len+p.1)*bytes≤roomy
     ·simp only[if_pos h1]
      exact Y1 (aE lh k) ⟨h1.1.1,h1.1.2,h1.2⟩
     ·simp only[if_neg h1,Q.run,iz]
      unfold C4
      split
      ·rw[if_neg (by rintro⟨a,b,c,_⟩;exact h1 ⟨⟨a,b⟩,c⟩)]
       rfl
      ·rfl
    ·exact absurd Bz (hs _ _ _ _ _)
def mS(sz:Nat)(x:T)(l h:Nat):Option T:=
 match x with
 | .nilsl=>if l=0∧h=0 then some .nilsl else none
 | .sl cs len ex=>if l≤h∧h≤len∧cs.length=len*sz then some (.sl ((cs.drop (l*sz)).take ((h-l)*sz)) (h-l) (ex&&decide (h=len)))else none
 | .isl sp k g off len jt=>if l≤h∧h≤len∧jt=sz then some (if l=h then .sl [] 0 false else .isl sp k g (off+l*sz) (h-l) sz)else none
 |_=>none
def nV(fr:Fr)(sz:Nat)(x:T)(l h:Option aZ):Option T:=
 (jH x).bind fun m=>(bk (rd fr) 0 l).bind fun l=>(bk (rd fr) m h).bind fun h=>mS sz x l h
theorem C5{sz l h nx:Nat}{x:T}{hp:Sp→Nat→aA}:(pH sz x l h).run hp nx=mS sz x l h:=by
 unfold pH mS
 cases x <;> try rfl
 ·simp only[Bool.and_eq_true,decide_eq_true_eq];split <;> rfl
 ·simp only[Bool.and_eq_true,decide_eq_true_eq,and_assoc];split <;> rfl
 ·simp only[Bool.and_eq_true,decide_eq_true_eq,and_assoc];split <;> rfl
theorem T0{sz:Nat}{x:aZ}{l h:Option aZ}(hd:d<n):aq E call n (⟨some d,.slV sz x l h none,none⟩::os) ⟨fr,lh,sh⟩=(nV fr sz (rd fr x) l h).bind fun v=>aq E call n os ⟨cS fr d v,lh,sh⟩:=by
 refine dL (d:=some d) (by rfl) hd ?_
 unfold one nV
 simp only[bC]
 cases jH (rd fr x)with
 |none=>rfl
 |some m=>
  simp only[Option.bind_some]
  cases bk (rd fr) 0 l with
  |none=>rfl
  |some l=>
   cases bk (rd fr) m h with
   |none=>rfl
   |some h=>
    simp only[bI,C5,Option.bind_some]
    cases mS sz (rd fr x) l h <;> rfl
def T1(e:aA)(g:Nat)(ek:EK)(k z:T)(ok:Bool):Option T:=
 match e with
 |⟨g',.map ks vs _⟩=>if g'=g then k8 ek ks vs k z ok else none
 |_=>none
def C6(lh:aQ aA)(sh:List aA)(ek:EK)(m k z:T)(ok:Bool):Option T:=
 match m with
 | .nilmp=>if isKey ek k=true then some (if ok=true then .tup [z,.b false]else z)else none
 | .vm ks vs=>k8 ek ks vs k z ok
 | .mp .L kk g=>T1 (aE lh kk) g ek k z ok
 | .mp .S kk g=>T1 (ch sh kk) g ek k z ok
 |_=>none
theorem lkQ{h:Sp→Nat→aA}{nx g:Nat}{ek:EK}{k z:T}{ok:Bool}(e:aA):iz (Q.run h nx (if e.g=g then(match e.ob with| .map ks vs _=>val (k8 ek ks vs k z ok)|_=> .fail)else .fail))=(T1 e g ek k z ok).map fun v=>(v,[]):=by
 obtain⟨g',ob⟩:=e
 unfold T1
 by_cases hg:g'=g
 ·cases ob <;> simp only[hg,if_true] <;> first|rfl|exact iG
 ·cases ob <;> simp only[hg,if_false] <;> rfl
theorem Y2{ek:EK}{m k:aZ}{z:T}{ok:Bool}(hd:d<n):aq E call n (⟨some d,.lk ek m k z ok,none⟩::os) ⟨fr,lh,sh⟩=(C6 lh sh ek (rd fr m) (rd fr k) z ok).bind fun v=>aq E call n os ⟨cS fr d v,lh,sh⟩:=by
 refine dL (d:=some d) (by rfl) hd ?_
 unfold one C6
 simp only[bC]
 cases hm:rd fr m <;> try rfl
 ·simp only[];split <;> rfl
 ·exact iG
 ·rename_i sp kk g
  cases sp
  ·exact lkQ (aE lh kk)
  ·exact lkQ (ch sh kk)
def muE(lh:aQ aA)(kk:Nat)(e:aA)(g:Nat)(ek:EK)(k v:T):Option (aQ aA):=
 match e with
 |⟨g',.map ks vs false⟩=>if g'=g∧isKey ek k=true then(nl ek k v ks vs).map fun q=>gh lh kk ⟨g,.map q.1 q.2 false⟩else none
 |_=>none
def dH(z:List T)(len:Nat)(is:List Nat)(vs:List T):Option T:=
 if(vs.all fun v=>(cellsOf v).length=z.length&&noTup v)=true then(aF (repl z len) ((is.map fun i=>i*z.length).zip (vs.map cellsOf))).map fun cs=> .sl cs len true else none
theorem T2{z:List T}{len:Nat}{ps:List (Nat×aZ)}(hd:d<n):aq E call n (⟨some d,.bsl z len ps,none⟩::os) ⟨fr,lh,sh⟩=
  (ni lh sh false (ps.map fun p=>rd fr p.2)).bind fun q=>(dH z len (ps.map (·.1)) q.1).bind fun v=>aq E call n os {(St.mk fr lh sh).ups q.2 with fr:=cS fr d v}:=by
 rw[k5 (by rfl) (show xA n (some d)from hd)]
 unfold one ni dH
 simp only[bC,bI,jN]
 cases (bl (fz false aM) (ps.map fun p=>rd fr p.2)).run (St.mk .nil lh sh).get sh.length with
 |none=>rfl
 |some q=>
  simp only[Option.bind_some]
  have e:(ps.map (·.1)).map (fun i=>i*z.length)=ps.map fun p=>p.1*z.length:=by rw[List.map_map];rfl
  rw[e]
  split
  ·cases aF (repl z len) ((ps.map fun p=>p.1*z.length).zip (q.1.map cellsOf)) <;> rfl
  ·rfl
theorem F6{d:Option Nat}{op:k7}{f:Nat}{args:List T}(hc:bq (rd fr) op=some (some (f,args)))(hd:xA n d):
  aq E call n (⟨d,op,none⟩::os) ⟨fr,lh,sh⟩=(ar E call (d.getD 0) ⟨fr,lh,sh⟩ f args).bind fun r=>aq E call n os ⟨mA fr d r.1,r.2.lh,r.2.sh⟩:=by
 simp only[aq,bg,dA,hc]
 cases ar E call (d.getD 0) ⟨fr,lh,sh⟩ f args with
 |none=>rfl
 |some r=>
  simp only[Option.bind_some]
  cases d with
  |none=>rfl
  |some d=>simp only[eX,if_pos (show d<n from hd),mA,Option.map_some]
theorem PE{f:Nat}{as:List aZ}(hd:d<n):aq E call n (⟨some d,.callf f as,none⟩::os) ⟨fr,lh,sh⟩=(ar E call d ⟨fr,lh,sh⟩ f (as.map (rd fr))).bind fun r=>aq E call n os ⟨cS fr d r.1,r.2.lh,r.2.sh⟩:=
 F6 (d:=some d) rfl hd
def fV(E:Env)(call:jk)(d:Nat)(st:St)(f:T)(args:List T):Option (T×St):=
 match f with
 | .fn f a c=>ar E call d st f (a++args++c)
 |_=>none
theorem JI{f:aZ}{as:List aZ}(hd:d<n):aq E call n (⟨some d,.callv f as,none⟩::os) ⟨fr,lh,sh⟩=(fV E call d ⟨fr,lh,sh⟩ (rd fr f) (as.map (rd fr))).bind fun r=>aq E call n os ⟨cS fr d r.1,r.2.lh,r.2.sh⟩:=by
 unfold fV
 cases hf:rd fr f with
 |fn f' a c=>exact F6 (d:=some d) (by simp only[bq,hf]) hd
 |_=>simp only[aq,bg,dA,bq,hf];rfl
theorem ff{dd:Nat}{af:aC}{f:Nat}{args:List T}(hf:E.fn f=some af)(he:af.eff=false)(hw:af.own=none):ar E call dd ⟨fr,lh,sh⟩ f args=
  (ni lh sh false args).bind fun q=>(call f q.1 []).bind fun r=>some (r.1,if scalar r.1=true then⟨fr,lh,sh⟩else(St.mk fr lh sh).ups q.2):=by
 unfold ar ni
 simp only[hf,he,hw,jN]
 cases (bl (fz false aM) args).run (St.mk .nil lh sh).get sh.length with
 |none=>rfl
 |some q=>
  simp only[Bool.false_eq_true,if_false,Option.bind_some]
  cases call f q.1 [] <;> rfl
theorem aw{dd:Nat}{af:aC}{f:Nat}{args:List T}(hf:E.fn f=some af)(he:af.eff=false)(hw:af.own=none)(hz:args.all froz=true):ar E call dd ⟨fr,lh,sh⟩ f args=
  (call f args []).bind fun r=>some (r.1,⟨fr,lh,sh⟩):=by
 rw[ff hf he hw,nU hz]
 simp only[Option.bind_some,qD,ite_self]
theorem F7{dd:Nat}{af:aC}{f j:Nat}{args:List T}(hf:E.fn f=some af)(he:af.eff=false)(hw:af.own=some j):ar E call dd ⟨fr,lh,sh⟩ f args=
  (ni lh sh false args).bind fun q=>(call f q.1 []).bind fun r=>ig dd j r.1 ⟨fr,lh,sh⟩ q.2:=by
 unfold ar ni
 simp only[hf,he,hw,jN]
 cases (bl (fz false aM) args).run (St.mk .nil lh sh).get sh.length with
 |none=>rfl
 |some q=>
  simp only[Bool.false_eq_true,if_false,Option.bind_some]
  cases call f q.1 [] <;> rfl
theorem CD{dd:Nat}{af:aC}{f j:Nat}{args:List T}(hf:E.fn f=some af)(he:af.eff=false)(hw:af.own=some j)(hz:args.all froz=true):ar E call dd ⟨fr,lh,sh⟩ f args=
  (call f args []).bind fun r=>ig dd j r.1 ⟨fr,lh,sh⟩ []:=by
 rw[F7 hf he hw,nU hz]
 rfl
theorem ER{dd:Nat}{af:aC}{f:Nat}{args:List T}(hf:E.fn f=some af)(he:af.eff=true):ar E call dd ⟨fr,lh,sh⟩ f args=
  (ni lh sh true args).bind fun q=>(call f q.1 ((St.mk fr lh sh).ups q.2).sh).bind fun r=>some (r.1,{(St.mk fr lh sh).ups q.2 with sh:=r.2}):=by
 unfold ar ni
 simp only[hf,he,jN]
 cases (bl (fz true aM) args).run (St.mk .nil lh sh).get sh.length with
 |none=>rfl
 |some q=>
  simp only[if_true,Option.bind_some]
  cases call f q.1 ((St.mk fr lh sh).ups q.2).sh <;> rfl
theorem F8{dd:Nat}{g:List T→Option T}{f:Nat}{args:List T}(hf:E.fn f=none)(he:E.ext f=some g):ar E call dd ⟨fr,lh,sh⟩ f args=
  (ni lh sh false args).bind fun q=>(g q.1).bind fun r=>some (r,⟨fr,lh,sh⟩):=by
 unfold ar ni
 simp only[hf,he,jN]
 cases (bl (fz false aM) args).run (St.mk .nil lh sh).get sh.length with
 |none=>rfl
 |some q=>
  simp only[Option.bind_some]
  cases g q.1 <;> rfl
theorem xB{dd:Nat}{g:List T→Option (List T×Option Nat)}{f:Nat}{args:List T}(hf:E.fn f=none)(he:E.ext f=none)(hw:E.wr f=some g):ar E call dd ⟨fr,lh,sh⟩ f args=kS g ⟨fr,lh,sh⟩ args:=by
 unfold ar
 simp only[hf,he,hw]
theorem F9{d:Option Nat}{op:k7}{j:Nat}{w:Bool}(h:an fr j= .b w):aq E call n (⟨d,op,some (j,w)⟩::os) ⟨fr,lh,sh⟩=aq E call n (⟨d,op,none⟩::os) ⟨fr,lh,sh⟩:=by
 simp only[aq,bg,h,if_true]
theorem zP{d:Option Nat}{op:k7}{j:Nat}{w:Bool}(hd:xA n d)(h:an fr j= .b (!w)):aq E call n (⟨d,op,some (j,w)⟩::os) ⟨fr,lh,sh⟩=aq E call n os ⟨mA fr d bm,lh,sh⟩:=by
 simp only[aq,bg,h]
 rw[if_neg (by cases w <;> simp)]
 cases d with
 |none=>rfl
 |some d=>simp only[eX,if_pos (show d<n from hd),mA,Option.map_some]
theorem BB{d:Option Nat}{op:k7}{j:Nat}{w:Bool}(hd:xA n d)(h:an fr j=bm):aq E call n (⟨d,op,some (j,w)⟩::os) ⟨fr,lh,sh⟩=aq E call n os ⟨mA fr d bm,lh,sh⟩:=by
 simp only[aq,bg,h,bm]
 cases d with
 |none=>rfl
 |some d=>simp only[eX,if_pos (show d<n from hd),mA,Option.map_some]
def onB{α:Type}(t:T)(f:Bool→Option α):Option α:=match t with| .b x=>f x|_=>none
theorem aaJ{α:Type}{x:Bool}{f:Bool→Option α}:onB (.b x) f=f x:=rfl
theorem T3{bo:List FP}{st:St}:aH E call n [] bo st=some st:=rfl
end
section
variable{E:Env}{n:Nat}{fr:Fr}{lh:aQ aA}{sh:List aA}
def Ga(t:T)(x y:Option (Out×St)):Option (Out×St):=match t with| .b c=>if c=true then x else y|_=>none
theorem V4{c:Bool}{x y:Option (Out×St)}:Ga (.b c) x y=if c=true then x else y:=rfl
theorem Gb{c:aZ}{a b:ba}:DC E n (.cond c a b) ⟨fr,lh,sh⟩=Ga (rd fr c) (DC E n a ⟨fr,lh,sh⟩) (DC E n b ⟨fr,lh,sh⟩):=by
 rw[Jt,dA]
 unfold Ga
 cases h:rd fr c <;> try rfl
 rename_i x
 cases x <;> rfl
theorem andThen_ite{c:Prop}[Decidable c]{x y:Option (Out×St)}{f:St→Option (Out×St)}:andThen (if c then x else y) f=if c then andThen x f else andThen y f:=by split <;> rfl
theorem JJ{α β:Type}{c:Prop}[Decidable c]{x y:Option α}{f:α→β}:(if c then x else y).map f=if c then x.map f else y.map f:=by split <;> rfl
def pa(fr:Fr)(lh:aQ aA)(sh:List aA):List qo→Option (List T)
 | []=>some []
 | .tmp t::rs=>(pa fr lh sh rs).map fun vs=>an fr t::vs
 | .cell t m ag::rs=>(IH lh sh (an fr t) m ag).bind fun v=>(pa fr lh sh rs).map fun vs=>v::vs
theorem j1: ∀rs,eC ⟨fr,lh,sh⟩ rs=pa fr lh sh rs
 | []=>rfl
 | .tmp t::rs=>by
   rw[eC,pa,j1 rs]
   simp only[wM]
   cases pa fr lh sh rs <;> rfl
 | .cell t m ag::rs=>by
   rw[eC,pa,j1 rs]
   simp only[wM,Bw]
   cases IH lh sh (an fr t) m ag <;> cases pa fr lh sh rs <;> rfl
def zQ(lh:aQ aA)(sh:List aA)(eff:Bool)(vs:List T):Option (T×List aA):=
 (fzV lh sh eff (match vs with| [v]=>v|vs=> .tup vs)).map fun p=>(p.1,((St.mk .nil lh sh).ups p.2).sh)
theorem pb{eff:Bool}{vs:List T}:answer eff vs ⟨fr,lh,sh⟩=zQ lh sh eff vs:=by
 unfold answer zQ fzV
 rw[jN]
 cases (fz eff aM (match vs with| [v]=>v|vs=> .tup vs)).run (St.mk .nil lh sh).get sh.length with
 |none=>rfl
 |some p=>simp only[Option.map_some];rw[iJ]
end
def II(os:List aJ):List Nat:=os.filterMap (·.d)
def sJ:ba→List Nat
 | .region ops=>II ops
 | .draws ops=>II (ops.map (·.2))
 | .seq a b=>sJ a++sJ b
 | .cond _ a b=>sJ a++sJ b
 | .block _ a=>sJ a
 | .loop a=>sJ a
 |_=> []
theorem l7{fr g7:Fr}{n:Nat}{d:Option Nat}{v:T}(h:eX fr n d v=some g7){s:Nat}(hs:some s≠d):an g7 s=an fr s:=by
 cases d with
 |none=>simp[eX]at h;rw[h]
 |some d=>
  simp only[eX]at h
  split at h
  ·cases h;exact F2 _ _ (by intro e;exact hs (by rw[e]))
  ·cases h
theorem p5{E:Env}{call:jk}{n:Nat}{o:aJ}{st bn:St}(h:bg E call n o st=some bn){s:Nat}(hs:some s≠o.d):an bn.fr s=an st.fr s:=by
 have key: ∀bn,(match bq st.rho o.op with
  |some (some cc)=>match ar E call (o.d.getD 0) st cc.1 cc.2 with
   |some r=>(eX st.fr n o.d r.1).map fun fr=>{r.2 with fr}
   |none=>none
  |some none=>none
  |none=>match(bC (o.d.getD 0) st.rho o.op).run st.get st.sh.length with
   |some (.val v ups)=>(eX st.fr n o.d v).map fun fr=>{st.ups ups with fr}
   |none=>none)=some bn→an bn.fr s=an st.fr s:=by
  intro bn hh
  split at hh
  ·split at hh
   ·simp only[Option.map_eq_some_iff]at hh
    obtain⟨fr,h1,rfl⟩:=hh
    exact l7 h1 hs
   ·cases hh
  ·cases hh
  ·split at hh
   ·simp only[Option.map_eq_some_iff]at hh
    obtain⟨fr,h1,rfl⟩:=hh
    exact l7 h1 hs
   ·cases hh
 unfold bg at h
 simp only[]at h
 split at h
 ·exact key _ h
 ·split at h
  ·split at h
   ·exact key _ h
   ·simp only[Option.map_eq_some_iff]at h
    obtain⟨fr,h1,rfl⟩:=h
    exact l7 h1 hs
  ·simp only[Option.map_eq_some_iff]at h
   obtain⟨fr,h1,rfl⟩:=h
   exact l7 h1 hs
theorem rN{E:Env}{call:jk}{n:Nat}: ∀(os:List aJ) {st bn:St},aq E call n os st=some bn→ ∀s,s∉II os→an bn.fr s=an st.fr s
 | [],st,bn,h,s,_=>by cases h;rfl
 |o::os,st,bn,h,s,hs=>by
  simp only[aq]at h
  cases ho:bg E call n o st with
  |none=>simp only[ho]at h;cases h
  |some s1=>
   simp only[ho]at h
   have h1:s∉II os:=fun hm=>hs (by
    unfold II at hm ⊢
    rw[List.filterMap_cons]
    split
    ·exact hm
    ·exact List.mem_cons_of_mem _ hm)
   have h2:some s≠o.d:=fun he=>hs (by
    unfold II
    rw[List.filterMap_cons]
    rw[←he]
    exact List.mem_cons_self)
   rw[rN os h s h1,p5 ho h2]
theorem p6{E:Env}{call:jk}{n:Nat}: ∀(os:List (List Nat×aJ)) {bo:List FP} {st bn:St},aH E call n os bo st=some bn→ ∀s,s∉II (os.map (·.2))→an bn.fr s=an st.fr s
 | [],bo,st,bn,h,s,_=>by cases h;rfl
 |(u,o)::os,bo,st,bn,h,s,hs=>by
  simp only[aH]at h
  split at h
  ·cases h
  ·split at h
   ·cases ho:bg E call n o st with
    |none=>simp only[ho]at h;cases h
    |some s1=>
     simp only[ho]at h
     have h1:s∉II (os.map (·.2)):=fun hm=>hs (by
      unfold II at hm ⊢
      rw[List.map_cons,List.filterMap_cons]
      split
      ·exact hm
      ·exact List.mem_cons_of_mem _ hm)
     have h2:some s≠o.d:=fun he=>hs (by
      unfold II
      rw[List.map_cons,List.filterMap_cons]
      rw[←he]
      exact List.mem_cons_self)
     rw[p6 os h s h1,p5 ho h2]
   ·cases h
theorem tL{f:St→Option (Out×St)}{s:Nat}(hf: ∀st r,f st=some r→an r.2.fr s=an st.fr s): ∀(k:Nat) {st:St} {r:Out×St},iter f k st=some r→an r.2.fr s=an st.fr s
 |0,st,r,h=>by simp[iter]at h
 |k+1,st,r,h=>by
  simp only[iter]at h
  cases hh:f st with
  |none=>rw[hh]at h;cases h
  |some p=>
   rw[hh]at h
   obtain⟨o,s1⟩:=p
   have h1:=hf _ _ hh
   cases o with
   |nrm=>rw[tL hf k h];exact h1
   |ext id=>cases h;exact h1
   |ret=>cases h;exact h1
theorem iX{E:Env}{call:jk}{fl n:Nat}: ∀(code:ba) {st:St} {r:Out×St},eZ E call fl n code st=some r→ ∀s,s∉sJ code→an r.2.fr s=an st.fr s
 | .skip,st,r,h,s,_=>by cases h;rfl
 | .region ops,st,r,h,s,hs=>by
   simp only[eZ,Option.map_eq_some_iff]at h
   obtain⟨a,h1,rfl⟩:=h
   exact rN ops h1 s hs
 | .draws ops,st,r,h,s,hs=>by
   simp only[eZ,Option.map_eq_some_iff]at h
   obtain⟨a,h1,rfl⟩:=h
   exact p6 ops h1 s hs
 | .seq a b,st,r,h,s,hs=>by
   simp only[sJ,List.mem_append,not_or]at hs
   simp only[eZ]at h
   cases ha:eZ E call fl n a st with
   |none=>rw[ha]at h;cases h
   |some p=>
    rw[ha]at h
    obtain⟨o,s1⟩:=p
    have h1:=iX a ha s hs.1
    cases o with
    |nrm=>rw[iX b h s hs.2];exact h1
    |ext id=>cases h;exact h1
    |ret=>cases h;exact h1
 | .cond x a b,st,r,h,s,hs=>by
   simp only[sJ,List.mem_append,not_or]at hs
   simp only[eZ]at h
   split at h
   ·exact iX a h s hs.1
   ·exact iX b h s hs.2
   ·cases h
 | .block id a,st,r,h,s,hs=>by
   simp only[eZ]at h
   cases ha:eZ E call fl n a st with
   |none=>rw[ha]at h;cases h
   |some p=>
    rw[ha]at h
    obtain⟨o,s1⟩:=p
    have h1:=iX a ha s hs
    cases o with
    |nrm=>cases h;exact h1
    |ext A4=>
     simp only[]at h
     split at h <;> (cases h;exact h1)
    |ret=>cases h;exact h1
 | .loop a,st,r,h,s,hs=>by
   simp only[eZ]at h
   exact tL (fun st r hh=>iX a hh s hs) fl h
 | .exit id,st,r,h,s,_=>by cases h;rfl
 | .ret,st,r,h,s,_=>by cases h;rfl
theorem JK{E:Env}{n:Nat}{code:ba}{st bn:St}{o:Out}(h:DC E n code st=some (o,bn))(s:Nat)(hs:(sJ code).contains s=false):an bn.fr s=an st.fr s:=by
 obtain⟨m,hm⟩:=cR.1 h
 exact iX code hm s (by intro hc;simp[hc]at hs)
end Go.Ev
namespace Go.Ev
open Go
def Q.calm:Q sL→Prop
 | .ret (.val _ ups)=>ups= []
 | .fail=>True
 | .rd _ _ f=> ∀e,(f e).calm
 | .new _=>False
theorem Q.calm_run{h:Sp→Nat→aA}{nx:Nat}: ∀(q:Q sL),q.calm→ ∀{v:T} {ups:List Up},q.run h nx=some (.val v ups)→ups= []∧q.asks h nx=false
 | .ret (.val _ _),hc,v,ups,hr=>by simp[Q.run]at hr;obtain⟨rfl,rfl⟩:=hr;exact⟨hc,rfl⟩
 | .fail,hc,v,ups,hr=>by simp[Q.run]at hr
 | .rd sp k f,hc,v,ups,hr=>Q.calm_run (f (h sp k)) (hc _) hr
 | .new f,hc,v,ups,hr=>hc.elim
theorem eE{o:Option T}:(val o).calm:=by cases o <;> simp[val,Q.calm]
def aK:k7→Bool
 | .mv _| .pick .. | .bin .. | .eq .. | .un .. | .cvi .. | .mkfn .. | .build .. | .slS .. | .fa .. | .fld .. | .ia .. | .iaA .. | .ixS .. | .ixA .. | .ext .. | .lenS _| .lenV _| .lenC _| .mm .. | .nck _| .ld .. | .lk .. | .lenM _=>true
 | .slV _ _ _ _ none=>true
 |_=>false
theorem vi{d:Nat}{ρ:aZ→T}{op:k7}(h:aK op=true):(bC d ρ op).calm∧bq ρ op=none:=by
 refine⟨?_,by cases op <;> first|rfl|(simp[aK]at h)⟩
 cases op with
 |mv x=>exact rfl
 |pick c a b=>simp only[bC];split <;> simp[Q.calm]
 |bin op x y=>exact eE
 |eq neg k x y=>exact eE
 |un op x=>exact eE
 |cvi k x=>simp only[bC];split <;> simp[Q.calm]
 |mkfn f a c=>exact rfl
 |build z ps=>
  simp only[bC]
  by_cases hb:(ps.all fun p=>decide ((cellsOf (ρ p.2.2)).length=p.2.1)&&noTup (ρ p.2.2))=true
  ·rw[if_pos hb];exact eE
  ·rw[if_neg hb];trivial
 |slS x l h=>
  simp only[bC]
  split
  ·split
   ·split <;> simp[Q.calm]
   ·trivial
  ·trivial
 |fa x off=>
  simp only[bC]
  split
  ·split <;> simp[Q.calm]
  ·exact rfl
  ·trivial
 |fld x off m ag=>
  simp only[bC]
  split
  ·exact eE
  ·trivial
 |ia x ix sz=>
  simp only[bC]
  split
  ·split <;> simp[Q.calm]
  ·split <;> simp[Q.calm]
  ·trivial
 |iaA x ix len sz=>
  simp only[bC]
  split
  ·split <;> simp[Q.calm]
  ·split <;> simp[Q.calm]
  ·trivial
 |ixS x ix=>
  simp only[bC]
  split
  ·split <;> simp[Q.calm]
  ·trivial
 |ixA x ix len sz ag=>
  simp only[bC]
  split
  ·split
   ·exact eE
   ·trivial
  ·trivial
 |ext x j=>
  simp only[bC]
  split
  ·exact eE
  ·trivial
 |lenS x=>simp only[bC];split <;> simp[Q.calm]
 |lenV x=>exact eE
 |lenC m=>exact rfl
 |mm b as=>
  simp only[bC]
  split
  ·exact eE
  ·trivial
 |nck x=>simp only[bC];split <;> simp[Q.calm]
 |ld x m ag=>
  simp only[bC,uO]
  split
  ·rename_i cs _
   cases part cs 0 m ag <;> simp[Q.of,Q.bind,Q.calm]
  ·rename_i g off _
   intro e
   obtain⟨g',ob⟩:=e
   by_cases hg:g'=g
   ·cases ob with
    |cells cs wm bx=>
     simp only[hg,if_true]
     generalize part cs _ m ag=o
     cases o <;> simp[Q.of,Q.bind,Q.calm]
    |_=>simp only[hg,if_true];trivial
   ·simp only[hg,if_false];trivial
  ·trivial
 |lk ek m k z ok=>
  simp only[bC]
  split
  ·split <;> simp[Q.calm]
  ·exact eE
  ·rename_i g _
   intro e
   obtain⟨g',ob⟩:=e
   by_cases hg:g'=g
   ·cases ob with
    |map ks vs z=>simp only[hg,if_true];exact eE
    |_=>simp only[hg,if_true];trivial
   ·simp only[hg,if_false];trivial
  ·trivial
 |lenM x=>
  simp only[bC]
  split
  ·exact rfl
  ·exact rfl
  ·rename_i g _
   intro e
   obtain⟨g',ob⟩:=e
   by_cases hg:g'=g
   ·cases ob with
    |map ks vs z=>simp only[hg,if_true];exact rfl
    |_=>simp only[hg,if_true];trivial
   ·simp only[hg,if_false];trivial
  ·trivial
 |slV sz x l h mx=>
  cases mx with
  |some m=>simp[aK]at h
  |none=>
   simp only[bC]
   split
   ·trivial
   ·split
    ·rename_i l' h' _ _ _
     unfold pH
     split
     ·split <;> simp[Q.bind,Q.calm]
     ·split <;> simp[Q.bind,Q.calm]
     ·split <;> simp[Q.bind,Q.calm]
     ·trivial
    ·rename_i hh;exact absurd hh (by simp)
    ·trivial
 |_=>simp[aK]at h
def Calm(fp:FP):Prop:=fp.all=false∧fp.w= []
theorem zR{x y:FP}(hx:Calm x)(hy:Calm y):apart x y=true:=by
 obtain⟨a,r,w⟩:=x
 obtain⟨a',r',w'⟩:=y
 obtain⟨rfl,rfl⟩:=hx
 obtain⟨rfl,rfl⟩:=hy
 simp[apart,eY]
section
variable{E:Env}{call:jk}{n:Nat}
theorem JL{o:aJ}{st bn:St}(hc:aK o.op=true)(hr:bg E call n o st=some bn): ∃fp,bD E call o st=some fp∧Calm fp:=by
 obtain⟨hq,vb⟩:=vi (d:=o.d.getD 0) (ρ:=st.rho) hc
 have key: ∀bn,(match(bC (o.d.getD 0) st.rho o.op).run st.get st.sh.length with
   |some (.val v ups)=>(eX st.fr n o.d v).map fun fr=>{st.ups ups with fr}
   |none=>none)=some bn→ ∃fp,(match(bC (o.d.getD 0) st.rho o.op).run st.get st.sh.length with
   |some (.val _ ups)=>if((bC (o.d.getD 0) st.rho o.op).asks st.get st.sh.length||lV st ups)=true then some (⟨(bC (o.d.getD 0) st.rho o.op).asks st.get st.sh.length,(bC (o.d.getD 0) st.rho o.op).log st.get st.sh.length,cH ups⟩:FP)else none
   |none=>none)=some fp∧Calm fp:=by
  intro bn h
  cases hh:(bC (o.d.getD 0) st.rho o.op).run st.get st.sh.length with
  |none=>rw[hh]at h;cases h
  |some r=>
   obtain⟨v,ups⟩:=r
   obtain⟨rfl,ha⟩:=Q.calm_run _ hq hh
   refine⟨⟨false,(bC (o.d.getD 0) st.rho o.op).log st.get st.sh.length,[]⟩, ?_,rfl,rfl⟩
   simp only[ha,lV,List.all_nil,Bool.or_true,if_true,cH,List.map_nil]
 unfold bg at hr
 unfold bD
 simp only[vb]at hr ⊢
 cases hg:o.gd with
 |none=>simp only[hg]at hr;exact key _ hr
 |some p=>
  obtain⟨j,want⟩:=p
  simp only[hg]at hr ⊢
  split at hr
  ·rename_i x hx
   by_cases hw:x=want
   ·rw[if_pos hw]at hr ⊢; exact key _ hr
   ·rw[if_neg hw]at hr ⊢; exact⟨cG,rfl,rfl,rfl⟩
  ·exact⟨cG,rfl,rfl,rfl⟩
theorem tM: ∀(ds:List (List Nat×aJ)) (bo:List FP) (st:St),(ds.all fun p=>aK p.2.op&&p.1.all fun i=>decide (i<bo.length+ds.length))=true→(∀fp∈bo,Calm fp)→
  (∀(k:Nat) (u:List Nat) (o:aJ),ds[k]? =some (u,o)→ ∀i∈u,i<bo.length+k)→
  aH E call n ds bo st=aq E call n (ds.map (·.2)) st
 | [],bo,st,_,_,_=>rfl
 |(u,o)::ds,bo,st,h,hf,hi=>by
  simp only[List.all_cons,Bool.and_eq_true]at h
  simp only[aH,List.map_cons,aq]
  cases ho:bg E call n o st with
  |none=>
   cases bD E call o st with
   |none=>rfl
   |some fp=>simp only[ite_self]
  |some s=>
   obtain⟨fp,h1,h2⟩:=JL h.1.1 ho
   simp only[h1]
   have hu:(u.all fun i=>apart (aV ⟨true,[],[]⟩ bo i) fp)=true:=by
    rw[List.all_eq_true]
    intro i Y3
    have:=hi 0 u o rfl i Y3
    have hg:aV ⟨true,[],[]⟩ bo i∈bo:=by
     have: ∀(l:List FP) (j:Nat),j<l.length→aV ⟨true,[],[]⟩ l j∈l:=by
      intro l
      induction l with
      |nil=>intro j hj;simp at hj
      |cons x xs ih=>
       intro j hj
       cases j with
       |zero=>exact List.mem_cons_self
       |succ j=>exact List.mem_cons_of_mem _ (ih j (by simpa using hj))
     exact this bo i (by omega)
    exact zR (hf _ hg) h2
   simp only[hu,if_true]
   refine tM ds (bo++ [fp]) s ?_ ?_ ?_
   ·have h2:=h.2
    rw[List.all_eq_true]at h2 ⊢
    intro p hp
    have:=h2 p hp
    simp only[List.length_append,List.length_cons,List.length_nil]at this ⊢
    rw[Bool.and_eq_true]at this ⊢
    refine⟨this.1, ?_⟩
    have h3:=this.2
    rw[List.all_eq_true]at h3 ⊢
    intro i sX
    have:=h3 i sX
    simp only[decide_eq_true_eq]at this ⊢
    omega
   ·intro fp' hm
    rcases List.mem_append.1 hm with hm|hm
    ·exact hf _ hm
    ·simp at hm;rw[hm];exact h2
   ·intro k u' o' hk i Y3
    have:=hi (k+1) u' o' hk i Y3
    simp only[List.length_append,List.length_cons,List.length_nil]
    omega
def aY:Nat→List (List Nat×aJ)→Bool
 |_,[]=>true
 |k,(u,o)::ds=>aK o.op&&(u.all fun i=>decide (i<k))&&aY (k+1) ds
theorem tN: ∀(ds:List (List Nat×aJ)) (m:Nat),aY m ds=true→(∀(k:Nat) (u:List Nat) (o:aJ),ds[k]? =some (u,o)→aK o.op=true∧ ∀i∈u,i<m+k)
 | [],m,_,k,u,o,hk=>by simp at hk
 |(u0,o0)::ds,m,h,k,u,o,hk=>by
  simp only[aY,Bool.and_eq_true]at h
  cases k with
  |zero=>
   simp at hk
   obtain⟨rfl,rfl⟩:=hk
   refine⟨h.1.1,fun i hi=> ?_⟩
   have:=(List.all_eq_true.1 h.1.2) i hi
   simpa using this
  |succ k=>
   obtain⟨h1,h2⟩:=tN ds (m+1) h.2 k u o (by simpa using hk)
   exact⟨h1,fun i hi=>by have:=h2 i hi;omega⟩
theorem JM{E:Env}{n:Nat}{ds:List (List Nat×aJ)}{st:St}(h:aY 0 ds=true):DC E n (.draws ds) st=(aq E (aa E) n (ds.map (·.2)) st).map fun bn=>(.nrm,bn):=by
 rw[xu]
 congr 1
 have hb:=tN ds 0 h
 refine tM ds [] st ?_ (by simp) (fun k u o hk i hi=>by have:=(hb k u o hk).2 i hi;simpa using this)
 rw[List.all_eq_true]
 intro p hp
 obtain⟨k,hk,he⟩:=List.getElem_of_mem hp
 obtain⟨u,o⟩:=p
 obtain⟨h1,h2⟩:=hb k u o (by rw[List.getElem?_eq_getElem hk,he])
 rw[Bool.and_eq_true]
 refine⟨h1, ?_⟩
 rw[List.all_eq_true]
 intro i hi
 have:=h2 i hi
 simp only[decide_eq_true_eq,List.length_nil]
 omega
end
end Go.Ev
namespace Go.Ev
open Go
def kv(F:St→Option St)(fr:Fr)(lh:aQ aA)(sh:List aA)(d:Nat)(v:Option T):Option St:=v.bind fun v=>F ⟨cS fr d v,lh,sh⟩
def kn(F:St→Option St)(st:St)(v:Option T):Option St:=v.bind fun _=>F st
def ks(F:St→Option St)(fr:Fr)(r:Option (aQ aA×List aA)):Option St:=r.bind fun r=>F ⟨fr,r.1,r.2⟩
def ka(F:St→Option St)(fr:Fr)(sh:List aA)(d:Nat)(r:Option (T×aQ aA)):Option St:=r.bind fun q=>F ⟨cS fr d q.1,q.2,sh⟩
def kc(F:St→Option St)(fr:Fr)(d:Option Nat)(r:Option (T×St)):Option St:=r.bind fun r=>F ⟨mA fr d r.1,r.2.lh,r.2.sh⟩
section
variable{F:St→Option St}{fr:Fr}{lh:aQ aA}{sh:List aA}{d:Nat}{v:T}
theorem JN:kv F fr lh sh d (some v)=F ⟨cS fr d v,lh,sh⟩:=rfl
theorem JO:kv F fr lh sh d none=none:=rfl
theorem PF{c:Prop}[Decidable c]{x y:Option T}:kv F fr lh sh d (if c then x else y)=if c then kv F fr lh sh d x else kv F fr lh sh d y:=by split <;> rfl
theorem JP{st:St}:kn F st (some v)=F st:=rfl
theorem JQ{st:St}:kn F st none=none:=rfl
theorem JR{r:aQ aA×List aA}:ks F fr (some r)=F ⟨fr,r.1,r.2⟩:=rfl
theorem JS:ks F fr none=none:=rfl
theorem PG{c:Prop}[Decidable c]{x y:Option (aQ aA×List aA)}:ks F fr (if c then x else y)=if c then ks F fr x else ks F fr y:=by split <;> rfl
theorem JT{q:T×aQ aA}:ka F fr sh d (some q)=F ⟨cS fr d q.1,q.2,sh⟩:=rfl
theorem JU:ka F fr sh d none=none:=rfl
theorem JV{dd:Option Nat}{r:T×St}:kc F fr dd (some r)=F ⟨mA fr dd r.1,r.2.lh,r.2.sh⟩:=rfl
theorem JW{dd:Option Nat}:kc F fr dd none=none:=rfl
end
def V5:T→Bool
 | .b _=>true
 |_=>false
def Y4:T→Bool
 | .b x=>x
 |_=>false
theorem T6{x:Bool}:V5 (.b x)=true:=nr rfl
theorem T7{x:Bool}:Y4 (.b x)=x:=nr rfl
theorem JX{t:T}(h:V5 t=true):t= .b (Y4 t):=by cases t <;> first|rfl|(simp[V5]at h)
section
variable{E:Env}{call:jk}{n:Nat}{fr:Fr}{lh:aQ aA}{sh:List aA}{os:List aJ}{d:Nat}
theorem PH{c a b:aZ}(hd:d<n):aq E call n (⟨some d,.pick c a b,none⟩::os) ⟨fr,lh,sh⟩=kv (aq E call n os) fr lh sh d (Bu (rd fr c) (rd fr a) (rd fr b)):=Py hd
theorem T8{op:BinOp}{x y:aZ}(hd:d<n):aq E call n (⟨some d,.bin op x y,none⟩::os) ⟨fr,lh,sh⟩=kv (aq E call n os) fr lh sh d (Ev.bin op (rd fr x) (rd fr y)):=TO hd
theorem Y5{neg:Bool}{k:EK}{x y:aZ}(hd:d<n):aq E call n (⟨some d,.eq neg k x y,none⟩::os) ⟨fr,lh,sh⟩=kv (aq E call n os) fr lh sh d ((mO k (rd fr x) (rd fr y)).map fun r=>T.b (r != neg)):=YT hd
theorem Y6{op:UnOp}{x:aZ}(hd:d<n):aq E call n (⟨some d,.un op x,none⟩::os) ⟨fr,lh,sh⟩=kv (aq E call n os) fr lh sh d (Ev.un op (rd fr x)):=YU hd
theorem T9{k:IntKind}{x:aZ}(hd:d<n):aq E call n (⟨some d,.cvi k x,none⟩::os) ⟨fr,lh,sh⟩=kv (aq E call n os) fr lh sh d (Jw k (rd fr x)):=TP hd
theorem JY{z:List T}{ps:List (Nat×Nat×aZ)}(hd:d<n):aq E call n (⟨some d,.build z ps,none⟩::os) ⟨fr,lh,sh⟩=kv (aq E call n os) fr lh sh d (aG fr z ps):=Jx hd
theorem Ua{x:aZ}{l h:Option aZ}(hd:d<n):aq E call n (⟨some d,.slS x l h,none⟩::os) ⟨fr,lh,sh⟩=kv (aq E call n os) fr lh sh d (kE fr (rd fr x) l h):=TQ hd
theorem Y7{x:aZ}{off:Nat}(hd:d<n):aq E call n (⟨some d,.fa x off,none⟩::os) ⟨fr,lh,sh⟩=kv (aq E call n os) fr lh sh d (TR (rd fr x) off):=YV hd
theorem Y8{x ix:aZ}{sz:Nat}(hd:d<n):aq E call n (⟨some d,.ia x ix sz,none⟩::os) ⟨fr,lh,sh⟩=kv (aq E call n os) fr lh sh d (tJ (rd fr x) (rd fr ix) sz):=YX hd
theorem Ub{x ix:aZ}(hd:d<n):aq E call n (⟨some d,.ixS x ix,none⟩::os) ⟨fr,lh,sh⟩=kv (aq E call n os) fr lh sh d (zL (rd fr x) (rd fr ix)):=TS hd
theorem Uc{x:aZ}{j:Nat}(hd:d<n):aq E call n (⟨some d,.ext x j,none⟩::os) ⟨fr,lh,sh⟩=kv (aq E call n os) fr lh sh d (Jy (rd fr x) j):=TT hd
theorem PI{x:aZ}(hd:d<n):aq E call n (⟨some d,.lenS x,none⟩::os) ⟨fr,lh,sh⟩=kv (aq E call n os) fr lh sh d (Bv (rd fr x)):=PA hd
def lenI(x:T):Option T:=match jH x with|some m=>some (.i .i64 ((m:Nat):Int))|none=>none
theorem JZ{x:T}{m:Nat}(h:jH x=some m):lenI x=some (.i .i64 (m:Int)):=by unfold lenI;rw[h]
theorem PJ{x:aZ}(hd:d<n):aq E call n (⟨some d,.lenV x,none⟩::os) ⟨fr,lh,sh⟩=kv (aq E call n os) fr lh sh d (lenI (rd fr x)):=by
 rw[PB hd]
 unfold kv lenI
 cases jH (rd fr x) <;> rfl
theorem Y9{isMax:Bool}{args:List aZ}(hd:d<n):aq E call n (⟨some d,.mm isMax args,none⟩::os) ⟨fr,lh,sh⟩=kv (aq E call n os) fr lh sh d (mR isMax (args.map (rd fr))):=YY hd
theorem Ud{x:aZ}(hd:d<n):aq E call n (⟨some d,.nck x,none⟩::os) ⟨fr,lh,sh⟩=kv (aq E call n os) fr lh sh d (zM (rd fr x)):=TU hd
theorem Za{x:aZ}{m:Nat}{ag:Bool}(hd:d<n):aq E call n (⟨some d,.ld x m ag,none⟩::os) ⟨fr,lh,sh⟩=kv (aq E call n os) fr lh sh d (IH lh sh (rd fr x) m ag):=YZ hd
theorem Ue{sz:Nat}{x:aZ}{l h:Option aZ}(hd:d<n):aq E call n (⟨some d,.slV sz x l h none,none⟩::os) ⟨fr,lh,sh⟩=kv (aq E call n os) fr lh sh d (nV fr sz (rd fr x) l h):=T0 hd
theorem Zb{ek:EK}{m k:aZ}{z:T}{ok:Bool}(hd:d<n):aq E call n (⟨some d,.lk ek m k z ok,none⟩::os) ⟨fr,lh,sh⟩=kv (aq E call n os) fr lh sh d (C6 lh sh ek (rd fr m) (rd fr k) z ok):=Y2 hd
def rO(lh:aQ aA)(d:Nat)(z:List T)(x:T)(bytes:Nat):Option (T×aQ aA):=
 (vg x bytes).map fun m=>(.isl .L d ((aE lh d).g+1) 0 m z.length,gh lh d ⟨(aE lh d).g+1,.cells (repl z m) 0 false⟩)
theorem PK{z:List T}{bytes:Nat}{x:aZ}(hd:d<n):aq E call n (⟨some d,.mksl z bytes x false,none⟩::os) ⟨fr,lh,sh⟩=ka (aq E call n os) fr sh d (rO lh d z (rd fr x) bytes):=by
 rw[PD hd];unfold rO ka;cases vg (rd fr x) bytes <;> rfl
theorem Zc{x v:aZ}{m:Nat}:aq E call n (⟨none,.st x v m,none⟩::os) ⟨fr,lh,sh⟩=ks (aq E call n os) fr (tK lh sh (rd fr x) (rd fr v) m):=Y0
def appW(lh:aQ aA)(sh:List aA)(d sz bytes:Nat)(s x:T):Option (T×aQ aA):=(slC lh sh sz x).bind (oZ lh d sz bytes s)
def notS:T→Bool
 | .isl .S .. =>false
 | .mp .S .. =>false
 |_=>true
theorem Uf{sz bytes:Nat}{s x:aZ}(hd:d<n)(hs:notS (rd fr s)=true):aq E call n (⟨some d,.app sz bytes s x false false,none⟩::os) ⟨fr,lh,sh⟩=ka (aq E call n os) fr sh d (appW lh sh d sz bytes (rd fr s) (rd fr x)):=by
 rw[TZ hd (fun k g off len sz he=>by rw[he]at hs;simp[notS]at hs)]
 unfold appW ka
 cases slC lh sh sz (rd fr x) <;> rfl
def dQ(lh:aQ aA)(sh:List aA)(z:List T)(len:Nat)(is:List Nat)(vs:List T):Option (T×St):=
 (ni lh sh false vs).bind fun q=>(dH z len is q.1).map fun v=>(v,(St.mk .nil lh sh).ups q.2)
theorem Ug{z:List T}{len:Nat}{ps:List (Nat×aZ)}(hd:d<n):aq E call n (⟨some d,.bsl z len ps,none⟩::os) ⟨fr,lh,sh⟩=kc (aq E call n os) fr (some d) (dQ lh sh z len (ps.map (·.1)) (ps.map fun p=>rd fr p.2)):=by
 rw[T2 hd]
 unfold kc dQ
 cases ni lh sh false (ps.map fun p=>rd fr p.2)with
 |none=>rfl
 |some q=>
  simp only[Option.bind_some]
  cases dH z len (ps.map (·.1)) q.1 with
  |none=>rfl
  |some v=>simp only[Option.bind_some,Option.map_some,mA];rw[iJ q.2 lh sh]
theorem PL{f:Nat}{as:List aZ}(hd:d<n):aq E call n (⟨some d,.callf f as,none⟩::os) ⟨fr,lh,sh⟩=kc (aq E call n os) fr (some d) (ar E call d ⟨fr,lh,sh⟩ f (as.map (rd fr))):=PE hd
theorem J0{f:aZ}{as:List aZ}(hd:d<n):aq E call n (⟨some d,.callv f as,none⟩::os) ⟨fr,lh,sh⟩=kc (aq E call n os) fr (some d) (fV E call d ⟨fr,lh,sh⟩ (rd fr f) (as.map (rd fr))):=JI hd
theorem J1{dd:Option Nat}{op:k7}{j:Nat}(h:an fr j= .b true):aq E call n (⟨dd,op,some (j,true)⟩::os) ⟨fr,lh,sh⟩=aq E call n (⟨dd,op,none⟩::os) ⟨fr,lh,sh⟩:=F9 h
theorem J2{dd:Option Nat}{op:k7}{j:Nat}(h:an fr j= .b false):aq E call n (⟨dd,op,some (j,false)⟩::os) ⟨fr,lh,sh⟩=aq E call n (⟨dd,op,none⟩::os) ⟨fr,lh,sh⟩:=F9 h
theorem J3{op:k7}{j:Nat}(hd:d<n)(h:an fr j= .b false):aq E call n (⟨some d,op,some (j,true)⟩::os) ⟨fr,lh,sh⟩=aq E call n os ⟨cS fr d bm,lh,sh⟩:=zP (d:=some d) hd h
theorem J4{op:k7}{j:Nat}(hd:d<n)(h:an fr j= .b true):aq E call n (⟨some d,op,some (j,false)⟩::os) ⟨fr,lh,sh⟩=aq E call n os ⟨cS fr d bm,lh,sh⟩:=zP (d:=some d) hd h
theorem Gc{op:k7}{j:Nat}{w:Bool}(hd:d<n)(h:an fr j=bm):aq E call n (⟨some d,op,some (j,w)⟩::os) ⟨fr,lh,sh⟩=aq E call n os ⟨cS fr d bm,lh,sh⟩:=BB (d:=some d) hd h
end
section
variable{E:Env}{n:Nat}{fr:Fr}{lh:aQ aA}{sh:List aA}
theorem PM{c:aZ}{a b:ba}(h:V5 (rd fr c)=true):DC E n (.cond c a b) ⟨fr,lh,sh⟩=if Y4 (rd fr c)=true then DC E n a ⟨fr,lh,sh⟩else DC E n b ⟨fr,lh,sh⟩:=by
 rw[Gb,JX h];rfl
def mT(res:List qo)(eff:Bool)(x:Option (Out×St)):Option (T×List aA):=
 match x with
 |some (.ext _,_)=>none
 |some (_,st)=>(eC st res).bind fun vs=>answer eff vs st
 |none=>none
theorem aD{f:Nat}{af:aC}{args:List T}{sh:List aA}(hf:E.fn f=some af)(hn:(af.n<args.length)=False)(hw:af.own=none:=by rfl):
  aa E f args sh=mT af.res af.eff (DC E af.n af.code {fr:=gn args,lh:= .nil,sh}):=by
 rw[xz hf (Nat.le_of_not_lt (of_eq_false hn))]
 generalize DC E af.n af.code {fr:=gn args,lh:= .nil,sh}=x
 unfold F0 mT
 rw[hw]
 cases x with
 |none=>rfl
 |some p=>
  obtain⟨o,st⟩:=p
  cases o with
  |ext id=>rfl
  |nrm=>simp only[];cases eC st af.res <;> rfl
  |ret=>simp only[];cases eC st af.res <;> rfl
def J5(res:List qo)(j:Nat)(x:Option (Out×St)):Option (T×List aA):=
 match x with
 |some (.ext _,_)=>none
 |some (_,st)=>(eC st res).bind fun vs=>ju j vs st
 |none=>none
theorem PN{f:Nat}{af:aC}{args:List T}{sh:List aA}{j:Nat}(hf:E.fn f=some af)(hn:(af.n<args.length)=False)(hw:af.own=some j:=by rfl)(he:af.eff=false:=by rfl):
  aa E f args sh=J5 af.res j (DC E af.n af.code {fr:=gn args,lh:= .nil,sh}):=by
 rw[xz hf (Nat.le_of_not_lt (of_eq_false hn))]
 generalize DC E af.n af.code {fr:=gn args,lh:= .nil,sh}=x
 unfold F0 J5
 rw[hw,he]
 cases x with
 |none=>rfl
 |some p=>
  obtain⟨o,st⟩:=p
  cases o with
  |ext id=>rfl
  |nrm=>simp only[jv,Bool.false_eq_true,if_false];cases eC st af.res <;> rfl
  |ret=>simp only[jv,Bool.false_eq_true,if_false];cases eC st af.res <;> rfl
def zS(lh:aQ aA)(sh:List aA)(j:Nat)(vs:List T):Option (T×List aA):=ju j vs ⟨.nil,lh,sh⟩
theorem zT{j:Nat}{vs:List T}:ju j vs ⟨fr,lh,sh⟩=zS lh sh j vs:=by
 unfold zS ju
 simp only[pb,jN]
 split
 ·rfl
 ·split
  ·rename_i p _
   rw[iJ p.2 lh sh]
   rfl
  ·rfl
 ·rfl
theorem Gd{res:List qo}{j:Nat}:J5 res j (some (.ret,⟨fr,lh,sh⟩))=(pa fr lh sh res).bind (zS lh sh j):=by
 unfold J5
 simp only[j1]
 congr 1
 funext vs
 exact zT
theorem Uh:zS lh sh 0 [.nilsl]=some (.nilsl,sh):=rfl
theorem Rg{k:IntKind}{e:Int}:zS lh sh 0 [.nilsl,.i k e]=some (.tup [.nilsl,.i k e],sh):=rfl
theorem Ge{k g len sz wm:Nat}{cs:List T}(h:aE lh k=⟨g,.cells cs wm false⟩)(hl:cs.length=len*sz)(h0:len≠0):zS lh sh 0 [.isl .L k g 0 len sz]=some (.sl cs len false,sh):=by
 have h':(St.mk .nil lh sh).get .L k=⟨g,.cells cs wm false⟩:=h
 simp only[zS,ju,eB,bh,aM,fz,Q.run,St.ups]
 rw[h']
 simp only
 rw[if_pos ⟨trivial,hl,h0,.inr rfl⟩]
theorem zU{d:Nat}{us:List Up}:ig d 0 .nilsl ⟨fr,lh,sh⟩ us=some (.nilsl,⟨fr,lh,sh⟩):=rfl
theorem NG{d:Nat}{us:List Up}{kk:IntKind}{e:Int}:ig d 0 (.tup [.nilsl,.i kk e]) ⟨fr,lh,sh⟩ us=some (.tup [.nilsl,.i kk e],⟨fr,lh,sh⟩):=rfl
theorem C7{d len:Nat}{us:List Up}{cs:List T}{ex:Bool}(h1:cs.all q7=true)(h2:cs.length/len*len=cs.length):ig d 0 (.sl cs len ex) ⟨fr,lh,sh⟩ us=
  some (.isl .L d ((aE lh d).g+1) 0 len (cs.length/len),⟨fr,gh lh d ⟨(aE lh d).g+1,.cells cs 0 false⟩,sh⟩):=by
 simp only[ig,eB]
 rw[if_pos ⟨h1,h2⟩]
 rfl
theorem Gf{res:List qo}{eff:Bool}:mT res eff (some (.ret,⟨fr,lh,sh⟩))=(pa fr lh sh res).bind (zQ lh sh eff):=by
 unfold mT
 simp only[j1]
 congr 1
 funext vs
 exact pb
theorem Gg{res:List qo}{eff:Bool}:mT res eff (some (.nrm,⟨fr,lh,sh⟩))=(pa fr lh sh res).bind (zQ lh sh eff):=by
 unfold mT
 simp only[j1]
 congr 1
 funext vs
 exact pb
theorem Gh{c:Prop}[Decidable c]{res:List qo}{eff:Bool}{x y:Option (Out×St)}:mT res eff (if c then x else y)=if c then mT res eff x else mT res eff y:=by split <;> rfl
end
section
variable{k:IntKind}{a b:Int}{x y:Bool}{s t:List Nat}
theorem J6:Ev.bin .add (.i k a) (.i k b)=some (.i k (wr k (a+b))):=by simp[Ev.bin,kh]
theorem J7:Ev.bin .sub (.i k a) (.i k b)=some (.i k (wr k (a-b))):=by simp[Ev.bin,kh]
theorem J8:Ev.bin .mul (.i k a) (.i k b)=some (.i k (wr k (a*b))):=by simp[Ev.bin,kh]
theorem J9:Ev.bin .eql (.i k a) (.i k b)=some (.b (decide (a=b))):=by simp[Ev.bin,kh];exact Bool.beq_eq_decide_eq a b
theorem Ka:Ev.bin .neq (.i k a) (.i k b)=some (.b (!decide (a=b))):=by simp[Ev.bin,kh];rw[bne,Bool.beq_eq_decide_eq]
theorem Kb:Ev.bin .lss (.i k a) (.i k b)=some (.b (decide (a<b))):=by simp[Ev.bin,kh]
theorem Kc:Ev.bin .leq (.i k a) (.i k b)=some (.b (decide (a≤b))):=by simp[Ev.bin,kh]
theorem Kd:Ev.bin .gtr (.i k a) (.i k b)=some (.b (decide (b<a))):=by simp[Ev.bin,kh]
theorem Ke:Ev.bin .geq (.i k a) (.i k b)=some (.b (decide (b≤a))):=by simp[Ev.bin,kh]
theorem Gi:Ev.bin .eql (.s s) (.s t)=some (.b (decide (s=t))):=by simp[Ev.bin,CE];exact Bool.beq_eq_decide_eq s t
theorem Gj:Ev.bin .neq (.s s) (.s t)=some (.b (!decide (s=t))):=by simp[Ev.bin,CE];rw[bne,Bool.beq_eq_decide_eq]
theorem Gk:Ev.bin .lss (.s s) (.s t)=some (.b (cg s t)):=by simp[Ev.bin,CE]
theorem PO:Ev.un .not (.b x)=some (.b (!x)):=rfl
theorem PQ:Ev.un .neg (.i k a)=some (.i k (wr k (0-a))):=rfl
theorem PR{cs:List T}{off m:Nat}:Ev.part cs off m false=cs[off]? :=rfl
theorem PS{cs:List T}{off m:Nat}:Ev.part cs off m true=if off+m≤cs.length then some (.agg ((cs.drop off).take m))else none:=rfl
theorem lg{n:Int}(h: -9223372036854775808≤n∧n≤9223372036854775807):wr .i64 n=n:=by unfold wr lo hi;exact if_pos h
theorem bA{cs:List T}{len sz:Nat}{ex:Bool}{kk:IntKind}{j:Int}:tJ (.sl cs len ex) (.i kk j) sz=if 0≤j∧j.toNat<len∧(j.toNat+1)*sz≤cs.length then some (.vp (cs.drop (j.toNat*sz)))else none:=by
 unfold tJ asNat
 by_cases h:0≤j
 ·simp only[h,if_true,true_and]
 ·simp only[h,if_false,false_and]
theorem Kf{sp:Sp}{i g off len sz jt:Nat}{kk:IntKind}{j:Int}:tJ (.isl sp i g off len jt) (.i kk j) sz=if 0≤j∧j.toNat<len∧jt=sz then some (.ptr sp i g (off+j.toNat*sz))else none:=by
 unfold tJ asNat
 by_cases h:0≤j
 ·simp only[h,if_true,true_and]
 ·simp only[h,if_false,false_and]
theorem zV{bs:List Nat}{kk:IntKind}{j:Int}:zL (.s bs) (.i kk j)=if 0≤j then bs[j.toNat]?.map fun c=>T.i .u8 c else none:=by
 unfold zL asNat
 by_cases h:0≤j
 ·simp only[h,if_true]
 ·simp only[h,if_false]
theorem vn{kk:IntKind}{j:Int}:asNat (.i kk j)=if 0≤j then some j.toNat else none:=rfl
end
end Go.Ev
