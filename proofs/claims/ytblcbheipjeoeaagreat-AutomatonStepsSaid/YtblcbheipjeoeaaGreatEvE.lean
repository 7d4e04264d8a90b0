/- A tree evaluator over the model, proved against it (part E): where it answers, the call returns that answer. Conditions: none beyond its theorems' own. -/
import Derived.Test.YtblcbheipjeoeaaGreatEvD
set_option linter.unusedSimpArgs false
set_option linter.unusedVariables false
namespace Go.Ev
open Go
section
variable{E:Env}{call:qz}{fl n:Nat}
theorem acM{st:St}:fi E call n [] st=some st:=rfl
end
end Go.Ev
namespace Go.Ev
open Go
def wK(c c':qz):Prop:= ∀f a sh r,c f a sh=some r→c' f a sh=some r
section
variable{E:Env}
theorem yG{c c':qz}(h:wK c c'){dd:Nat}{st:St}{f:Nat}{args:List T}{r:T×St}(hr:gq E c dd st f args=some r):gq E c' dd st f args=some r:=by
 unfold gq at hr ⊢
 cases hf:E.fn f with
 |none=>cases hx:E.ext f <;> simp only[hf,hx]at hr ⊢ <;> exact hr
 |some af=>
  simp only[hf]at hr ⊢
  cases hq:(gk (fz af.eff fJ) args).run st.get st.sh.length with
  |none=>simp only[hq]at hr;cases hr
  |some q=>
   simp only[hq]at hr ⊢
   cases he:af.eff with
   |true=>
    simp only[he,if_true,Option.map_eq_some_iff]at hr ⊢
    obtain⟨a,h1,h2⟩:=hr
    exact⟨a,h _ _ _ _ h1,h2⟩
   |false=>
    simp only[he]at hr ⊢
    cases hc:c f q.1 []with
    |none=>simp only[hc]at hr;simp at hr
    |some a=>
     simp only[hc]at hr
     simp only[h _ _ _ _ hc]
     exact hr
theorem qQ{c c':qz}(h:wK c c'){n:Nat}{o:fe}{st gj:St}(hr:gh E c n o st=some gj):gh E c' n o st=some gj:=by
 unfold gh at hr ⊢
 have key: ∀gj,(match gD st.rho o.op with
  |some (some cc)=>match gq E c (o.d.getD 0) st cc.1 cc.2 with
   |some r=>(lR st.fr n o.d r.1).map fun fr=>{r.2 with fr}
   |none=>none
  |some none=>none
  |none=>match(gA (o.d.getD 0) st.rho o.op).run st.get st.sh.length with
   |some (.val v ups)=>(lR st.fr n o.d v).map fun fr=>{st.ups ups with fr}
   |none=>none)=some gj→(match gD st.rho o.op with
  |some (some cc)=>match gq E c' (o.d.getD 0) st cc.1 cc.2 with
   |some r=>(lR st.fr n o.d r.1).map fun fr=>{r.2 with fr}
   |none=>none
  |some none=>none
  |none=>match(gA (o.d.getD 0) st.rho o.op).run st.get st.sh.length with
   |some (.val v ups)=>(lR st.fr n o.d v).map fun fr=>{st.ups ups with fr}
   |none=>none)=some gj:=by
  intro gj hs
  cases hc:gD st.rho o.op with
  |none=>simp only[hc]at hs ⊢; exact hs
  |some x=>
   cases x with
   |none=>simp only[hc]at hs;cases hs
   |some cc=>
    simp only[hc]at hs ⊢
    cases hd:gq E c (o.d.getD 0) st cc.1 cc.2 with
    |none=>simp only[hd]at hs;cases hs
    |some r=>
     simp only[hd]at hs
     simp only[yG h hd]
     exact hs
 cases hg:o.gd with
 |none=>simp only[hg]at hr ⊢; exact key _ hr
 |some p=>
  obtain⟨j,want⟩:=p
  simp only[hg]at hr ⊢
  split at hr
  ·rename_i x hx
   by_cases hw:x=want
   ·rw[if_pos hw]at hr ⊢; exact key _ hr
   ·rw[if_neg hw]at hr ⊢; exact hr
  ·cases hr
  ·exact hr
theorem ls{c c':qz}(h:wK c c'){n:Nat}: ∀(os:List fe) {st gj:St},fi E c n os st=some gj→fi E c' n os st=some gj
 | [],st,gj,hr=>hr
 |o::os,st,gj,hr=>by
  simp only[fi]at hr ⊢
  cases ho:gh E c n o st with
  |none=>simp only[ho]at hr;cases hr
  |some s=>
   simp only[ho]at hr
   simp only[qQ h ho]
   exact ls h os hr
theorem yH{c c':qz}(h:wK c c'){dd:Nat}{st:St}{f:Nat}{args:List T}{r:FP}(hr:jJ E c dd st f args=some r):jJ E c' dd st f args=some r:=by
 unfold jJ at hr ⊢
 cases hf:E.fn f with
 |none=>cases hx:E.ext f <;> simp only[hf,hx]at hr ⊢ <;> exact hr
 |some af=>
  simp only[hf]at hr ⊢
  cases hq:(gk (fz af.eff fJ) args).run st.get st.sh.length with
  |none=>simp only[hq]at hr;cases hr
  |some q=>
   simp only[hq]at hr ⊢
   by_cases hi:(!uk st q.2)=true
   ·rw[if_pos hi]at hr;cases hr
   ·rw[if_neg hi]at hr ⊢
    cases he:af.eff with
    |true=>simp only[he]at hr ⊢; exact hr
    |false=>
     simp only[he]at hr ⊢
     cases hc:c f q.1 []with
     |none=>simp[hc]at hr
     |some a=>
      simp only[hc]at hr
      simp only[h _ _ _ _ hc]
      exact hr
theorem yI{c c':qz}(h:wK c c'){o:fe}{st:St}{r:FP}(hr:gK E c o st=some r):gK E c' o st=some r:=by
 unfold gK at hr ⊢
 have key: ∀r,(match gD st.rho o.op with
  |some (some cc)=>jJ E c (o.d.getD 0) st cc.1 cc.2
  |some none=>none
  |none=>
   let q:=gA (o.d.getD 0) st.rho o.op
   match q.run st.get st.sh.length with
   |some (.val _ ups)=>if q.asks st.get st.sh.length||uk st ups then some ⟨q.asks st.get st.sh.length,q.log st.get st.sh.length,iB ups⟩else none
   |none=>none)=some r→(match gD st.rho o.op with
  |some (some cc)=>jJ E c' (o.d.getD 0) st cc.1 cc.2
  |some none=>none
  |none=>
   let q:=gA (o.d.getD 0) st.rho o.op
   match q.run st.get st.sh.length with
   |some (.val _ ups)=>if q.asks st.get st.sh.length||uk st ups then some ⟨q.asks st.get st.sh.length,q.log st.get st.sh.length,iB ups⟩else none
   |none=>none)=some r:=by
  intro r hs
  cases hc:gD st.rho o.op with
  |none=>simp only[hc]at hs ⊢; exact hs
  |some x=>
   cases x with
   |none=>simp only[hc]at hs;cases hs
   |some cc=>simp only[hc]at hs ⊢; exact yH h hs
 cases hg:o.gd with
 |none=>simp only[hg]at hr ⊢; exact key _ hr
 |some p=>
  obtain⟨j,want⟩:=p
  simp only[hg]at hr ⊢
  split at hr
  ·rename_i x hx
   by_cases hw:x=want
   ·rw[if_pos hw]at hr ⊢; exact key _ hr
   ·rw[if_neg hw]at hr ⊢; exact hr
  ·exact hr
theorem qR{c c':qz}(h:wK c c'){n:Nat}: ∀(os:List (List Nat×fe)) {g8:List FP} {st gj:St},fN E c n os g8 st=some gj→fN E c' n os g8 st=some gj
 | [],g8,st,gj,hr=>hr
 |(u,o)::os,g8,st,gj,hr=>by
  simp only[fN]at hr ⊢
  cases hp:gK E c o st with
  |none=>simp only[hp]at hr;cases hr
  |some fp=>
   simp only[hp]at hr
   simp only[yI h hp]
   split at hr
   ·rename_i ha
    rw[if_pos ha]
    cases ho:gh E c n o st with
    |none=>simp only[ho]at hr;cases hr
    |some s=>
     simp only[ho]at hr
     simp only[qQ h ho]
     exact qR h os hr
   ·cases hr
theorem ux{f g:St→Option (Out×St)}(h: ∀st r,f st=some r→g st=some r): ∀{k k':Nat},k≤k'→ ∀{st:St} {r:Out×St},iter f k st=some r→iter g k' st=some r
 |0,_,_,st,r,hr=>by simp[iter]at hr
 |k+1,0,hk,_,_,_=>by omega
 |k+1,k'+1,hk,st,r,hr=>by
  simp only[iter]at hr ⊢
  cases hf:f st with
  |none=>rw[hf]at hr;cases hr
  |some p=>
   rw[h _ _ hf]
   rw[hf]at hr
   obtain⟨o,s⟩:=p
   cases o with
   |nrm=>exact ux h (by omega) hr
   |ext id=>exact hr
   |ret=>exact hr
theorem iH{c c':qz}(h:wK c c'){n:Nat}{fl fl':Nat}(y8:fl≤fl'): ∀(code:fm) {st:St} {r:Out×St},la E c fl n code st=some r→la E c' fl' n code st=some r
 | .skip,st,r,hr=>hr
 | .region ops,st,r,hr=>by
   simp only[la,Option.map_eq_some_iff]at hr ⊢
   obtain⟨a,h1,h2⟩:=hr
   exact⟨a,ls h ops h1,h2⟩
 | .draws ops,st,r,hr=>by
   simp only[la,Option.map_eq_some_iff]at hr ⊢
   obtain⟨a,h1,h2⟩:=hr
   exact⟨a,qR h ops h1,h2⟩
 | .seq a b,st,r,hr=>by
   simp only[la]at hr ⊢
   cases ha:la E c fl n a st with
   |none=>rw[ha]at hr;cases hr
   |some p=>
    rw[iH h y8 a ha]
    rw[ha]at hr
    obtain⟨o,s⟩:=p
    cases o with
    |nrm=>exact iH h y8 b hr
    |ext id=>exact hr
    |ret=>exact hr
 | .fork os BP b,st,r,hr=>by
   simp only[la]at hr ⊢
   cases h1:fi E c n os st with
   |none=>rw[h1]at hr;cases hr
   |some s1=>
    cases h2:fi E c n BP st with
    |none=>rw[h1,h2]at hr;cases hr
    |some s2=>
     rw[ls h os h1,ls h BP h2]
     rw[h1,h2]at hr
     simp only[]at hr ⊢
     obtain⟨o,s⟩:=r
     obtain⟨t1,t2,g1,g2,oh,rfl⟩:=vw hr
     rw[g1,g2]at hr
     rw[iH h y8 b g1,iH h y8 b g2]
     exact hr
 | .cond x a b,st,r,hr=>by
   simp only[la]at hr ⊢
   split at hr
   ·exact iH h y8 a hr
   ·exact iH h y8 b hr
   ·cases hr
 | .block id a,st,r,hr=>by
   simp only[la]at hr ⊢
   cases ha:la E c fl n a st with
   |none=>rw[ha]at hr;cases hr
   |some p=>
    rw[iH h y8 a ha]
    rw[ha]at hr
    exact hr
 | .loop a,st,r,hr=>by
   simp only[la]at hr ⊢
   exact ux (fun st r hh=>iH h y8 a hh) y8 hr
 | .exit id,st,r,hr=>hr
 | .ret,st,r,hr=>hr
theorem gL: ∀{m m':Nat},m≤m'→wK (iw E m) (iw E m')
 |0,m',_=>fun f a sh r h=>by simp[iw]at h
 |m+1,0,h=>by omega
 |m+1,m'+1,h=>fun f a sh r hr=>by
  simp only[iw]at hr ⊢
  cases hf:E.fn f with
  |none=>rw[hf]at hr;cases hr
  |some af=>
   simp only[hf]at hr ⊢
   split at hr
   ·cases hr
   ·rename_i hn
    rw[if_neg hn]
    cases hc:la E (iw E m) m af.n af.code {fr:=pG a,lh:= .nil,sh}with
    |none=>rw[hc]at hr;cases hr
    |some p=>
     rw[iH (gL (Nat.le_of_succ_le_succ h)) (Nat.le_of_succ_le_succ h) af.code hc]
     rw[hc]at hr
     exact hr
end
noncomputable def lim{α:Type}(F:Nat→Option α):Option α:=
 open Classical in if h: ∃m,(F m).isSome=true then F (Classical.choose h)else none
def ag9{α:Type}(F:Nat→Option α):Prop:= ∀m m' r,m≤m'→F m=some r→F m'=some r
theorem Kg{α:Type}{F:Nat→Option α}(hF:ag9 F)(r:α):lim F=some r↔ ∃m,F m=some r:=by
 unfold lim
 constructor
 ·intro h
  split at h
  ·exact⟨_,h⟩
  ·cases h
 ·rintro⟨m,hm⟩
  have he: ∃m,(F m).isSome=true:=⟨m,by rw[hm];rfl⟩
  rw[dif_pos he]
  have hs:=Classical.choose_spec he
  generalize Classical.choose he=k at hs
  cases hk:F k with
  |none=>rw[hk]at hs;cases hs
  |some a=>
   have h1:=hF k (max k m) a (Nat.le_max_left _ _) hk
   have h2:=hF m (max k m) r (Nat.le_max_right _ _) hm
   rw[h1]at h2
   exact h2
section
variable(E:Env)
noncomputable def fj:qz:=fun f a sh=>lim fun m=>iw E m f a sh
noncomputable def DC(n:Nat)(code:fm)(st:St):Option (Out×St):=lim fun m=>la E (iw E m) m n code st
end
section
variable{E:Env}
theorem DCall_iff{f:Nat}{a:List T}{sh:List fg}{r:T×List fg}:fj E f a sh=some r↔ ∃m,iw E m f a sh=some r:=
 Kg (fun m m' r h hr=>gL h _ _ _ _ hr) r
theorem iC{n:Nat}{code:fm}{st:St}{r:Out×St}:DC E n code st=some r↔ ∃m,la E (iw E m) m n code st=some r:=
 Kg (fun m m' r h hr=>iH (gL h) h code hr) r
theorem sF(m:Nat):wK (iw E m) (fj E):=fun f a sh r h=>DCall_iff.2 ⟨m,h⟩
theorem Ik{dd:Nat}{st:St}{f:Nat}{args:List T}{r:T×St}(hr:gq E (fj E) dd st f args=some r): ∃m,gq E (iw E m) dd st f args=some r:=by
 unfold gq at hr
 cases hf:E.fn f with
 |none=>refine⟨0, ?_⟩;unfold gq;cases hx:E.ext f <;> simp only[hf,hx]at hr ⊢ <;> exact hr
 |some af=>
  simp only[hf]at hr
  cases hq:(gk (fz af.eff fJ) args).run st.get st.sh.length with
  |none=>simp only[hq]at hr;cases hr
  |some q=>
   simp only[hq]at hr
   cases he:af.eff with
   |true=>
    rw[he]at hq
    simp only[he,if_true,Option.map_eq_some_iff]at hr
    obtain⟨a,h1,h2⟩:=hr
    obtain⟨m,hm⟩:=DCall_iff.1 h1
    refine⟨m, ?_⟩
    unfold gq
    simp only[hf,hq,he,if_true,Option.map_eq_some_iff]
    exact⟨a,hm,h2⟩
   |false=>
    rw[he]at hq
    simp only[he]at hr
    cases hc:fj E f q.1 []with
    |none=>simp[hc]at hr
    |some a=>
     simp only[hc]at hr
     obtain⟨m,hm⟩:=DCall_iff.1 hc
     refine⟨m, ?_⟩
     unfold gq
     simp only[hf,hq,he,hm]
     exact hr
theorem Il{dd:Nat}{st:St}{f:Nat}{args:List T}{r:FP}(hr:jJ E (fj E) dd st f args=some r): ∃m,jJ E (iw E m) dd st f args=some r:=by
 unfold jJ at hr
 cases hf:E.fn f with
 |none=>refine⟨0, ?_⟩;unfold jJ;cases hx:E.ext f <;> simp only[hf,hx]at hr ⊢ <;> exact hr
 |some af=>
  simp only[hf]at hr
  cases hq:(gk (fz af.eff fJ) args).run st.get st.sh.length with
  |none=>simp only[hq]at hr;cases hr
  |some q=>
   simp only[hq]at hr
   by_cases hi:(!uk st q.2)=true
   ·rw[if_pos hi]at hr;cases hr
   ·rw[if_neg hi]at hr
    cases he:af.eff with
    |true=>
     rw[he]at hq
     simp only[he]at hr
     refine⟨0, ?_⟩
     unfold jJ
     simp only[hf,hq,he]
     rw[if_neg hi]
     exact hr
    |false=>
     rw[he]at hq
     simp only[he]at hr
     cases hc:fj E f q.1 []with
     |none=>simp[hc]at hr
     |some a=>
      simp only[hc]at hr
      obtain⟨m,hm⟩:=DCall_iff.1 hc
      refine⟨m, ?_⟩
      unfold jJ
      simp only[hf,hq,he,hm]
      rw[if_neg hi]
      exact hr
theorem AL{n:Nat}{o:fe}{st gj:St}(hr:gh E (fj E) n o st=some gj): ∃m,gh E (iw E m) n o st=some gj:=by
 cases hc:gD st.rho o.op with
 |none=>
  refine⟨0, ?_⟩
  unfold gh at hr ⊢
  simp only[hc]at hr ⊢
  exact hr
 |some x=>
  cases x with
  |none=>
   refine⟨0, ?_⟩
   unfold gh at hr ⊢
   simp only[hc]at hr ⊢
   exact hr
  |some cc=>
   cases hd:gq E (fj E) (o.d.getD 0) st cc.1 cc.2 with
   |none=>
    refine⟨0, ?_⟩
    have h0:gq E (iw E 0) (o.d.getD 0) st cc.1 cc.2=none:=by
     cases h0:gq E (iw E 0) (o.d.getD 0) st cc.1 cc.2 with
     |none=>rfl
     |some r=>rw[yG (sF 0) h0]at hd;cases hd
    unfold gh at hr ⊢
    simp only[hc,hd,h0]at hr ⊢
    exact hr
   |some r=>
    obtain⟨m,hm⟩:=Ik hd
    refine⟨m, ?_⟩
    unfold gh at hr ⊢
    simp only[hc,hd,hm]at hr ⊢
    exact hr
theorem Im{o:fe}{st:St}{r:FP}(hr:gK E (fj E) o st=some r): ∃m,gK E (iw E m) o st=some r:=by
 cases hc:gD st.rho o.op with
 |none=>
  refine⟨0, ?_⟩
  unfold gK at hr ⊢
  simp only[hc]at hr ⊢
  exact hr
 |some x=>
  cases x with
  |none=>
   refine⟨0, ?_⟩
   unfold gK at hr ⊢
   simp only[hc]at hr ⊢
   exact hr
  |some cc=>
   cases hd:jJ E (fj E) (o.d.getD 0) st cc.1 cc.2 with
   |none=>
    refine⟨0, ?_⟩
    have h0:jJ E (iw E 0) (o.d.getD 0) st cc.1 cc.2=none:=by
     cases h0:jJ E (iw E 0) (o.d.getD 0) st cc.1 cc.2 with
     |none=>rfl
     |some r=>rw[yH (sF 0) h0]at hd;cases hd
    unfold gK at hr ⊢
    simp only[hc,hd,h0]at hr ⊢
    exact hr
   |some r=>
    obtain⟨m,hm⟩:=Il hd
    refine⟨m, ?_⟩
    unfold gK at hr ⊢
    simp only[hc,hd,hm]at hr ⊢
    exact hr
theorem uy{n:Nat}: ∀(os:List fe) {st gj:St},fi E (fj E) n os st=some gj→ ∃m,fi E (iw E m) n os st=some gj
 | [],st,gj,hr=>⟨0,hr⟩
 |o::os,st,gj,hr=>by
  simp only[fi]at hr
  cases ho:gh E (fj E) n o st with
  |none=>simp only[ho]at hr;cases hr
  |some s=>
   simp only[ho]at hr
   obtain⟨m1,h1⟩:=AL ho
   obtain⟨m2,h2⟩:=uy os hr
   refine⟨max m1 m2, ?_⟩
   simp only[fi,qQ (gL (Nat.le_max_left m1 m2)) h1]
   exact ls (gL (Nat.le_max_right m1 m2)) os h2
theorem AM{n:Nat}: ∀(os:List (List Nat×fe)) {g8:List FP} {st gj:St},fN E (fj E) n os g8 st=some gj→ ∃m,fN E (iw E m) n os g8 st=some gj
 | [],g8,st,gj,hr=>⟨0,hr⟩
 |(u,o)::os,g8,st,gj,hr=>by
  simp only[fN]at hr
  cases hp:gK E (fj E) o st with
  |none=>simp only[hp]at hr;cases hr
  |some fp=>
   simp only[hp]at hr
   split at hr
   ·rename_i ha
    cases ho:gh E (fj E) n o st with
    |none=>simp only[ho]at hr;cases hr
    |some s=>
     simp only[ho]at hr
     obtain⟨m1,h1⟩:=AL ho
     obtain⟨m2,h2⟩:=AM os hr
     obtain⟨m3,h3⟩:=Im hp
     refine⟨max m3 (max m1 m2), ?_⟩
     have l1:m1≤max m3 (max m1 m2):=by omega
     have l2:m2≤max m3 (max m1 m2):=by omega
     have l3:m3≤max m3 (max m1 m2):=by omega
     simp only[fN,yI (gL l3) h3,qQ (gL l1) h1]
     rw[if_pos ha]
     exact qR (gL l2) os h2
   ·cases hr
theorem sG{α:Type}{x y:Option α}(h: ∀r,x=some r↔y=some r):x=y:=Option.ext h
theorem TQ{n:Nat}{st:St}:DC E n .skip st=some (.nrm,st):=iC.2 ⟨0,rfl⟩
theorem TR{n id:Nat}{st:St}:DC E n (.exit id) st=some (.ext id,st):=iC.2 ⟨0,rfl⟩
theorem aab{n:Nat}{st:St}:DC E n .ret st=some (.ret,st):=iC.2 ⟨0,rfl⟩
theorem CH{n:Nat}{ops:List fe}{st:St}:DC E n (.region ops) st=(fi E (fj E) n ops st).map fun gj=>(.nrm,gj):=by
 refine sG fun r=> ?_
 rw[iC,Option.map_eq_some_iff]
 constructor
 ·rintro⟨m,h⟩
  simp only[la,Option.map_eq_some_iff]at h
  obtain⟨a,h1,h2⟩:=h
  exact⟨a,ls (sF m) ops h1,h2⟩
 ·rintro⟨a,h1,h2⟩
  obtain⟨m,hm⟩:=uy ops h1
  refine⟨m, ?_⟩
  simp only[la,Option.map_eq_some_iff]
  exact⟨a,hm,h2⟩
theorem Gg{n:Nat}{ops:List (List Nat×fe)}{st:St}:DC E n (.draws ops) st=(fN E (fj E) n ops [] st).map fun gj=>(.nrm,gj):=by
 refine sG fun r=> ?_
 rw[iC,Option.map_eq_some_iff]
 constructor
 ·rintro⟨m,h⟩
  simp only[la,Option.map_eq_some_iff]at h
  obtain⟨a,h1,h2⟩:=h
  exact⟨a,qR (sF m) ops h1,h2⟩
 ·rintro⟨a,h1,h2⟩
  obtain⟨m,hm⟩:=AM ops h1
  refine⟨m, ?_⟩
  simp only[la,Option.map_eq_some_iff]
  exact⟨a,hm,h2⟩
def andThen(x:Option (Out×St))(f:St→Option (Out×St)):Option (Out×St):=
 match x with
 |some (.nrm,gj)=>f gj
 |r=>r
theorem yJ{st:St}{f:St→Option (Out×St)}:andThen (some (.nrm,st)) f=f st:=rfl
theorem Gh{id:Nat}{st:St}{f:St→Option (Out×St)}:andThen (some (.ext id,st)) f=some (.ext id,st):=rfl
theorem Gi{st:St}{f:St→Option (Out×St)}:andThen (some (.ret,st)) f=some (.ret,st):=rfl
theorem TS{f:St→Option (Out×St)}:andThen none f=none:=rfl
theorem Py{n:Nat}{a b:fm}{st:St}:DC E n (.seq a b) st=andThen (DC E n a st) (DC E n b):=by
 refine sG fun r=> ?_
 rw[iC]
 constructor
 ·rintro⟨m,h⟩
  simp only[la]at h
  cases ha:la E (iw E m) m n a st with
  |none=>rw[ha]at h;cases h
  |some p=>
   rw[ha]at h
   rw[iC.2 ⟨m,ha⟩]
   obtain⟨o,s⟩:=p
   cases o with
   |nrm=>exact iC.2 ⟨m,h⟩
   |ext id=>exact h
   |ret=>exact h
 ·intro h
  cases ha:DC E n a st with
  |none=>rw[ha]at h;cases h
  |some p=>
   rw[ha]at h
   obtain⟨m1,h1⟩:=iC.1 ha
   obtain⟨o,s⟩:=p
   cases o with
   |nrm=>
    obtain⟨m2,h2⟩:=iC.1 h
    refine⟨max m1 m2, ?_⟩
    have l1:=Nat.le_max_left m1 m2
    have l2:=Nat.le_max_right m1 m2
    simp only[la,iH (gL l1) l1 a h1]
    exact iH (gL l2) l2 b h2
   |ext id=>refine⟨m1, ?_⟩;simp only[la,h1];exact h
   |ret=>refine⟨m1, ?_⟩;simp only[la,h1];exact h
theorem TT{n:Nat}{c:fM}{a b:fm}{st:St}:DC E n (.cond c a b) st=match st.rho c with| .b true=>DC E n a st| .b false=>DC E n b st|_=>none:=by
 refine sG fun r=> ?_
 rw[iC]
 constructor
 ·rintro⟨m,h⟩
  simp only[la]at h
  split at h
  ·rename_i hx;rw[hx];exact iC.2 ⟨m,h⟩
  ·rename_i hx;rw[hx];exact iC.2 ⟨m,h⟩
  ·cases h
 ·intro h
  split at h
  ·rename_i hx
   obtain⟨m,hm⟩:=iC.1 h
   exact⟨m,by simp only[la,hx];exact hm⟩
  ·rename_i hx
   obtain⟨m,hm⟩:=iC.1 h
   exact⟨m,by simp only[la,hx];exact hm⟩
  ·cases h
def yK(id:Nat)(x:Option (Out×St)):Option (Out×St):=
 match x with
 |some (.ext JT,gj)=>if JT=id then some (.nrm,gj)else some (.ext JT,gj)
 |r=>r
theorem Md{id:Nat}{st:St}:yK id (some (.nrm,st))=some (.nrm,st):=rfl
theorem Me{id:Nat}{st:St}:yK id (some (.ret,st))=some (.ret,st):=rfl
theorem Mf{id JT:Nat}{st:St}:yK id (some (.ext JT,st))=if JT=id then some (.nrm,st)else some (.ext JT,st):=rfl
theorem aac{id:Nat}:yK id none=none:=rfl
theorem Pz{n id:Nat}{a:fm}{st:St}:DC E n (.block id a) st=yK id (DC E n a st):=by
 refine sG fun r=> ?_
 rw[iC]
 constructor
 ·rintro⟨m,h⟩
  simp only[la]at h
  cases ha:la E (iw E m) m n a st with
  |none=>rw[ha]at h;cases h
  |some p=>
   rw[ha]at h
   rw[iC.2 ⟨m,ha⟩]
   exact h
 ·intro h
  cases ha:DC E n a st with
  |none=>rw[ha]at h;cases h
  |some p=>
   rw[ha]at h
   obtain⟨m1,h1⟩:=iC.1 ha
   refine⟨m1, ?_⟩
   simp only[la,h1]
   exact h
theorem oA{n:Nat}{a:fm}{st:St}:DC E n (.loop a) st=andThen (DC E n a st) (DC E n (.loop a)):=by
 refine sG fun r=> ?_
 rw[iC]
 constructor
 ·rintro⟨m,h⟩
  simp only[la]at h
  cases m with
  |zero=>simp[iter]at h
  |succ m=>
   rw[iter]at h
   cases ha:la E (iw E (m+1)) (m+1) n a st with
   |none=>rw[ha]at h;cases h
   |some p=>
    rw[ha]at h
    rw[iC.2 ⟨m+1,ha⟩]
    obtain⟨o,s⟩:=p
    cases o with
    |nrm=>
     refine iC.2 ⟨m+1, ?_⟩
     simp only[la]
     exact ux (fun _ _ h=>h) (Nat.le_succ m) h
    |ext id=>exact h
    |ret=>exact h
 ·intro h
  cases ha:DC E n a st with
  |none=>rw[ha]at h;cases h
  |some p=>
   rw[ha]at h
   obtain⟨m1,h1⟩:=iC.1 ha
   obtain⟨o,s⟩:=p
   cases o with
   |nrm=>
    obtain⟨m2,h2⟩:=iC.1 h
    refine⟨max m1 m2+1, ?_⟩
    have l1:m1≤max m1 m2+1:=by omega
    have l2:m2≤max m1 m2+1:=by omega
    have l3:m2≤max m1 m2:=by omega
    simp only[la]at h2
    simp only[la]
    rw[iter,iH (gL l1) l1 a h1]
    exact ux (fun st r hh=>iH (gL l2) l2 a hh) l3 h2
   |ext id=>
    refine⟨m1+1, ?_⟩
    simp only[la]
    rw[iter,iH (gL (Nat.le_succ m1)) (Nat.le_succ m1) a h1]
    exact h
   |ret=>
    refine⟨m1+1, ?_⟩
    simp only[la]
    rw[iter,iH (gL (Nat.le_succ m1)) (Nat.le_succ m1) a h1]
    exact h
def Yg(af:fv)(x:Option (Out×St)):Option (T×List fg):=
 match x with
 |some (.ext _,_)=>none
 |some (_,st)=>match nk st af.res with
  |some vs=>um af.own af.eff vs st
  |none=>none
 |none=>none
theorem PA{f:Nat}{af:fv}{args:List T}{sh:List fg}(hf:E.fn f=some af)(hn:args.length≤af.n):
  fj E f args sh=Yg af (DC E af.n af.code {fr:=pG args,lh:= .nil,sh}):=by
 refine sG fun r=> ?_
 rw[DCall_iff]
 constructor
 ·rintro⟨m,h⟩
  cases m with
  |zero=>simp[iw]at h
  |succ m=>
   simp only[iw,hf,if_neg (Nat.not_lt.2 hn)]at h
   cases hc:la E (iw E m) m af.n af.code {fr:=pG args,lh:= .nil,sh}with
   |none=>rw[hc]at h;cases h
   |some p=>rw[hc]at h;rw[iC.2 ⟨m,hc⟩];exact h
 ·intro h
  cases hc:DC E af.n af.code {fr:=pG args,lh:= .nil,sh}with
  |none=>rw[hc]at h;cases h
  |some p=>
   rw[hc]at h
   obtain⟨m,hm⟩:=iC.1 hc
   refine⟨m+1, ?_⟩
   simp only[iw,hf,if_neg (Nat.not_lt.2 hn),hm]
   exact h
end
end Go.Ev
namespace Go.Ev
open Go
theorem nr{α:Sort _}{a b:α}(h:a=b):a=b:=h
def rd(fr:Fr):fM→T
 | .t k=>an fr k
 | .c v=>v
theorem amz(fr:Fr)(k:Nat):rd fr (.t k)=an fr k:=nr rfl
theorem amA(fr:Fr)(v:T):rd fr (.c v)=v:=nr rfl
theorem jE(fr:Fr)(lh:fC fg)(sh:List fg):(St.mk fr lh sh).rho=rd fr:=by funext x;cases x <;> rfl
theorem PB(fr:Fr)(d:Nat)(v:T):an (iG fr d v) d=v:=by rw[od,if_pos rfl]
theorem PC(fr:Fr){d m:Nat}(v:T)(h:m≠d):an (iG fr d v) m=an fr m:=by rw[od,if_neg h]
def be(lh:fC fg)(k:Nat):fg:=fC.get jq lh k
def qm(lh:fC fg)(k:Nat)(e:fg):fC fg:=fC.set jq lh k e
theorem xN(lh:fC fg)(k:Nat)(e:fg):be (qm lh k e) k=e:=by unfold be qm;rw[fC.get_set,if_pos rfl]
theorem gO(lh:fC fg){k m:Nat}(e:fg)(h:m≠k):be (qm lh k e) m=be lh m:=by unfold be qm;rw[fC.get_set,if_neg h]
theorem PD(k:Nat):be .nil k=jq:=by unfold be;exact fC.get_nil _ _
theorem Kh(fr:Fr)(lh:fC fg)(sh:List fg)(k:Nat):(St.mk fr lh sh).get .L k=be lh k:=rfl
theorem akn(fr:Fr)(lh:fC fg)(sh:List fg)(k:Nat):(St.mk fr lh sh).get .S k=gC sh k:=rfl
theorem zq(st:St):st.ups []=st:=rfl
theorem Yh(fr:Fr)(lh:fC fg)(sh:List fg)(k:Nat)(e:fg)(us:List Up):(St.mk fr lh sh).ups ((.L,k,e)::us)=(St.mk fr (qm lh k e) sh).ups us:=rfl
theorem apC(fr:Fr)(lh:fC fg)(sh:List fg)(k:Nat)(e:fg)(us:List Up):(St.mk fr lh sh).ups ((.S,k,e)::us)=(St.mk fr lh (il sh k e)).ups us:=rfl
def nQ:Option zl→Option (T×List Up)
 |some (.val v ups)=>some (v,ups)
 |none=>none
def one(fr:Fr)(lh:fC fg)(sh:List fg)(d:Nat)(op:kG):Option (T×List Up):=
 nQ ((gA d (rd fr) op).run (St.mk fr lh sh).get sh.length)
def vA(fr:Fr):Option Nat→T→Fr
 |some d,v=>iG fr d v
 |none,_=>fr
def CI(n:Nat):Option Nat→Prop
 |some d=>d<n
 |none=>True
section
variable{E:Env}{call:qz}{n:Nat}{fr:Fr}{lh:fC fg}{sh:List fg}{os:List fe}
theorem aha{st:St}:fi E call n [] st=some st:=rfl
theorem qn{d:Option Nat}{op:kG}(hc:gD (rd fr) op=none)(hd:CI n d):
  fi E call n (⟨d,op,none⟩::os) ⟨fr,lh,sh⟩=(one fr lh sh (d.getD 0) op).bind fun r=>fi E call n os {(St.mk fr lh sh).ups r.2 with fr:=vA fr d r.1}:=by
 simp only[fi,gh,jE,hc]
 unfold one
 cases h:(gA (d.getD 0) (rd fr) op).run (St.mk fr lh sh).get sh.length with
 |none=>rfl
 |some r=>
  obtain⟨v,ups⟩:=r
  simp only[Option.bind_some,nQ]
  cases d with
  |none=>rfl
  |some d=>simp only[lR,if_pos (show d<n from hd),vA,Option.map_some]
theorem jM{d:Option Nat}{op:kG}(hc:gD (rd fr) op=none)(hd:CI n d){v:Option T}(h1:one fr lh sh (d.getD 0) op=v.map fun v=>(v,[])):
  fi E call n (⟨d,op,none⟩::os) ⟨fr,lh,sh⟩=v.bind fun v=>fi E call n os ⟨vA fr d v,lh,sh⟩:=by
 rw[qn hc hd,h1]
 cases v <;> rfl
theorem oB{o:Option T}{h:Sp→Nat→fg}{nx:Nat}:nQ ((val o).run h nx)=o.map fun v=>(v,([]:List Up)):=by
 cases o <;> rfl
variable{d:Nat}
theorem amB{x:fM}(hd:d<n):fi E call n (⟨some d,.mv x,none⟩::os) ⟨fr,lh,sh⟩=fi E call n os ⟨iG fr d (rd fr x),lh,sh⟩:=
 jM (d:=some d) (v:=some (rd fr x)) (by rfl) hd rfl
def Ki(c a b:T):Option T:=match c with| .b x=>some (if x=true then a else b)|_=>none
theorem TU(x:Bool)(a b:T):Ki (.b x) a b=some (if x=true then a else b):=rfl
theorem aad{c a b:fM}(hd:d<n):fi E call n (⟨some d,.pick c a b,none⟩::os) ⟨fr,lh,sh⟩=(Ki (rd fr c) (rd fr a) (rd fr b)).bind fun v=>fi E call n os ⟨iG fr d v,lh,sh⟩:=by
 refine jM (d:=some d) (by rfl) hd ?_
 unfold one Ki
 simp only[gA]
 cases h:rd fr c <;> try rfl
 rename_i x
 cases x <;> rfl
theorem ahb{op:BinOp}{x y:fM}(hd:d<n):fi E call n (⟨some d,.bin op x y,none⟩::os) ⟨fr,lh,sh⟩=(Ev.bin op (rd fr x) (rd fr y)).bind fun v=>fi E call n os ⟨iG fr d v,lh,sh⟩:=
 jM (d:=some d) (by rfl) hd oB
theorem amC{neg:Bool}{k:EK}{x y:fM}(hd:d<n):fi E call n (⟨some d,.eq neg k x y,none⟩::os) ⟨fr,lh,sh⟩=((tB k (rd fr x) (rd fr y)).map fun r=>T.b (r != neg)).bind fun v=>fi E call n os ⟨iG fr d v,lh,sh⟩:=
 jM (d:=some d) (by rfl) hd oB
theorem amD{op:UnOp}{x:fM}(hd:d<n):fi E call n (⟨some d,.un op x,none⟩::os) ⟨fr,lh,sh⟩=(Ev.un op (rd fr x)).bind fun v=>fi E call n os ⟨iG fr d v,lh,sh⟩:=
 jM (d:=some d) (by rfl) hd oB
def TV(k:IntKind):T→Option T
 | .i _ n=>some (.i k (wr k n))
 |_=>none
theorem ahc{k:IntKind}{x:fM}(hd:d<n):fi E call n (⟨some d,.cvi k x,none⟩::os) ⟨fr,lh,sh⟩=(TV k (rd fr x)).bind fun v=>fi E call n os ⟨iG fr d v,lh,sh⟩:=by
 refine jM (d:=some d) (by rfl) hd ?_
 unfold one TV
 simp only[gA]
 cases h:rd fr x <;> rfl
def DX(fr:Fr)(z:List T)(ps:List (Nat×Nat×fM)):Option T:=
 if(ps.all fun p=>(cellsOf (rd fr p.2.2)).length=p.2.1&&noTup (rd fr p.2.2))=true then(px z (ps.map fun p=>(p.1,cellsOf (rd fr p.2.2)))).map .agg else none
theorem TW{z:List T}{ps:List (Nat×Nat×fM)}(hd:d<n):fi E call n (⟨some d,.build z ps,none⟩::os) ⟨fr,lh,sh⟩=(DX fr z ps).bind fun v=>fi E call n os ⟨iG fr d v,lh,sh⟩:=by
 refine jM (d:=some d) (by rfl) hd ?_
 unfold one DX
 simp only[gA]
 split
 ·exact oB
 ·rfl
def sH(fr:Fr)(x:T)(l h:Option fM):Option T:=
 match x with
 | .s bs=>match iS (rd fr) 0 l,iS (rd fr) bs.length h with
   |some l,some h=>if l≤h∧h≤bs.length then some (.s ((bs.drop l).take (h-l)))else none
   |_,_=>none
 |_=>none
theorem ahd{x:fM}{l h:Option fM}(hd:d<n):fi E call n (⟨some d,.slS x l h,none⟩::os) ⟨fr,lh,sh⟩=(sH fr (rd fr x) l h).bind fun v=>fi E call n os ⟨iG fr d v,lh,sh⟩:=by
 refine jM (d:=some d) (by rfl) hd ?_
 unfold one sH
 simp only[gA]
 cases hx:rd fr x <;> try rfl
 rename_i bs
 simp only[]
 cases h1:iS (rd fr) 0 l <;> cases h2:iS (rd fr) bs.length h <;> try rfl
 rename_i a b
 simp only[Bool.and_eq_true,decide_eq_true_eq]
 by_cases hb:a≤b∧b≤bs.length
 ·simp only[if_pos hb];rfl
 ·simp only[if_neg hb];rfl
def faV(x:T)(off:Nat):Option T:=
 match x with
 | .vp cs=>if off≤cs.length then some (.vp (cs.drop off))else none
 | .ptr sp k g o=>some (.ptr sp k g (o+off))
 |_=>none
theorem amE{x:fM}{off:Nat}(hd:d<n):fi E call n (⟨some d,.fa x off,none⟩::os) ⟨fr,lh,sh⟩=(faV (rd fr x) off).bind fun v=>fi E call n os ⟨iG fr d v,lh,sh⟩:=by
 refine jM (d:=some d) (by rfl) hd ?_
 unfold one faV
 simp only[gA]
 cases hx:rd fr x <;> try rfl
 rename_i cs
 simp only[]
 split <;> rfl
def amF(x:T)(off n:Nat)(ag:Bool):Option T:=match x with| .agg cs=>part cs off n ag|_=>none
def tf(x ix:T)(sz:Nat):Option T:=
 match asNat ix,x with
 |some j,.sl cs len _=>if j<len∧(j+1)*sz≤cs.length then some (.vp (cs.drop (j*sz)))else none
 |some j,.isl sp k g off len pn=>if j<len∧pn=sz then some (.ptr sp k g (off+j*sz))else none
 |_,_=>none
theorem amG{x ix:fM}{sz:Nat}(hd:d<n):fi E call n (⟨some d,.ia x ix sz,none⟩::os) ⟨fr,lh,sh⟩=(tf (rd fr x) (rd fr ix) sz).bind fun v=>fi E call n os ⟨iG fr d v,lh,sh⟩:=by
 refine jM (d:=some d) (by rfl) hd ?_
 unfold one tf
 simp only[gA]
 cases h1:asNat (rd fr ix)with
 |none=>rfl
 |some j=>
  cases hx:rd fr x <;> try rfl
  ·simp only[Bool.and_eq_true,decide_eq_true_eq];split <;> rfl
  ·simp only[Bool.and_eq_true,decide_eq_true_eq];split <;> rfl
def jz(x ix:T)(len sz:Nat):Option T:=
 match asNat ix,x with
 |some j,.vp cs=>if j<len∧(j+1)*sz≤cs.length then some (.vp (cs.drop (j*sz)))else none
 |some j,.ptr sp k g off=>if j<len then some (.ptr sp k g (off+j*sz))else none
 |_,_=>none
theorem ahf{x ix:fM}{len sz:Nat}(hd:d<n):fi E call n (⟨some d,.iaA x ix len sz,none⟩::os) ⟨fr,lh,sh⟩=(jz (rd fr x) (rd fr ix) len sz).bind fun v=>fi E call n os ⟨iG fr d v,lh,sh⟩:=by
 refine jM (d:=some d) (by rfl) hd ?_
 unfold one jz
 simp only[gA]
 cases h1:asNat (rd fr ix)with
 |none=>rfl
 |some j=>
  cases hx:rd fr x <;> try rfl
  ·simp only[Bool.and_eq_true,decide_eq_true_eq];split <;> rfl
  ·simp only[];split <;> rfl
def B7(x ix:T):Option T:=
 match asNat ix,x with
 |some j,.s bs=>bs[j]?.map fun c=> .i .u8 c
 |_,_=>none
theorem ahg{x ix:fM}(hd:d<n):fi E call n (⟨some d,.ixS x ix,none⟩::os) ⟨fr,lh,sh⟩=(B7 (rd fr x) (rd fr ix)).bind fun v=>fi E call n os ⟨iG fr d v,lh,sh⟩:=by
 refine jM (d:=some d) (by rfl) hd ?_
 unfold one B7
 simp only[gA]
 cases h1:asNat (rd fr ix)with
 |none=>rfl
 |some j=>
  cases hx:rd fr x <;> try rfl
  rename_i bs
  simp only[]
  cases hb:bs[j]? <;> rfl
def y9(x ix:T)(len sz:Nat)(ag:Bool):Option T:=
 match asNat ix,x with
 |some j,.agg cs=>if j<len then part cs (j*sz) sz ag else none
 |_,_=>none
theorem ahh{x ix:fM}{len sz:Nat}{ag:Bool}(hd:d<n):fi E call n (⟨some d,.ixA x ix len sz ag,none⟩::os) ⟨fr,lh,sh⟩=(y9 (rd fr x) (rd fr ix) len sz ag).bind fun v=>fi E call n os ⟨iG fr d v,lh,sh⟩:=by
 refine jM (d:=some d) (by rfl) hd ?_
 unfold one y9
 simp only[gA]
 cases h1:asNat (rd fr ix)with
 |none=>rfl
 |some j=>
  cases hx:rd fr x <;> try rfl
  simp only[]
  split
  ·exact oB
  ·rfl
def TX(x:T)(j:Nat):Option T:=match x with| .tup vs=>vs[j]? |_=>none
theorem ahi{x:fM}{j:Nat}(hd:d<n):fi E call n (⟨some d,.ext x j,none⟩::os) ⟨fr,lh,sh⟩=(TX (rd fr x) j).bind fun v=>fi E call n os ⟨iG fr d v,lh,sh⟩:=by
 refine jM (d:=some d) (by rfl) hd ?_
 unfold one TX
 simp only[gA]
 cases hx:rd fr x <;> try rfl
 exact oB
def Kj(x:T):Option T:=match x with| .s bs=>some (.i .i64 bs.length)|_=>none
theorem aae{x:fM}(hd:d<n):fi E call n (⟨some d,.lenS x,none⟩::os) ⟨fr,lh,sh⟩=(Kj (rd fr x)).bind fun v=>fi E call n os ⟨iG fr d v,lh,sh⟩:=by
 refine jM (d:=some d) (by rfl) hd ?_
 unfold one Kj
 simp only[gA]
 cases hx:rd fr x <;> rfl
theorem aaf{x:fM}(hd:d<n):fi E call n (⟨some d,.lenV x,none⟩::os) ⟨fr,lh,sh⟩=((qH (rd fr x)).map fun m=>T.i .i64 m).bind fun v=>fi E call n os ⟨iG fr d v,lh,sh⟩:=
 jM (d:=some d) (by rfl) hd oB
def mmV(isMax:Bool)(l:List T):Option T:=match l with|x::rest=>mN isMax x rest| []=>none
theorem amH{isMax:Bool}{args:List fM}(hd:d<n):fi E call n (⟨some d,.mm isMax args,none⟩::os) ⟨fr,lh,sh⟩=(mmV isMax (args.map (rd fr))).bind fun v=>fi E call n os ⟨iG fr d v,lh,sh⟩:=by
 refine jM (d:=some d) (by rfl) hd ?_
 unfold one mmV
 simp only[gA]
 cases hx:args.map (rd fr)with
 |nil=>rfl
 |cons x rest=>exact oB
def Io(x:T):Option T:=match x with| .vp cs=>some (.vp cs)| .ptr sp k g off=>some (.ptr sp k g off)| .fn f a c=>some (.fn f a c)|_=>none
theorem TY{x:fM}:one fr lh sh d (.nck x)=(Io (rd fr x)).map fun v=>(v,[]):=by
 unfold one Io
 simp only[gA]
 cases hx:rd fr x <;> rfl
theorem ahj{x:fM}(hd:d<n):fi E call n (⟨some d,.nck x,none⟩::os) ⟨fr,lh,sh⟩=(Io (rd fr x)).bind fun v=>fi E call n os ⟨iG fr d v,lh,sh⟩:=
 jM (d:=some d) (by rfl) hd TY
def ldE(e:fg)(g off m:Nat)(ag:Bool):Option T:=
 match e with
 |⟨g',.cells cs _ _⟩=>if g'=g then part cs off m ag else none
 |_=>none
theorem Mg{g g' off m wm:Nat}{ag bx:Bool}{cs:List T}:ldE ⟨g',.cells cs wm bx⟩ g off m ag=if g'=g then part cs off m ag else none:=rfl
def SQ(lh:fC fg)(sh:List fg)(x:T)(m:Nat)(ag:Bool):Option T:=
 match x with
 | .vp cs=>part cs 0 m ag
 | .ptr .L k g off=>ldE (be lh k) g off m ag
 | .ptr .S k g off=>ldE (gC sh k) g off m ag
 |_=>none
theorem PE{α:Type}{o:Option α}{h:Sp→Nat→fg}{nx:Nat}:(Q.of o).run h nx=o:=by cases o <;> rfl
theorem ldQ{h:Sp→Nat→fg}{nx g off m:Nat}{ag:Bool}(e:fg):Q.run h nx (if e.g=g then(match e.ob with| .cells cs _ _=>Q.of (part cs off m ag)|_=> .fail)else .fail)=ldE e g off m ag:=by
 obtain⟨g',ob⟩:=e
 unfold ldE
 by_cases hg:g'=g
 ·cases ob <;> simp only[hg,if_true] <;> first|rfl|exact PE
 ·cases ob <;> simp only[hg,if_false] <;> rfl
theorem Kk{x:T}{m:Nat}{ag:Bool}:(DF x m ag).run (St.mk fr lh sh).get sh.length=SQ lh sh x m ag:=by
 unfold DF SQ
 cases x <;> try rfl
 ·exact PE
 ·rename_i sp k g off
  cases sp
  ·exact ldQ (be lh k)
  ·exact ldQ (gC sh k)
theorem gJ{α β:Type}{h:Sp→Nat→fg}{nx:Nat}{f:α→Q β}: ∀(q:Q α),(q.bind f).run h nx=(q.run h nx).bind fun a=>(f a).run h nx
 | .ret a=>rfl
 | .fail=>rfl
 | .rd sp k g=>gJ (g (h sp k))
 | .new g=>gJ (g nx)
theorem amI{x:fM}{m:Nat}{ag:Bool}(hd:d<n):fi E call n (⟨some d,.ld x m ag,none⟩::os) ⟨fr,lh,sh⟩=(SQ lh sh (rd fr x) m ag).bind fun v=>fi E call n os ⟨iG fr d v,lh,sh⟩:=by
 refine jM (d:=some d) (by rfl) hd ?_
 unfold one
 simp only[gA,gJ,Kk]
 cases SQ lh sh (rd fr x) m ag <;> rfl
theorem TZ{z:List T}(hd:d<n):fi E call n (⟨some d,.alloc z false,none⟩::os) ⟨fr,lh,sh⟩=fi E call n os ⟨iG fr d (.ptr .L d ((be lh d).g+1) 0),qm lh d ⟨(be lh d).g+1,.cells z 0 true⟩,sh⟩:=by
 rw[qn (by rfl) (show CI n (some d)from hd)];rfl
theorem ahk{x:fM}(hd:d<n)(ht:noTup (rd fr x)=true):fi E call n (⟨some d,.box x false,none⟩::os) ⟨fr,lh,sh⟩=fi E call n os ⟨iG fr d (.ptr .L d ((be lh d).g+1) 0),qm lh d ⟨(be lh d).g+1,.cells (cellsOf (rd fr x)) 0 true⟩,sh⟩:=by
 rw[qn (by rfl) (show CI n (some d)from hd)]
 unfold one
 simp only[gA,ht]
 rfl
theorem T0(hd:d<n):fi E call n (⟨some d,.mkmap false,none⟩::os) ⟨fr,lh,sh⟩=fi E call n os ⟨iG fr d (.mp .L d ((be lh d).g+1)),qm lh d ⟨(be lh d).g+1,.map [] [] false⟩,sh⟩:=by
 rw[qn (by rfl) (show CI n (some d)from hd)];rfl
def PF(x:T)(bytes:Nat):Option Nat:=match asNat x with|some m=>if m*bytes≤roomy∧m≤roomy then some m else none|none=>none
theorem aah{z:List T}{bytes:Nat}{x:fM}(hd:d<n):fi E call n (⟨some d,.mksl z bytes x false,none⟩::os) ⟨fr,lh,sh⟩=
  (PF (rd fr x) bytes).bind fun m=>fi E call n os ⟨iG fr d (.isl .L d ((be lh d).g+1) 0 m z.length),qm lh d ⟨(be lh d).g+1,.cells (repl z m) 0 false⟩,sh⟩:=by
 rw[qn (by rfl) (show CI n (some d)from hd)]
 unfold one PF
 simp only[gA]
 cases asNat (rd fr x)with
 |none=>rfl
 |some m=>
  simp only[Bool.and_eq_true,decide_eq_true_eq]
  split <;> rfl
end
end Go.Ev
namespace Go.Ev
open Go
def froz1:T→Bool
 | .b _| .i .. | .s _| .nilsl| .sl .. | .nilptr| .vp _| .nilmp| .vm .. | .nilfn=>true
 |_=>false
def froz:T→Bool
 | .agg cs=>cs.all froz1
 | .tup cs=>cs.all froz1
 | .fn _ a c=>a.all froz1&&c.all froz1
 |t=>froz1 t
theorem tK{keep:Bool}{n:Nat}{t:T}(h:froz1 t=true):fz keep (n+1) t= .ret (t,[]):=by
 cases t <;> first|rfl|(simp[froz1]at h)
theorem oi{keep:Bool}{n:Nat}: ∀(ts:List T),ts.all froz1=true→gk (fz keep (n+1)) ts= .ret (ts,[])
 | [],_=>rfl
 |t::ts,h=>by
  simp only[List.all_cons,Bool.and_eq_true]at h
  simp only[gk,tK h.1,oi ts h.2,Q.bind,List.append_nil]
theorem DY{keep:Bool}{n:Nat}{cs:List T}:fz keep (n+1) (.agg cs)=(gk (fz keep n) cs).bind fun q=> .ret (.agg q.1,q.2):=rfl
theorem Ip{keep:Bool}{n:Nat}{cs:List T}:fz keep (n+1) (.tup cs)=(gk (fz keep n) cs).bind fun q=> .ret (.tup q.1,q.2):=rfl
theorem Yi{keep:Bool}{n f:Nat}{a c:List T}:fz keep (n+1) (.fn f a c)=(gk (fz keep n) a).bind fun p=>(gk (fz keep n) c).bind fun q=> .ret (.fn f p.1 q.1,p.2++q.2):=rfl
theorem oC{keep:Bool}{n:Nat}{t:T}(h:froz t=true):fz keep (n+2) t= .ret (t,[]):=by
 cases t with
 |agg cs=>simp only[froz]at h;rw[DY,oi cs h];rfl
 |tup cs=>simp only[froz]at h;rw[Ip,oi cs h];rfl
 |fn f a c=>simp only[froz,Bool.and_eq_true]at h;rw[Yi,oi a h.1,oi c h.2];rfl
 |_=>exact tK h
def fzV(lh:fC fg)(sh:List fg)(keep:Bool)(v:T):Option (T×List Up):=(fz keep fJ v).run (St.mk .nil lh sh).get sh.length
def Fo(lh:fC fg)(sh:List fg)(keep:Bool)(vs:List T):Option (List T×List Up):=(gk (fz keep fJ) vs).run (St.mk .nil lh sh).get sh.length
section
variable{lh:fC fg}{sh:List fg}{keep:Bool}
theorem tL{v:T}(h:froz v=true):fzV lh sh keep v=some (v,[]):=by
 unfold fzV fJ;rw[oC h];rfl
theorem DZ:Fo lh sh keep []=some ([],[]):=rfl
theorem rR{v:T}{vs:List T}:Fo lh sh keep (v::vs)=(fzV lh sh keep v).bind fun p=>(Fo lh sh keep vs).bind fun q=>some (p.1::q.1,p.2++q.2):=by
 unfold Fo fzV
 rw[gk,gJ]
 congr 1
 funext p
 rw[gJ]
 rfl
theorem tM{vs:List T}(h:vs.all froz=true):Fo lh sh keep vs=some (vs,[]):=by
 induction vs with
 |nil=>rfl
 |cons v vs ih=>
  simp only[List.all_cons,Bool.and_eq_true]at h
  rw[rR,tL h.1,ih h.2]
  rfl
def PG(m:Nat)(lh:fC fg)(sh:List fg)(k:Nat)(e:fg)(g off len sz:Nat):Option (T×List Up):=
 match e with
 |⟨g',.cells cs _ false⟩=>if g'=g∧off+len*sz≤cs.length then some (.sl ((cs.drop off).take (len*sz)) len false,[(.L,k,⟨g,.cells cs cs.length false⟩)])else none
 |⟨g',.cells cs _ true⟩=>if g'=g∧off+len*sz≤cs.length then((gk (fz false m) ((cs.drop off).take (len*sz))).run (St.mk .nil lh sh).get sh.length).map fun q=>(.sl q.1 len false,q.2++ [(.L,k,⟨g,.cells cs cs.length true⟩)])else none
 |_=>none
theorem ahl{m k g off len sz:Nat}(e:fg):Q.run (St.mk .nil lh sh).get sh.length (if e.g=g then(match e.ob with
        | .cells cs _ false=>if off+len*sz≤cs.length then .ret (T.sl ((cs.drop off).take (len*sz)) len false,[(Sp.L,k,(⟨g,.cells cs cs.length false⟩:fg))])else .fail
        | .cells cs _ true=>if off+len*sz≤cs.length then(gk (fz false m) ((cs.drop off).take (len*sz))).bind fun q=> .ret (T.sl q.1 len false,q.2++ [(Sp.L,k,(⟨g,.cells cs cs.length true⟩:fg))])else .fail
        |_=> .fail)else .fail)=PG m lh sh k e g off len sz:=by
 obtain⟨g',ob⟩:=e
 unfold PG
 by_cases hg:g'=g
 ·cases ob with
  |cells cs wm bx=>
   cases bx
   ·by_cases hl:off+len*sz≤cs.length <;> simp[hg,hl,Q.run]
   ·by_cases hl:off+len*sz≤cs.length
    ·simp only[hg,hl,if_true,and_self,gJ]
     cases (gk (fz false m) ((cs.drop off).take (len*sz))).run (St.mk .nil lh sh).get sh.length <;> rfl
    ·simp[hg,hl,Q.run]
  |_=>simp[hg,Q.run]
 ·cases ob with
  |cells cs wm bx=>cases bx <;> simp[hg,Q.run]
  |_=>simp[hg,Q.run]
theorem Kl{k g off len sz:Nat}:fzV lh sh keep (.isl .L k g off len sz)=PG 7 lh sh k (be lh k) g off len sz:=by
 cases keep <;> exact ahl (be lh k)
def mpV(k:Nat)(e:fg)(g:Nat):Option (T×List Up):=
 match e with
 |⟨g',.map ks vs _⟩=>if g'=g then some (.vm ks vs,[(.L,k,⟨g,.map ks vs true⟩)])else none
 |_=>none
theorem mpQ{h:Sp→Nat→fg}{nx k g:Nat}(e:fg):Q.run h nx (if e.g=g then(match e.ob with
        | .map ks vs _=> .ret (T.vm ks vs,[(Sp.L,k,(⟨g,.map ks vs true⟩:fg))])
        |_=> .fail)else .fail)=mpV k e g:=by
 obtain⟨g',ob⟩:=e
 unfold mpV
 by_cases hg:g'=g <;> cases ob <;> simp[hg,Q.run]
theorem aai{k g:Nat}:fzV lh sh keep (.mp .L k g)=mpV k (be lh k) g:=by
 cases keep <;> exact mpQ (be lh k)
theorem acP{k g off len sz:Nat}:fzV lh sh true (.isl .S k g off len sz)=some (.isl .S k g off len sz,[]):=rfl
theorem acQ{k g off:Nat}:fzV lh sh true (.ptr .S k g off)=some (.ptr .S k g off,[]):=rfl
theorem acR{k g:Nat}:fzV lh sh true (.mp .S k g)=some (.mp .S k g,[]):=rfl
theorem T1{cs:List T}:fzV lh sh keep (.agg cs)=((gk (fz keep 7) cs).run (St.mk .nil lh sh).get sh.length).map fun q=>(.agg q.1,q.2):=by
 unfold fzV fJ
 rw[DY,gJ]
 cases (gk (fz keep 7) cs).run (St.mk .nil lh sh).get sh.length <;> rfl
theorem T2{cs:List T}:fzV lh sh keep (.tup cs)=((gk (fz keep 7) cs).run (St.mk .nil lh sh).get sh.length).map fun q=>(.tup q.1,q.2):=by
 unfold fzV fJ
 rw[Ip,gJ]
 cases (gk (fz keep 7) cs).run (St.mk .nil lh sh).get sh.length <;> rfl
end
section
variable{E:Env}{call:qz}{n:Nat}{fr:Fr}{lh:fC fg}{sh:List fg}{os:List fe}{d:Nat}
theorem vB:(St.mk fr lh sh).get=(St.mk .nil lh sh).get:=by funext sp k;cases sp <;> rfl
theorem rS: ∀(us:List Up) (lh:fC fg) (sh:List fg),(St.mk fr lh sh).ups us={(St.mk .nil lh sh).ups us with fr:=fr}
 | [],lh,sh=>rfl
 |(.L,k,e)::us,lh,sh=>rS us (qm lh k e) sh
 |(.S,k,e)::us,lh,sh=>rS us lh (il sh k e)
def sI(lh:fC fg)(sh:List fg)(x v:T)(m:Nat):Option (fC fg×List fg):=
 match(sr x v m).run (St.mk .nil lh sh).get sh.length with
 |some (.val _ us)=>some (((St.mk .nil lh sh).ups us).lh,((St.mk .nil lh sh).ups us).sh)
 |none=>none
theorem amJ{x v:fM}{m:Nat}:fi E call n (⟨none,.st x v m,none⟩::os) ⟨fr,lh,sh⟩=(sI lh sh (rd fr x) (rd fr v) m).bind fun r=>fi E call n os ⟨fr,r.1,r.2⟩:=by
 rw[qn (by rfl) (show CI n none from trivial)]
 unfold one sI
 simp only[gA,vB]
 cases h:(sr (rd fr x) (rd fr v) m).run (St.mk .nil lh sh).get sh.length with
 |none=>rfl
 |some r=>
  obtain⟨u,us⟩:=r
  simp only[Option.bind_some,vA,nQ]
  rw[rS us lh sh]
def T3(lh:fC fg)(sh:List fg)(k:Nat)(e:fg)(g off:Nat)(v:T)(m:Nat):Option (fC fg×List fg):=
 match e with
 |⟨g',.cells cs wm true⟩=>if g'=g∧(cellsOf v).length=m∧noTup v=true∧wm≤off∧off+m≤cs.length then some (qm lh k ⟨g,.cells (splice cs off (cellsOf v)) wm true⟩,sh)else none
 |⟨g',.cells cs wm false⟩=>if g'=g∧(cellsOf v).length=m∧noTup v=true∧wm≤off∧off+m≤cs.length then
    (fzV lh sh false v).bind fun p=>if mM p.2 .L k=true∨noTup p.1=false∨(cellsOf p.1).length≠m then none else some (((St.mk .nil lh sh).ups (p.2++ [(.L,k,⟨g,.cells (splice cs off (cellsOf p.1)) wm false⟩)])).lh,((St.mk .nil lh sh).ups (p.2++ [(.L,k,⟨g,.cells (splice cs off (cellsOf p.1)) wm false⟩)])).sh)
  else none
 |_=>none
def jP(lh:fC fg)(sh:List fg):Option zl→Option (fC fg×List fg)
 |some (.val _ us)=>some (((St.mk .nil lh sh).ups us).lh,((St.mk .nil lh sh).ups us).sh)
 |none=>none
def T4(k g off m:Nat)(v:T)(e:fg):Q zl:=if e.g=g then match e.ob with
     | .cells cs wm bx=>if wm≤off&&off+m≤cs.length then
         (if bx&&Sp.L== .L then .ret (.val gf [(Sp.L,k,⟨g,.cells (splice cs off (cellsOf v)) wm bx⟩)])
         else(fz (bx&&Sp.L== .S) fJ v).bind fun p=>if mM p.2 .L k|| !noTup p.1||(cellsOf p.1).length≠m then .fail else .ret (.val gf (p.2++ [(Sp.L,k,⟨g,.cells (splice cs off (cellsOf p.1)) wm bx⟩)])))
       else .fail
     |_=> .fail
    else .fail
theorem stQ{k g off m:Nat}{v:T}(e:fg)(h1:(cellsOf v).length=m)(h2:noTup v=true):jP lh sh (Q.run (St.mk .nil lh sh).get sh.length (T4 k g off m v e))=T3 lh sh k e g off v m:=by
 obtain⟨g',ob⟩:=e
 unfold T3 T4
 by_cases hg:g'=g
 ·subst hg
  cases ob with
  |none=>simp[Q.run,jP]
  |map ks vs z=>simp[Q.run,jP]
  |cells cs wm bx=>
   by_cases hb:wm≤off∧off+m≤cs.length
   ·cases bx with
    |true=>simp[hb.1,hb.2,h1,h2,Q.run,Yh,zq,jP]
    |false=>
     have Nx:(decide (wm≤off)&&decide (off+m≤cs.length))=true:=by simp[hb.1,hb.2]
     simp only[if_true,Nx,Bool.false_and,Bool.false_eq_true,if_false,gJ]
     rw[if_pos (show True∧(cellsOf v).length=m∧noTup v=true∧wm≤off∧off+m≤cs.length from⟨trivial,h1,h2,hb⟩)]
     show jP lh sh (Option.bind (fzV lh sh false v) _)=_
     cases hz:fzV lh sh false v with
     |none=>rfl
     |some p=>
      simp only[Option.bind_some]
      by_cases hh:(mM p.2 .L k=true∨noTup p.1=false∨(cellsOf p.1).length≠m)
      ·rw[if_pos hh]
       have:(mM p.2 .L k|| !noTup p.1||decide ((cellsOf p.1).length≠m))=true:=by
        rcases hh with h|h|h
        ·simp[h]
        ·simp[h]
        ·simp[h]
       simp only[this,if_true,Q.run,jP]
      ·rw[if_neg hh]
       have:(mM p.2 .L k|| !noTup p.1||decide ((cellsOf p.1).length≠m))=false:=by
        simp only[not_or]at hh
        obtain⟨h3,h4,h5⟩:=hh
        have J1:(cellsOf p.1).length=m:=Classical.byContradiction h5
        simp[h3,h4,J1]
       simp only[this,Bool.false_eq_true,if_false,Q.run,jP]
   ·have Nx:(decide (wm≤off)&&decide (off+m≤cs.length))=false:=by
     cases hx:(decide (wm≤off)&&decide (off+m≤cs.length))with
     |false=>rfl
     |true=>simp at hx;exact absurd hx hb
    cases bx
    ·simp only[if_true,Nx,Bool.false_eq_true,if_false,Q.run,jP]
     rw[if_neg (by rintro⟨_,_,_,a⟩;exact hb a)]
    ·simp only[if_true,Nx,Bool.false_eq_true,if_false,Q.run,jP]
     rw[if_neg (by rintro⟨_,_,_,a⟩;exact hb a)]
 ·cases ob with
  |none=>simp[hg,Q.run,jP]
  |map ks vs z=>simp[hg,Q.run,jP]
  |cells cs wm bx=>cases bx <;> simp[hg,Q.run,jP]
theorem ahm{k g off m:Nat}{v:T}:sI lh sh (.ptr .L k g off) v m=T3 lh sh k (be lh k) g off v m:=by
 by_cases h1:(cellsOf v).length=m
 ·cases h2:noTup v with
  |false=>
   unfold sI sr
   have:(decide ((cellsOf v).length≠m)|| !noTup v)=true:=by simp[h2]
   simp only[this,if_true,Q.run]
   unfold T3
   split <;> simp[h2]
  |true=>
   unfold sI sr
   have:(decide ((cellsOf v).length≠m)|| !noTup v)=false:=by simp[h1,h2]
   simp only[this,Bool.false_eq_true,if_false]
   exact stQ (be lh k) h1 h2
 ·unfold sI sr
  have:(decide ((cellsOf v).length≠m)|| !noTup v)=true:=by simp[h1]
  simp only[this,if_true,Q.run]
  unfold T3
  split <;> simp[h1]
theorem T5{k g g' off m wm:Nat}{cs:List T}{v:T}:T3 lh sh k ⟨g',.cells cs wm true⟩ g off v m=if g'=g∧(cellsOf v).length=m∧noTup v=true∧wm≤off∧off+m≤cs.length then some (qm lh k ⟨g,.cells (splice cs off (cellsOf v)) wm true⟩,sh)else none:=rfl
theorem T6{k g g' off m wm:Nat}{cs:List T}{v:T}(hf:froz v=true):T3 lh sh k ⟨g',.cells cs wm false⟩ g off v m=if g'=g∧(cellsOf v).length=m∧noTup v=true∧wm≤off∧off+m≤cs.length then some (qm lh k ⟨g,.cells (splice cs off (cellsOf v)) wm false⟩,sh)else none:=by
 unfold T3
 simp only[tL hf,Option.bind_some,mM,List.any_nil,Bool.false_eq_true,false_or]
 by_cases h:g'=g∧(cellsOf v).length=m∧noTup v=true∧wm≤off∧off+m≤cs.length
 ·rw[if_pos h,if_pos h,if_neg (by rintro(hc|hc) <;> simp_all)]
  rfl
 ·rw[if_neg h,if_neg h]
def slC(lh:fC fg)(sh:List fg)(sz:Nat)(x:T):Option (Nat×List T):=(gU sz x).run (St.mk .nil lh sh).get sh.length
theorem T7{sz:Nat}:slC lh sh sz .nilsl=some (0,[]):=rfl
theorem PH{sz len:Nat}{cs:List T}{ex:Bool}:slC lh sh sz (.sl cs len ex)=if cs.length=len*sz then some (len,cs)else none:=by
 unfold slC gU;simp only[];split <;> rfl
theorem apF{l:List Nat}:slC lh sh 1 (.s l)=some (l.length,l.map fun(n:Nat)=>T.i .u8 (n:Int)):=rfl
def slE(sz:Nat)(e:fg)(g off len:Nat):Option (Nat×List T):=
 match e with
 |⟨g',.cells cs _ false⟩=>if g'=g∧off+len*sz≤cs.length then some (len,(cs.drop off).take (len*sz))else none
 |_=>none
def Mh(lh:fC fg)(k:Nat)(e:fg)(g off len sz pn bytes:Nat)(p:Nat×List T):Option (T×fC fg):=
 match e with
 |⟨g',.cells cs wm false⟩=>if pn=sz∧off=0∧(len+p.1)*bytes≤roomy∧g'=g∧len*sz=cs.length then some (.isl .L k (g+1) 0 (len+p.1) sz,qm lh k ⟨g+1,.cells (cs++p.2) wm false⟩)else none
 |_=>none
def AN(lh:fC fg)(d sz bytes:Nat)(s:T)(p:Nat×List T):Option (T×fC fg):=
 if p.1=0 then(match s with| .nilsl| .sl .. | .isl .. =>some (s,lh)|_=>none)else
 match s with
 | .nilsl=>if p.1*bytes≤roomy then some (.isl .L d ((be lh d).g+1) 0 p.1 sz,qm lh d ⟨(be lh d).g+1,.cells p.2 0 false⟩)else none
 | .sl cs len true=>if cs.length=len*sz∧(len+p.1)*bytes≤roomy then some (.isl .L d ((be lh d).g+1) 0 (len+p.1) sz,qm lh d ⟨(be lh d).g+1,.cells (cs++p.2) 0 false⟩)else none
 | .isl .L k g off len pn=>Mh lh k (be lh k) g off len sz pn bytes p
 |_=>none
def Yj(k g off len sz pn bytes:Nat)(p:Nat×List T)(e:fg):Q zl:=
     if e.g=g then match e.ob with
      | .cells cs wm false=>if len*sz=cs.length then .ret (.val (.isl .L k (g+1) 0 (len+p.1) sz) [(.L,k,⟨g+1,.cells (cs++p.2) wm false⟩)])else .fail
      |_=> .fail
     else .fail
theorem amK{k g off len sz pn bytes:Nat}{p:Nat×List T}(e:fg)(h1:pn=sz∧off=0∧(len+p.1)*bytes≤roomy):
  ((nQ (Q.run (St.mk .nil lh sh).get sh.length (Yj k g off len sz pn bytes p e))).bind fun r=>fi E call n os {(St.mk fr lh sh).ups r.2 with fr:=iG fr d r.1})=
    (Mh lh k e g off len sz pn bytes p).bind fun q=>fi E call n os ⟨iG fr d q.1,q.2,sh⟩:=by
 obtain⟨g',ob⟩:=e
 unfold Yj Mh
 by_cases hg:g'=g
 ·cases ob with
  |cells cs wm bx=>
   cases bx
   ·by_cases hl:len*sz=cs.length
    ·simp only[hg,hl,if_true,Q.run,nQ,h1,and_self,Option.bind_some]
     rfl
    ·simp only[hg,hl,if_true,if_false,Q.run,nQ,and_false];rfl
   ·simp only[hg,if_true,Q.run,nQ];rfl
  |_=>simp only[hg,if_true,Q.run,nQ];rfl
 ·cases ob with
  |cells cs wm bx=>
   cases bx
   ·simp only[hg,if_false,Q.run,nQ,false_and,and_false];rfl
   ·simp only[hg,if_false,Q.run,nQ];rfl
  |_=>simp only[hg,if_false,Q.run,nQ];rfl
theorem ahn{sz bytes:Nat}{s x:fM}(hd:d<n)(hs: ∀k g off len sz,rd fr s≠ .isl .S k g off len sz):fi E call n (⟨some d,.app sz bytes s x false false,none⟩::os) ⟨fr,lh,sh⟩=
  (slC lh sh sz (rd fr x)).bind fun p=>(AN lh d sz bytes (rd fr s) p).bind fun q=>fi E call n os ⟨iG fr d q.1,q.2,sh⟩:=by
 rw[qn (by rfl) (show CI n (some d)from hd)]
 unfold one slC
 simp only[gA,qe,gJ,vB]
 cases hx:(gU sz (rd fr x)).run (St.mk .nil lh sh).get sh.length with
 |none=>rfl
 |some p=>
  simp only[Option.bind_some]
  unfold AN
  by_cases hp:p.1=0
  ·simp only[if_pos hp]
   cases SR:rd fr s <;> rfl
  ·simp only[if_neg hp]
   cases SR:rd fr s <;> try rfl
   ·simp only[]
    split <;> rfl
   ·rename_i cs len ex
    cases ex
    ·rfl
    ·simp only[Bool.and_eq_true,decide_eq_true_eq]
     split <;> rfl
   ·rename_i sp k g off len pn
    cases sp
    ·simp only[Bool.and_eq_true,decide_eq_true_eq]
     by_cases h1:(pn=sz∧off=0)∧(len+p.1)*bytes≤roomy
     ·simp only[if_pos h1]
      exact amK (be lh k) ⟨h1.1.1,h1.1.2,h1.2⟩
     ·simp only[if_neg h1,Q.run,nQ]
      unfold Mh
      split
      ·rw[if_neg (by rintro⟨a,b,c,_⟩;exact h1 ⟨⟨a,b⟩,c⟩)]
       rfl
      ·rfl
    ·exact absurd SR (hs _ _ _ _ _)
def tN(sz:Nat)(x:T)(l h:Nat):Option T:=
 match x with
 | .nilsl=>if l=0∧h=0 then some .nilsl else none
 | .sl cs len ex=>if l≤h∧h≤len∧cs.length=len*sz then some (.sl ((cs.drop (l*sz)).take ((h-l)*sz)) (h-l) (ex&&decide (h=len)))else none
 | .isl sp k g off len pn=>if l≤h∧h≤len∧pn=sz then some (if l=h then .sl [] 0 false else .isl sp k g (off+l*sz) (h-l) sz)else none
 |_=>none
def T8(fr:Fr)(sz:Nat)(x:T)(l h:Option fM):Option T:=
 (qH x).bind fun m=>(iS (rd fr) 0 l).bind fun l=>(iS (rd fr) m h).bind fun h=>tN sz x l h
theorem Mi{sz l h nx:Nat}{x:T}{hp:Sp→Nat→fg}:(yq sz x l h).run hp nx=tN sz x l h:=by
 unfold yq tN
 cases x <;> try rfl
 ·simp only[Bool.and_eq_true,decide_eq_true_eq];split <;> rfl
 ·simp only[Bool.and_eq_true,decide_eq_true_eq,and_assoc];split <;> rfl
 ·simp only[Bool.and_eq_true,decide_eq_true_eq,and_assoc];split <;> rfl
theorem aho{sz:Nat}{x:fM}{l h:Option fM}(hd:d<n):fi E call n (⟨some d,.slV sz x l h none,none⟩::os) ⟨fr,lh,sh⟩=(T8 fr sz (rd fr x) l h).bind fun v=>fi E call n os ⟨iG fr d v,lh,sh⟩:=by
 refine jM (d:=some d) (by rfl) hd ?_
 unfold one T8
 simp only[gA]
 cases qH (rd fr x)with
 |none=>rfl
 |some m=>
  simp only[Option.bind_some]
  cases iS (rd fr) 0 l with
  |none=>rfl
  |some l=>
   cases iS (rd fr) m h with
   |none=>rfl
   |some h=>
    simp only[gJ,Mi,Option.bind_some]
    cases tN sz (rd fr x) l h <;> rfl
def lkE(e:fg)(g:Nat)(ek:EK)(k z:T)(ok:Bool):Option T:=
 match e with
 |⟨g',.map ks vs _⟩=>if g'=g then mX ek ks vs k z ok else none
 |_=>none
def lkV(lh:fC fg)(sh:List fg)(ek:EK)(m k z:T)(ok:Bool):Option T:=
 match m with
 | .nilmp=>if isKey ek k=true then some (if ok=true then .tup [z,.b false]else z)else none
 | .vm ks vs=>mX ek ks vs k z ok
 | .mp .L kk g=>lkE (be lh kk) g ek k z ok
 | .mp .S kk g=>lkE (gC sh kk) g ek k z ok
 |_=>none
theorem lkQ{h:Sp→Nat→fg}{nx g:Nat}{ek:EK}{k z:T}{ok:Bool}(e:fg):nQ (Q.run h nx (if e.g=g then(match e.ob with| .map ks vs _=>val (mX ek ks vs k z ok)|_=> .fail)else .fail))=(lkE e g ek k z ok).map fun v=>(v,[]):=by
 obtain⟨g',ob⟩:=e
 unfold lkE
 by_cases hg:g'=g
 ·cases ob <;> simp only[hg,if_true] <;> first|rfl|exact oB
 ·cases ob <;> simp only[hg,if_false] <;> rfl
theorem amL{ek:EK}{m k:fM}{z:T}{ok:Bool}(hd:d<n):fi E call n (⟨some d,.lk ek m k z ok,none⟩::os) ⟨fr,lh,sh⟩=(lkV lh sh ek (rd fr m) (rd fr k) z ok).bind fun v=>fi E call n os ⟨iG fr d v,lh,sh⟩:=by
 refine jM (d:=some d) (by rfl) hd ?_
 unfold one lkV
 simp only[gA]
 cases hm:rd fr m <;> try rfl
 ·simp only[];split <;> rfl
 ·exact oB
 ·rename_i sp kk g
  cases sp
  ·exact lkQ (be lh kk)
  ·exact lkQ (gC sh kk)
def muE(lh:fC fg)(kk:Nat)(e:fg)(g:Nat)(ek:EK)(k v:T):Option (fC fg):=
 match e with
 |⟨g',.map ks vs false⟩=>if g'=g∧isKey ek k=true then(pH ek k v ks vs).map fun q=>qm lh kk ⟨g,.map q.1 q.2 false⟩else none
 |_=>none
def T9(kk g:Nat)(ek:EK)(k v:T)(e:fg):Q zl:=if e.g=g&&isKey ek k then match e.ob with
      | .map ks vs false=>(fz false fJ v).bind fun p=>match pH ek k p.1 ks vs with
        |some q=>if mM p.2 .L kk then .fail else .ret (.val gf (p.2++ [(.L,kk,⟨g,.map q.1 q.2 false⟩)]))
        |none=> .fail
      |_=> .fail
     else .fail
theorem muQ{kk g:Nat}{ek:EK}{k v:T}(e:fg)(hf:froz v=true):((nQ (Q.run (St.mk fr lh sh).get sh.length (T9 kk g ek k v e))).bind fun r=>fi E call n os {(St.mk fr lh sh).ups r.2 with fr:=fr})=
  (muE lh kk e g ek k v).bind fun fH=>fi E call n os ⟨fr,fH,sh⟩:=by
 obtain⟨g',ob⟩:=e
 unfold T9 muE
 by_cases hg:g'=g∧isKey ek k=true
 ·have:(decide (g'=g)&&isKey ek k)=true:=by simp[hg.1,hg.2]
  simp only[this,if_true]
  cases ob with
  |none=>rfl
  |cells cs wm bx=>rfl
  |map ks vs z=>
   cases z with
   |true=>rfl
   |false=>
    simp only[if_pos hg]
    unfold fJ
    rw[oC hf]
    simp only[Q.bind]
    cases pH ek k v ks vs with
    |none=>rfl
    |some q=>simp only[mM,List.any_nil,Bool.false_eq_true,if_false,Q.run,List.nil_append];rfl
 ·have:(decide (g'=g)&&isKey ek k)=false:=by
   cases h:(decide (g'=g)&&isKey ek k)with
   |false=>rfl
   |true=>simp at h;exact absurd h hg
  simp only[this,Bool.false_eq_true,if_false,Q.run,nQ]
  cases ob with
  |none=>rfl
  |cells cs wm bx=>rfl
  |map ks vs z=>
   cases z with
   |true=>rfl
   |false=>simp only[if_neg hg];rfl
theorem ahp{ek:EK}{m k v:fM}{kk g:Nat}(hm:rd fr m= .mp .L kk g)(hf:froz (rd fr v)=true):fi E call n (⟨none,.mu ek m k v,none⟩::os) ⟨fr,lh,sh⟩=(muE lh kk (be lh kk) g ek (rd fr k) (rd fr v)).bind fun fH=>fi E call n os ⟨fr,fH,sh⟩:=by
 rw[qn (by rfl) (show CI n none from trivial)]
 unfold one
 simp only[gA,hm]
 exact muQ (be lh kk) hf
def muV(lh:fC fg)(ek:EK)(m k v:T):Option (fC fg):=
 match m with
 | .mp .L kk g=>muE lh kk (be lh kk) g ek k v
 |_=>none
theorem amM{ek:EK}{m k v:fM}(hm: ∀kk g,rd fr m≠ .mp .S kk g)(hf:froz (rd fr v)=true):fi E call n (⟨none,.mu ek m k v,none⟩::os) ⟨fr,lh,sh⟩=(muV lh ek (rd fr m) (rd fr k) (rd fr v)).bind fun fH=>fi E call n os ⟨fr,fH,sh⟩:=by
 cases h:rd fr m with
 |mp sp kk g=>
  cases sp with
  |L=>rw[ahp h hf];rfl
  |S=>exact absurd h (hm kk g)
 |_=>
  rw[qn (by rfl) (show CI n none from trivial)]
  unfold one
  simp only[gA,h]
  rfl
def Mj(z:List T)(len:Nat)(is:List Nat)(vs:List T):Option T:=
 if(vs.all fun v=>(cellsOf v).length=z.length&&noTup v)=true then(px (repl z len) ((is.map fun i=>i*z.length).zip (vs.map cellsOf))).map fun cs=> .sl cs len true else none
theorem ahq{z:List T}{len:Nat}{ps:List (Nat×fM)}(hd:d<n):fi E call n (⟨some d,.bsl z len ps,none⟩::os) ⟨fr,lh,sh⟩=
  (Fo lh sh false (ps.map fun p=>rd fr p.2)).bind fun q=>(Mj z len (ps.map (·.1)) q.1).bind fun v=>fi E call n os {(St.mk fr lh sh).ups q.2 with fr:=iG fr d v}:=by
 rw[qn (by rfl) (show CI n (some d)from hd)]
 unfold one Fo Mj
 simp only[gA,gJ,vB]
 cases (gk (fz false fJ) (ps.map fun p=>rd fr p.2)).run (St.mk .nil lh sh).get sh.length with
 |none=>rfl
 |some q=>
  simp only[Option.bind_some]
  have e:(ps.map (·.1)).map (fun i=>i*z.length)=ps.map fun p=>p.1*z.length:=by rw[List.map_map];rfl
  rw[e]
  split
  ·cases px (repl z len) ((ps.map fun p=>p.1*z.length).zip (q.1.map cellsOf)) <;> rfl
  ·rfl
theorem aaj{d:Option Nat}{op:kG}{f:Nat}{args:List T}(hc:gD (rd fr) op=some (some (f,args)))(hd:CI n d):
  fi E call n (⟨d,op,none⟩::os) ⟨fr,lh,sh⟩=(gq E call (d.getD 0) ⟨fr,lh,sh⟩ f args).bind fun r=>fi E call n os ⟨vA fr d r.1,r.2.lh,r.2.sh⟩:=by
 simp only[fi,gh,jE,hc]
 cases gq E call (d.getD 0) ⟨fr,lh,sh⟩ f args with
 |none=>rfl
 |some r=>
  simp only[Option.bind_some]
  cases d with
  |none=>rfl
  |some d=>simp only[lR,if_pos (show d<n from hd),vA,Option.map_some]
theorem aak{f:Nat}{as:List fM}(hd:d<n):fi E call n (⟨some d,.callf f as,none⟩::os) ⟨fr,lh,sh⟩=(gq E call d ⟨fr,lh,sh⟩ f (as.map (rd fr))).bind fun r=>fi E call n os ⟨iG fr d r.1,r.2.lh,r.2.sh⟩:=
 aaj (d:=some d) rfl hd
theorem Fp{dd:Nat}{af:fv}{f:Nat}{args:List T}(hf:E.fn f=some af)(he:af.eff=false)(hw:af.own=none):gq E call dd ⟨fr,lh,sh⟩ f args=
  (Fo lh sh false args).bind fun q=>(call f q.1 []).bind fun r=>some (r.1,if scalar r.1=true then⟨fr,lh,sh⟩else(St.mk fr lh sh).ups q.2):=by
 unfold gq Fo
 simp only[hf,he,hw,vB]
 cases (gk (fz false fJ) args).run (St.mk .nil lh sh).get sh.length with
 |none=>rfl
 |some q=>
  simp only[Bool.false_eq_true,if_false,Option.bind_some]
  cases call f q.1 [] <;> rfl
theorem Fk{dd:Nat}{af:fv}{f:Nat}{args:List T}(hf:E.fn f=some af)(he:af.eff=false)(hw:af.own=none)(hz:args.all froz=true):gq E call dd ⟨fr,lh,sh⟩ f args=
  (call f args []).bind fun r=>some (r.1,⟨fr,lh,sh⟩):=by
 rw[Fp hf he hw,tM hz]
 simp only[Option.bind_some,zq,ite_self]
theorem Gj{dd:Nat}{g:List T→Option T}{f:Nat}{args:List T}(hf:E.fn f=none)(he:E.ext f=some g):gq E call dd ⟨fr,lh,sh⟩ f args=
  (Fo lh sh false args).bind fun q=>(g q.1).bind fun r=>some (r,⟨fr,lh,sh⟩):=by
 unfold gq Fo
 simp only[hf,he,vB]
 cases (gk (fz false fJ) args).run (St.mk .nil lh sh).get sh.length with
 |none=>rfl
 |some q=>
  simp only[Option.bind_some]
  cases g q.1 <;> rfl
theorem PI{d:Option Nat}{op:kG}{j:Nat}{w:Bool}(h:an fr j= .b w):fi E call n (⟨d,op,some (j,w)⟩::os) ⟨fr,lh,sh⟩=fi E call n (⟨d,op,none⟩::os) ⟨fr,lh,sh⟩:=by
 simp only[fi,gh,h,if_true]
theorem Iq{d:Option Nat}{op:kG}{j:Nat}{w:Bool}(hd:CI n d)(h:an fr j= .b (!w)):fi E call n (⟨d,op,some (j,w)⟩::os) ⟨fr,lh,sh⟩=fi E call n os ⟨vA fr d gf,lh,sh⟩:=by
 simp only[fi,gh,h]
 rw[if_neg (by cases w <;> simp)]
 cases d with
 |none=>rfl
 |some d=>simp only[lR,if_pos (show d<n from hd),vA,Option.map_some]
theorem Km{d:Option Nat}{op:kG}{j:Nat}{w:Bool}(hd:CI n d)(h:an fr j=gf):fi E call n (⟨d,op,some (j,w)⟩::os) ⟨fr,lh,sh⟩=fi E call n os ⟨vA fr d gf,lh,sh⟩:=by
 simp only[fi,gh,h,gf]
 cases d with
 |none=>rfl
 |some d=>simp only[lR,if_pos (show d<n from hd),vA,Option.map_some]
def onB{α:Type}(t:T)(f:Bool→Option α):Option α:=match t with| .b x=>f x|_=>none
theorem apH{α:Type}{x:Bool}{f:Bool→Option α}:onB (.b x) f=f x:=rfl
theorem ahr{g8:List FP}{st:St}:fN E call n [] g8 st=some st:=rfl
end
section
variable{E:Env}{n:Nat}{fr:Fr}{lh:fC fg}{sh:List fg}
def PJ(t:T)(x y:Option (Out×St)):Option (Out×St):=match t with| .b c=>if c=true then x else y|_=>none
theorem akq{c:Bool}{x y:Option (Out×St)}:PJ (.b c) x y=if c=true then x else y:=rfl
theorem PK{c:fM}{a b:fm}:DC E n (.cond c a b) ⟨fr,lh,sh⟩=PJ (rd fr c) (DC E n a ⟨fr,lh,sh⟩) (DC E n b ⟨fr,lh,sh⟩):=by
 rw[TT,jE]
 unfold PJ
 cases h:rd fr c <;> try rfl
 rename_i x
 cases x <;> rfl
theorem andThen_ite{c:Prop}[Decidable c]{x y:Option (Out×St)}{f:St→Option (Out×St)}:andThen (if c then x else y) f=if c then andThen x f else andThen y f:=by split <;> rfl
theorem Mk{c:Prop}[Decidable c]{id:Nat}{x y:Option (Out×St)}:yK id (if c then x else y)=if c then yK id x else yK id y:=by split <;> rfl
theorem Ua{α β:Type}{c:Prop}[Decidable c]{x y:Option α}{f:α→β}:(if c then x else y).map f=if c then x.map f else y.map f:=by split <;> rfl
theorem PL{α β:Type}{c:Prop}[Decidable c]{x y:Option α}{f:α→Option β}:(if c then x else y).bind f=if c then x.bind f else y.bind f:=by split <;> rfl
def AO(fr:Fr)(lh:fC fg)(sh:List fg):List rF→Option (List T)
 | []=>some []
 | .tmp t::rs=>(AO fr lh sh rs).map fun vs=>an fr t::vs
 | .cell t m ag::rs=>(SQ lh sh (an fr t) m ag).bind fun v=>(AO fr lh sh rs).map fun vs=>v::vs
theorem xO: ∀rs,nk ⟨fr,lh,sh⟩ rs=AO fr lh sh rs
 | []=>rfl
 | .tmp t::rs=>by
   rw[nk,AO,xO rs]
   simp only[FC]
   cases AO fr lh sh rs <;> rfl
 | .cell t m ag::rs=>by
   rw[nk,AO,xO rs]
   simp only[FC,Kk]
   cases SQ lh sh (an fr t) m ag <;> cases AO fr lh sh rs <;> rfl
def PM(lh:fC fg)(sh:List fg)(eff:Bool)(vs:List T):Option (T×List fg):=
 (fzV lh sh eff (match vs with| [v]=>v|vs=> .tup vs)).map fun p=>(p.1,((St.mk .nil lh sh).ups p.2).sh)
theorem Ml{eff:Bool}{vs:List T}:answer eff vs ⟨fr,lh,sh⟩=PM lh sh eff vs:=by
 unfold answer PM fzV
 rw[vB]
 cases (fz eff fJ (match vs with| [v]=>v|vs=> .tup vs)).run (St.mk .nil lh sh).get sh.length with
 |none=>rfl
 |some p=>simp only[Option.map_some];rw[rS]
end
theorem uz{fr fR:Fr}{n:Nat}{d:Option Nat}{v:T}(h:lR fr n d v=some fR){s:Nat}(hs:some s≠d):an fR s=an fr s:=by
 cases d with
 |none=>simp[lR]at h;rw[h]
 |some d=>
  simp only[lR]at h
  split at h
  ·cases h;exact PC _ _ (by intro e;exact hs (by rw[e]))
  ·cases h
theorem yL{E:Env}{call:qz}{n:Nat}{o:fe}{st gj:St}(h:gh E call n o st=some gj){s:Nat}(hs:some s≠o.d):an gj.fr s=an st.fr s:=by
 have key: ∀gj,(match gD st.rho o.op with
  |some (some cc)=>match gq E call (o.d.getD 0) st cc.1 cc.2 with
   |some r=>(lR st.fr n o.d r.1).map fun fr=>{r.2 with fr}
   |none=>none
  |some none=>none
  |none=>match(gA (o.d.getD 0) st.rho o.op).run st.get st.sh.length with
   |some (.val v ups)=>(lR st.fr n o.d v).map fun fr=>{st.ups ups with fr}
   |none=>none)=some gj→an gj.fr s=an st.fr s:=by
  intro gj hh
  split at hh
  ·split at hh
   ·simp only[Option.map_eq_some_iff]at hh
    obtain⟨fr,h1,rfl⟩:=hh
    exact uz h1 hs
   ·cases hh
  ·cases hh
  ·split at hh
   ·simp only[Option.map_eq_some_iff]at hh
    obtain⟨fr,h1,rfl⟩:=hh
    exact uz h1 hs
   ·cases hh
 unfold gh at h
 simp only[]at h
 split at h
 ·exact key _ h
 ·split at h
  ·split at h
   ·exact key _ h
   ·simp only[Option.map_eq_some_iff]at h
    obtain⟨fr,h1,rfl⟩:=h
    exact uz h1 hs
  ·cases h
  ·simp only[Option.map_eq_some_iff]at h
   obtain⟨fr,h1,rfl⟩:=h
   exact uz h1 hs
theorem sJ{E:Env}{call:qz}{n:Nat}: ∀(os:List fe) {st gj:St},fi E call n os st=some gj→ ∀s,s∉xG os→an gj.fr s=an st.fr s
 | [],st,gj,h,s,_=>by cases h;rfl
 |o::os,st,gj,h,s,hs=>by
  simp only[fi]at h
  cases ho:gh E call n o st with
  |none=>simp only[ho]at h;cases h
  |some s1=>
   simp only[ho]at h
   have h1:s∉xG os:=fun hm=>hs (by
    unfold xG at hm ⊢
    rw[List.filterMap_cons]
    split
    ·exact hm
    ·exact List.mem_cons_of_mem _ hm)
   have h2:some s≠o.d:=fun he=>hs (by
    unfold xG
    rw[List.filterMap_cons]
    rw[←he]
    exact List.mem_cons_self)
   rw[sJ os h s h1,yL ho h2]
theorem yM{E:Env}{call:qz}{n:Nat}: ∀(os:List (List Nat×fe)) {g8:List FP} {st gj:St},fN E call n os g8 st=some gj→ ∀s,s∉xG (os.map (·.2))→an gj.fr s=an st.fr s
 | [],g8,st,gj,h,s,_=>by cases h;rfl
 |(u,o)::os,g8,st,gj,h,s,hs=>by
  simp only[fN]at h
  split at h
  ·cases h
  ·split at h
   ·cases ho:gh E call n o st with
    |none=>simp only[ho]at h;cases h
    |some s1=>
     simp only[ho]at h
     have h1:s∉xG (os.map (·.2)):=fun hm=>hs (by
      unfold xG at hm ⊢
      rw[List.map_cons,List.filterMap_cons]
      split
      ·exact hm
      ·exact List.mem_cons_of_mem _ hm)
     have h2:some s≠o.d:=fun he=>hs (by
      unfold xG
      rw[List.map_cons,List.filterMap_cons]
      rw[←he]
      exact List.mem_cons_self)
     rw[yM os h s h1,yL ho h2]
   ·cases h
theorem CJ{f:St→Option (Out×St)}{s:Nat}(hf: ∀st r,f st=some r→an r.2.fr s=an st.fr s): ∀(k:Nat) {st:St} {r:Out×St},iter f k st=some r→an r.2.fr s=an st.fr s
 |0,st,r,h=>by simp[iter]at h
 |k+1,st,r,h=>by
  simp only[iter]at h
  cases hh:f st with
  |none=>rw[hh]at h;cases h
  |some p=>
   rw[hh]at h
   obtain⟨o,s1⟩:=p
   have h1:=hf _ _ hh
   cases o with
   |nrm=>rw[CJ hf k h];exact h1
   |ext id=>cases h;exact h1
   |ret=>cases h;exact h1
theorem Ub{ks:List Nat}{t u:St}{k:Nat}(h:k∉ks):an (rH ks t u).fr k=an t.fr k:=by
 show an (v5 ks t.fr) k=_
 rw[rP,if_neg h]
theorem oL{E:Env}{call:qz}{fl n:Nat}: ∀(code:fm) {st:St} {r:Out×St},la E call fl n code st=some r→ ∀s,s∉gY code→an r.2.fr s=an st.fr s
 | .skip,st,r,h,s,_=>by cases h;rfl
 | .region ops,st,r,h,s,hs=>by
   simp only[la,Option.map_eq_some_iff]at h
   obtain⟨a,h1,rfl⟩:=h
   exact sJ ops h1 s hs
 | .draws ops,st,r,h,s,hs=>by
   simp only[la,Option.map_eq_some_iff]at h
   obtain⟨a,h1,rfl⟩:=h
   exact yM ops h1 s hs
 | .seq a b,st,r,h,s,hs=>by
   simp only[gY,List.mem_append,not_or]at hs
   simp only[la]at h
   cases ha:la E call fl n a st with
   |none=>rw[ha]at h;cases h
   |some p=>
    rw[ha]at h
    obtain⟨o,s1⟩:=p
    have h1:=oL a ha s hs.1
    cases o with
    |nrm=>rw[oL b h s hs.2];exact h1
    |ext id=>cases h;exact h1
    |ret=>cases h;exact h1
 | .fork os BP b,st,r,h,s,hs=>by
   simp only[la]at h
   cases h1:fi E call n os st with
   |none=>rw[h1]at h;cases h
   |some s1=>
    cases h2:fi E call n BP st with
    |none=>rw[h1,h2]at h;cases h
    |some s2=>
     rw[h1,h2]at h
     simp only[]at h
     obtain⟨o,s'⟩:=r
     obtain⟨t1,t2,g1,g2,oh,rfl⟩:=vw h
     have hn:s∉xG os++gY b:=hs
     rw[Ub hn]
     simp only[List.mem_append,not_or]at hn
     rw[oL b g1 s hn.2]
     exact sJ os h1 s hn.1
 | .cond x a b,st,r,h,s,hs=>by
   simp only[gY,List.mem_append,not_or]at hs
   simp only[la]at h
   split at h
   ·exact oL a h s hs.1
   ·exact oL b h s hs.2
   ·cases h
 | .block id a,st,r,h,s,hs=>by
   simp only[la]at h
   cases ha:la E call fl n a st with
   |none=>rw[ha]at h;cases h
   |some p=>
    rw[ha]at h
    obtain⟨o,s1⟩:=p
    have h1:=oL a ha s hs
    cases o with
    |nrm=>cases h;exact h1
    |ext JT=>
     simp only[]at h
     split at h <;> (cases h;exact h1)
    |ret=>cases h;exact h1
 | .loop a,st,r,h,s,hs=>by
   simp only[la]at h
   exact CJ (fun st r hh=>oL a hh s hs) fl h
 | .exit id,st,r,h,s,_=>by cases h;rfl
 | .ret,st,r,h,s,_=>by cases h;rfl
theorem pL{E:Env}{n:Nat}{code:fm}{st gj:St}{o:Out}(h:DC E n code st=some (o,gj))(s:Nat)(hs:(gY code).contains s=false):an gj.fr s=an st.fr s:=by
 obtain⟨m,hm⟩:=iC.1 h
 exact oL code hm s (by intro hc;simp[hc]at hs)
end Go.Ev
namespace Go.Ev
open Go
def Q.calm:Q zl→Prop
 | .ret (.val _ ups)=>ups= []
 | .fail=>True
 | .rd _ _ f=> ∀e,(f e).calm
 | .new _=>False
theorem Q.calm_run{h:Sp→Nat→fg}{nx:Nat}: ∀(q:Q zl),q.calm→ ∀{v:T} {ups:List Up},q.run h nx=some (.val v ups)→ups= []∧q.asks h nx=false
 | .ret (.val _ _),hc,v,ups,hr=>by simp[Q.run]at hr;obtain⟨rfl,rfl⟩:=hr;exact⟨hc,rfl⟩
 | .fail,hc,v,ups,hr=>by simp[Q.run]at hr
 | .rd sp k f,hc,v,ups,hr=>Q.calm_run (f (h sp k)) (hc _) hr
 | .new f,hc,v,ups,hr=>hc.elim
theorem lu{o:Option T}:(val o).calm:=by cases o <;> simp[val,Q.calm]
def jN:kG→Bool
 | .mv _| .pick .. | .bin .. | .eq .. | .un .. | .cvi .. | .mkfn .. | .build .. | .slS .. | .fa .. | .fld .. | .ia .. | .iaA .. | .ixS .. | .ixA .. | .ext .. | .lenS _| .lenV _| .lenC _| .mm .. | .nck _| .ld .. | .lk .. | .lenM _=>true
 | .slV _ _ _ _ none=>true
 |_=>false
theorem D0{d:Nat}{ρ:fM→T}{op:kG}(h:jN op=true):(gA d ρ op).calm∧gD ρ op=none:=by
 refine⟨?_,by cases op <;> first|rfl|(simp[jN]at h)⟩
 cases op with
 |mv x=>exact rfl
 |pick c a b=>simp only[gA];split <;> simp[Q.calm]
 |bin op x y=>exact lu
 |eq neg k x y=>exact lu
 |un op x=>exact lu
 |cvi k x=>simp only[gA];split <;> simp[Q.calm]
 |mkfn f a c=>exact rfl
 |build z ps=>
  simp only[gA]
  by_cases hb:(ps.all fun p=>decide ((cellsOf (ρ p.2.2)).length=p.2.1)&&noTup (ρ p.2.2))=true
  ·rw[if_pos hb];exact lu
  ·rw[if_neg hb];trivial
 |slS x l h=>
  simp only[gA]
  split
  ·split
   ·split <;> simp[Q.calm]
   ·trivial
  ·trivial
 |fa x off=>
  simp only[gA]
  split
  ·split <;> simp[Q.calm]
  ·exact rfl
  ·trivial
 |fld x off m ag=>
  simp only[gA]
  split
  ·exact lu
  ·trivial
 |ia x ix sz=>
  simp only[gA]
  split
  ·split <;> simp[Q.calm]
  ·split <;> simp[Q.calm]
  ·trivial
 |iaA x ix len sz=>
  simp only[gA]
  split
  ·split <;> simp[Q.calm]
  ·split <;> simp[Q.calm]
  ·trivial
 |ixS x ix=>
  simp only[gA]
  split
  ·split <;> simp[Q.calm]
  ·trivial
 |ixA x ix len sz ag=>
  simp only[gA]
  split
  ·split
   ·exact lu
   ·trivial
  ·trivial
 |ext x j=>
  simp only[gA]
  split
  ·exact lu
  ·trivial
 |lenS x=>simp only[gA];split <;> simp[Q.calm]
 |lenV x=>exact lu
 |lenC m=>exact rfl
 |mm b as=>
  simp only[gA]
  split
  ·exact lu
  ·trivial
 |nck x=>simp only[gA];split <;> simp[Q.calm]
 |ld x m ag=>
  simp only[gA,DF]
  split
  ·rename_i cs _
   cases part cs 0 m ag <;> simp[Q.of,Q.bind,Q.calm]
  ·rename_i g off _
   intro e
   obtain⟨g',ob⟩:=e
   by_cases hg:g'=g
   ·cases ob with
    |cells cs wm bx=>
     simp only[hg,if_true]
     generalize part cs _ m ag=o
     cases o <;> simp[Q.of,Q.bind,Q.calm]
    |_=>simp only[hg,if_true];trivial
   ·simp only[hg,if_false];trivial
  ·trivial
 |lk ek m k z ok=>
  simp only[gA]
  split
  ·split <;> simp[Q.calm]
  ·exact lu
  ·rename_i g _
   intro e
   obtain⟨g',ob⟩:=e
   by_cases hg:g'=g
   ·cases ob with
    |map ks vs z=>simp only[hg,if_true];exact lu
    |_=>simp only[hg,if_true];trivial
   ·simp only[hg,if_false];trivial
  ·trivial
 |lenM x=>
  simp only[gA]
  split
  ·exact rfl
  ·exact rfl
  ·rename_i g _
   intro e
   obtain⟨g',ob⟩:=e
   by_cases hg:g'=g
   ·cases ob with
    |map ks vs z=>simp only[hg,if_true];exact rfl
    |_=>simp only[hg,if_true];trivial
   ·simp only[hg,if_false];trivial
  ·trivial
 |slV sz x l h mx=>
  cases mx with
  |some m=>simp[jN]at h
  |none=>
   simp only[gA]
   split
   ·trivial
   ·split
    ·rename_i l' h' _ _ _
     unfold yq
     split
     ·split <;> simp[Q.bind,Q.calm]
     ·split <;> simp[Q.bind,Q.calm]
     ·split <;> simp[Q.bind,Q.calm]
     ·trivial
    ·rename_i hh;exact absurd hh (by simp)
    ·trivial
 |_=>simp[jN]at h
def Calm(fp:FP):Prop:=fp.all=false∧fp.w= []
theorem Ir{x y:FP}(hx:Calm x)(hy:Calm y):apart x y=true:=by
 obtain⟨a,r,w⟩:=x
 obtain⟨a',r',w'⟩:=y
 obtain⟨rfl,rfl⟩:=hx
 obtain⟨rfl,rfl⟩:=hy
 simp[apart,lq]
section
variable{E:Env}{call:qz}{n:Nat}
theorem Uc{o:fe}{st gj:St}(hc:jN o.op=true)(hr:gh E call n o st=some gj): ∃fp,gK E call o st=some fp∧Calm fp:=by
 obtain⟨hq,AH⟩:=D0 (d:=o.d.getD 0) (ρ:=st.rho) hc
 have key: ∀gj,(match(gA (o.d.getD 0) st.rho o.op).run st.get st.sh.length with
   |some (.val v ups)=>(lR st.fr n o.d v).map fun fr=>{st.ups ups with fr}
   |none=>none)=some gj→ ∃fp,(match(gA (o.d.getD 0) st.rho o.op).run st.get st.sh.length with
   |some (.val _ ups)=>if((gA (o.d.getD 0) st.rho o.op).asks st.get st.sh.length||uk st ups)=true then some (⟨(gA (o.d.getD 0) st.rho o.op).asks st.get st.sh.length,(gA (o.d.getD 0) st.rho o.op).log st.get st.sh.length,iB ups⟩:FP)else none
   |none=>none)=some fp∧Calm fp:=by
  intro gj h
  cases hh:(gA (o.d.getD 0) st.rho o.op).run st.get st.sh.length with
  |none=>rw[hh]at h;cases h
  |some r=>
   obtain⟨v,ups⟩:=r
   obtain⟨rfl,ha⟩:=Q.calm_run _ hq hh
   refine⟨⟨false,(gA (o.d.getD 0) st.rho o.op).log st.get st.sh.length,[]⟩, ?_,rfl,rfl⟩
   simp only[ha,uk,List.all_nil,Bool.or_true,if_true,iB,List.map_nil]
 unfold gh at hr
 unfold gK
 simp only[AH]at hr ⊢
 cases hg:o.gd with
 |none=>simp only[hg]at hr;exact key _ hr
 |some p=>
  obtain⟨j,want⟩:=p
  simp only[hg]at hr ⊢
  split at hr
  ·rename_i x hx
   simp only[hx]
   by_cases hw:x=want
   ·rw[if_pos hw]at hr ⊢; exact key _ hr
   ·rw[if_neg hw];exact⟨mL,rfl,rfl,rfl⟩
  ·cases hr
  ·split
   ·rename_i h1;first|(exact absurd h1 (by rename_i h0;exact fun e=>(by assumption: ∀x,an st.fr j=T.b x→False) _ e))|skip
   ·exact⟨mL,rfl,rfl,rfl⟩
theorem CM: ∀(ds:List (List Nat×fe)) (g8:List FP) (st:St),(ds.all fun p=>jN p.2.op&&p.1.all fun i=>decide (i<g8.length+ds.length))=true→(∀fp∈g8,Calm fp)→
  (∀(k:Nat) (u:List Nat) (o:fe),ds[k]? =some (u,o)→ ∀i∈u,i<g8.length+k)→
  fN E call n ds g8 st=fi E call n (ds.map (·.2)) st
 | [],g8,st,_,_,_=>rfl
 |(u,o)::ds,g8,st,h,hf,hi=>by
  simp only[List.all_cons,Bool.and_eq_true]at h
  simp only[fN,List.map_cons,fi]
  cases ho:gh E call n o st with
  |none=>
   cases gK E call o st with
   |none=>rfl
   |some fp=>simp only[ite_self]
  |some s=>
   obtain⟨fp,h1,h2⟩:=Uc h.1.1 ho
   simp only[h1]
   have hu:(u.all fun i=>apart (fU ⟨true,[],[]⟩ g8 i) fp)=true:=by
    rw[List.all_eq_true]
    intro i hiu
    have:=hi 0 u o rfl i hiu
    have hg:fU ⟨true,[],[]⟩ g8 i∈g8:=by
     have: ∀(l:List FP) (j:Nat),j<l.length→fU ⟨true,[],[]⟩ l j∈l:=by
      intro l
      induction l with
      |nil=>intro j hj;simp at hj
      |cons x xs ih=>
       intro j hj
       cases j with
       |zero=>exact List.mem_cons_self
       |succ j=>exact List.mem_cons_of_mem _ (ih j (by simpa using hj))
     exact this g8 i (by omega)
    exact Ir (hf _ hg) h2
   simp only[hu,if_true]
   refine CM ds (g8++ [fp]) s ?_ ?_ ?_
   ·have h2:=h.2
    rw[List.all_eq_true]at h2 ⊢
    intro p hp
    have:=h2 p hp
    simp only[List.length_append,List.length_cons,List.length_nil]at this ⊢
    rw[Bool.and_eq_true]at this ⊢
    refine⟨this.1, ?_⟩
    have h3:=this.2
    rw[List.all_eq_true]at h3 ⊢
    intro i Cz
    have:=h3 i Cz
    simp only[decide_eq_true_eq]at this ⊢
    omega
   ·intro fp' hm
    rcases List.mem_append.1 hm with hm|hm
    ·exact hf _ hm
    ·simp at hm;rw[hm];exact h2
   ·intro k u' o' hk i hiu
    have:=hi (k+1) u' o' hk i hiu
    simp only[List.length_append,List.length_cons,List.length_nil]
    omega
def CN:Nat→List (List Nat×fe)→Bool
 |_,[]=>true
 |k,(u,o)::ds=>jN o.op&&(u.all fun i=>decide (i<k))&&CN (k+1) ds
theorem CO: ∀(ds:List (List Nat×fe)) (m:Nat),CN m ds=true→(∀(k:Nat) (u:List Nat) (o:fe),ds[k]? =some (u,o)→jN o.op=true∧ ∀i∈u,i<m+k)
 | [],m,_,k,u,o,hk=>by simp at hk
 |(u0,o0)::ds,m,h,k,u,o,hk=>by
  simp only[CN,Bool.and_eq_true]at h
  cases k with
  |zero=>
   simp at hk
   obtain⟨rfl,rfl⟩:=hk
   refine⟨h.1.1,fun i hi=> ?_⟩
   have:=(List.all_eq_true.1 h.1.2) i hi
   simpa using this
  |succ k=>
   obtain⟨h1,h2⟩:=CO ds (m+1) h.2 k u o (by simpa using hk)
   exact⟨h1,fun i hi=>by have:=h2 i hi;omega⟩
theorem Ud{E:Env}{n:Nat}{ds:List (List Nat×fe)}{st:St}(h:CN 0 ds=true):DC E n (.draws ds) st=(fi E (fj E) n (ds.map (·.2)) st).map fun gj=>(.nrm,gj):=by
 rw[Gg]
 congr 1
 have hb:=CO ds 0 h
 refine CM ds [] st ?_ (by simp) (fun k u o hk i hi=>by have:=(hb k u o hk).2 i hi;simpa using this)
 rw[List.all_eq_true]
 intro p hp
 obtain⟨k,hk,he⟩:=List.getElem_of_mem hp
 obtain⟨u,o⟩:=p
 obtain⟨h1,h2⟩:=hb k u o (by rw[List.getElem?_eq_getElem hk,he])
 rw[Bool.and_eq_true]
 refine⟨h1, ?_⟩
 rw[List.all_eq_true]
 intro i hi
 have:=h2 i hi
 simp only[decide_eq_true_eq,List.length_nil]
 omega
end
end Go.Ev
namespace Go.Ev
open Go
def kv(F:St→Option St)(fr:Fr)(lh:fC fg)(sh:List fg)(d:Nat)(v:Option T):Option St:=v.bind fun v=>F ⟨iG fr d v,lh,sh⟩
def kn(F:St→Option St)(st:St)(v:Option T):Option St:=v.bind fun _=>F st
def ks(F:St→Option St)(fr:Fr)(r:Option (fC fg×List fg)):Option St:=r.bind fun r=>F ⟨fr,r.1,r.2⟩
def ka(F:St→Option St)(fr:Fr)(sh:List fg)(d:Nat)(r:Option (T×fC fg)):Option St:=r.bind fun q=>F ⟨iG fr d q.1,q.2,sh⟩
def kc(F:St→Option St)(fr:Fr)(d:Option Nat)(r:Option (T×St)):Option St:=r.bind fun r=>F ⟨vA fr d r.1,r.2.lh,r.2.sh⟩
section
variable{F:St→Option St}{fr:Fr}{lh:fC fg}{sh:List fg}{d:Nat}{v:T}
theorem Ue:kv F fr lh sh d (some v)=F ⟨iG fr d v,lh,sh⟩:=rfl
theorem akr:kv F fr lh sh d none=none:=rfl
theorem aal{c:Prop}[Decidable c]{x y:Option T}:kv F fr lh sh d (if c then x else y)=if c then kv F fr lh sh d x else kv F fr lh sh d y:=by split <;> rfl
theorem aks{st:St}:kn F st (some v)=F st:=rfl
theorem akt{st:St}:kn F st none=none:=rfl
theorem Uf{r:fC fg×List fg}:ks F fr (some r)=F ⟨fr,r.1,r.2⟩:=rfl
theorem aku:ks F fr none=none:=rfl
theorem Ug{q:T×fC fg}:ka F fr sh d (some q)=F ⟨iG fr d q.1,q.2,sh⟩:=rfl
theorem akv:ka F fr sh d none=none:=rfl
theorem Uh{dd:Option Nat}{r:T×St}:kc F fr dd (some r)=F ⟨vA fr dd r.1,r.2.lh,r.2.sh⟩:=rfl
theorem akw{dd:Option Nat}:kc F fr dd none=none:=rfl
theorem aam{c:Prop}[Decidable c]{dd:Option Nat}{x y:Option (T×St)}:kc F fr dd (if c then x else y)=if c then kc F fr dd x else kc F fr dd y:=by split <;> rfl
end
def isB:T→Bool
 | .b _=>true
 |_=>false
def isT:T→Bool
 | .b x=>x
 |_=>false
theorem ahs{x:Bool}:isB (.b x)=true:=nr rfl
theorem aht{x:Bool}:isT (.b x)=x:=nr rfl
theorem Ui{t:T}(h:isB t=true):t= .b (isT t):=by cases t <;> first|rfl|(simp[isB]at h)
section
variable{E:Env}{call:qz}{n:Nat}{fr:Fr}{lh:fC fg}{sh:List fg}{os:List fe}{d:Nat}
theorem aan{c a b:fM}(hd:d<n):fi E call n (⟨some d,.pick c a b,none⟩::os) ⟨fr,lh,sh⟩=kv (fi E call n os) fr lh sh d (Ki (rd fr c) (rd fr a) (rd fr b)):=aad hd
theorem ahu{op:BinOp}{x y:fM}(hd:d<n):fi E call n (⟨some d,.bin op x y,none⟩::os) ⟨fr,lh,sh⟩=kv (fi E call n os) fr lh sh d (Ev.bin op (rd fr x) (rd fr y)):=ahb hd
theorem amP{neg:Bool}{k:EK}{x y:fM}(hd:d<n):fi E call n (⟨some d,.eq neg k x y,none⟩::os) ⟨fr,lh,sh⟩=kv (fi E call n os) fr lh sh d ((tB k (rd fr x) (rd fr y)).map fun r=>T.b (r != neg)):=amC hd
theorem amQ{op:UnOp}{x:fM}(hd:d<n):fi E call n (⟨some d,.un op x,none⟩::os) ⟨fr,lh,sh⟩=kv (fi E call n os) fr lh sh d (Ev.un op (rd fr x)):=amD hd
theorem ahv{k:IntKind}{x:fM}(hd:d<n):fi E call n (⟨some d,.cvi k x,none⟩::os) ⟨fr,lh,sh⟩=kv (fi E call n os) fr lh sh d (TV k (rd fr x)):=ahc hd
theorem Uj{z:List T}{ps:List (Nat×Nat×fM)}(hd:d<n):fi E call n (⟨some d,.build z ps,none⟩::os) ⟨fr,lh,sh⟩=kv (fi E call n os) fr lh sh d (DX fr z ps):=TW hd
theorem ahw{x:fM}{l h:Option fM}(hd:d<n):fi E call n (⟨some d,.slS x l h,none⟩::os) ⟨fr,lh,sh⟩=kv (fi E call n os) fr lh sh d (sH fr (rd fr x) l h):=ahd hd
theorem amR{x:fM}{off:Nat}(hd:d<n):fi E call n (⟨some d,.fa x off,none⟩::os) ⟨fr,lh,sh⟩=kv (fi E call n os) fr lh sh d (faV (rd fr x) off):=amE hd
theorem amS{x ix:fM}{sz:Nat}(hd:d<n):fi E call n (⟨some d,.ia x ix sz,none⟩::os) ⟨fr,lh,sh⟩=kv (fi E call n os) fr lh sh d (tf (rd fr x) (rd fr ix) sz):=amG hd
theorem ahx{x ix:fM}{len sz:Nat}(hd:d<n):fi E call n (⟨some d,.iaA x ix len sz,none⟩::os) ⟨fr,lh,sh⟩=kv (fi E call n os) fr lh sh d (jz (rd fr x) (rd fr ix) len sz):=ahf hd
theorem ahy{x ix:fM}(hd:d<n):fi E call n (⟨some d,.ixS x ix,none⟩::os) ⟨fr,lh,sh⟩=kv (fi E call n os) fr lh sh d (B7 (rd fr x) (rd fr ix)):=ahg hd
theorem ahz{x ix:fM}{len sz:Nat}{ag:Bool}(hd:d<n):fi E call n (⟨some d,.ixA x ix len sz ag,none⟩::os) ⟨fr,lh,sh⟩=kv (fi E call n os) fr lh sh d (y9 (rd fr x) (rd fr ix) len sz ag):=ahh hd
theorem ahA{x:fM}{j:Nat}(hd:d<n):fi E call n (⟨some d,.ext x j,none⟩::os) ⟨fr,lh,sh⟩=kv (fi E call n os) fr lh sh d (TX (rd fr x) j):=ahi hd
theorem aao{x:fM}(hd:d<n):fi E call n (⟨some d,.lenS x,none⟩::os) ⟨fr,lh,sh⟩=kv (fi E call n os) fr lh sh d (Kj (rd fr x)):=aae hd
def lenI(x:T):Option T:=match qH x with|some m=>some (.i .i64 ((m:Nat):Int))|none=>none
theorem Uk{x:T}{m:Nat}(h:qH x=some m):lenI x=some (.i .i64 (m:Int)):=by unfold lenI;rw[h]
theorem aap{x:fM}(hd:d<n):fi E call n (⟨some d,.lenV x,none⟩::os) ⟨fr,lh,sh⟩=kv (fi E call n os) fr lh sh d (lenI (rd fr x)):=by
 rw[aaf hd]
 unfold kv lenI
 cases qH (rd fr x) <;> rfl
theorem amT{isMax:Bool}{args:List fM}(hd:d<n):fi E call n (⟨some d,.mm isMax args,none⟩::os) ⟨fr,lh,sh⟩=kv (fi E call n os) fr lh sh d (mmV isMax (args.map (rd fr))):=amH hd
theorem ahB{x:fM}(hd:d<n):fi E call n (⟨some d,.nck x,none⟩::os) ⟨fr,lh,sh⟩=kv (fi E call n os) fr lh sh d (Io (rd fr x)):=ahj hd
theorem amU{x:fM}{m:Nat}{ag:Bool}(hd:d<n):fi E call n (⟨some d,.ld x m ag,none⟩::os) ⟨fr,lh,sh⟩=kv (fi E call n os) fr lh sh d (SQ lh sh (rd fr x) m ag):=amI hd
theorem ahC{sz:Nat}{x:fM}{l h:Option fM}(hd:d<n):fi E call n (⟨some d,.slV sz x l h none,none⟩::os) ⟨fr,lh,sh⟩=kv (fi E call n os) fr lh sh d (T8 fr sz (rd fr x) l h):=aho hd
theorem amV{ek:EK}{m k:fM}{z:T}{ok:Bool}(hd:d<n):fi E call n (⟨some d,.lk ek m k z ok,none⟩::os) ⟨fr,lh,sh⟩=kv (fi E call n os) fr lh sh d (lkV lh sh ek (rd fr m) (rd fr k) z ok):=amL hd
def PN(lh:fC fg)(d:Nat)(z:List T)(x:T)(bytes:Nat):Option (T×fC fg):=
 (PF x bytes).map fun m=>(.isl .L d ((be lh d).g+1) 0 m z.length,qm lh d ⟨(be lh d).g+1,.cells (repl z m) 0 false⟩)
theorem aaq{z:List T}{bytes:Nat}{x:fM}(hd:d<n):fi E call n (⟨some d,.mksl z bytes x false,none⟩::os) ⟨fr,lh,sh⟩=ka (fi E call n os) fr sh d (PN lh d z (rd fr x) bytes):=by
 rw[aah hd];unfold PN ka;cases PF (rd fr x) bytes <;> rfl
theorem amW{x v:fM}{m:Nat}:fi E call n (⟨none,.st x v m,none⟩::os) ⟨fr,lh,sh⟩=ks (fi E call n os) fr (sI lh sh (rd fr x) (rd fr v) m):=amJ
def appW(lh:fC fg)(sh:List fg)(d sz bytes:Nat)(s x:T):Option (T×fC fg):=(slC lh sh sz x).bind (AN lh d sz bytes s)
def notS:T→Bool
 | .isl .S .. =>false
 | .mp .S .. =>false
 |_=>true
theorem ahD{sz bytes:Nat}{s x:fM}(hd:d<n)(hs:notS (rd fr s)=true):fi E call n (⟨some d,.app sz bytes s x false false,none⟩::os) ⟨fr,lh,sh⟩=ka (fi E call n os) fr sh d (appW lh sh d sz bytes (rd fr s) (rd fr x)):=by
 rw[ahn hd (fun k g off len sz he=>by rw[he]at hs;simp[notS]at hs)]
 unfold appW ka
 cases slC lh sh sz (rd fr x) <;> rfl
theorem amX{ek:EK}{m k v:fM}(hm:notS (rd fr m)=true)(hf:froz (rd fr v)=true):fi E call n (⟨none,.mu ek m k v,none⟩::os) ⟨fr,lh,sh⟩=ks (fi E call n os) fr ((muV lh ek (rd fr m) (rd fr k) (rd fr v)).map fun fH=>(fH,sh)):=by
 rw[amM (fun kk g he=>by rw[he]at hm;simp[notS]at hm) hf]
 unfold ks
 cases muV lh ek (rd fr m) (rd fr k) (rd fr v) <;> rfl
def Ul(lh:fC fg)(sh:List fg)(z:List T)(len:Nat)(is:List Nat)(vs:List T):Option (T×St):=
 (Fo lh sh false vs).bind fun q=>(Mj z len is q.1).map fun v=>(v,(St.mk .nil lh sh).ups q.2)
theorem ahE{z:List T}{len:Nat}{ps:List (Nat×fM)}(hd:d<n):fi E call n (⟨some d,.bsl z len ps,none⟩::os) ⟨fr,lh,sh⟩=kc (fi E call n os) fr (some d) (Ul lh sh z len (ps.map (·.1)) (ps.map fun p=>rd fr p.2)):=by
 rw[ahq hd]
 unfold kc Ul
 cases Fo lh sh false (ps.map fun p=>rd fr p.2)with
 |none=>rfl
 |some q=>
  simp only[Option.bind_some]
  cases Mj z len (ps.map (·.1)) q.1 with
  |none=>rfl
  |some v=>simp only[Option.bind_some,Option.map_some,vA];rw[rS q.2 lh sh]
theorem Mm{z:List T}{len:Nat}{is:List Nat}{vs:List T}(h:vs.all froz=true):Ul lh sh z len is vs=(Mj z len is vs).map fun v=>(v,⟨.nil,lh,sh⟩):=by
 unfold Ul
 rw[tM h];rfl
theorem aar{f:Nat}{as:List fM}(hd:d<n):fi E call n (⟨some d,.callf f as,none⟩::os) ⟨fr,lh,sh⟩=kc (fi E call n os) fr (some d) (gq E call d ⟨fr,lh,sh⟩ f (as.map (rd fr))):=aak hd
theorem Um{dd:Option Nat}{op:kG}{j:Nat}(h:an fr j= .b true):fi E call n (⟨dd,op,some (j,true)⟩::os) ⟨fr,lh,sh⟩=fi E call n (⟨dd,op,none⟩::os) ⟨fr,lh,sh⟩:=PI h
theorem Un{dd:Option Nat}{op:kG}{j:Nat}(h:an fr j= .b false):fi E call n (⟨dd,op,some (j,false)⟩::os) ⟨fr,lh,sh⟩=fi E call n (⟨dd,op,none⟩::os) ⟨fr,lh,sh⟩:=PI h
theorem Uo{op:kG}{j:Nat}(hd:d<n)(h:an fr j= .b false):fi E call n (⟨some d,op,some (j,true)⟩::os) ⟨fr,lh,sh⟩=fi E call n os ⟨iG fr d gf,lh,sh⟩:=Iq (d:=some d) hd h
theorem Uq{op:kG}{j:Nat}(hd:d<n)(h:an fr j= .b true):fi E call n (⟨some d,op,some (j,false)⟩::os) ⟨fr,lh,sh⟩=fi E call n os ⟨iG fr d gf,lh,sh⟩:=Iq (d:=some d) hd h
theorem PO{op:kG}{j:Nat}{w:Bool}(hd:d<n)(h:an fr j=gf):fi E call n (⟨some d,op,some (j,w)⟩::os) ⟨fr,lh,sh⟩=fi E call n os ⟨iG fr d gf,lh,sh⟩:=Km (d:=some d) hd h
end
section
variable{E:Env}{n:Nat}{fr:Fr}{lh:fC fg}{sh:List fg}
theorem aas{c:fM}{a b:fm}(h:isB (rd fr c)=true):DC E n (.cond c a b) ⟨fr,lh,sh⟩=if isT (rd fr c)=true then DC E n a ⟨fr,lh,sh⟩else DC E n b ⟨fr,lh,sh⟩:=by
 rw[PK,Ui h];rfl
def za(res:List rF)(eff:Bool)(x:Option (Out×St)):Option (T×List fg):=
 match x with
 |some (.ext _,_)=>none
 |some (_,st)=>(nk st res).bind fun vs=>answer eff vs st
 |none=>none
theorem fx{f:Nat}{af:fv}{args:List T}{sh:List fg}(hf:E.fn f=some af)(hn:(af.n<args.length)=False)(hw:af.own=none:=by rfl):
  fj E f args sh=za af.res af.eff (DC E af.n af.code {fr:=pG args,lh:= .nil,sh}):=by
 rw[PA hf (Nat.le_of_not_lt (of_eq_false hn))]
 generalize DC E af.n af.code {fr:=pG args,lh:= .nil,sh}=x
 unfold Yg za
 rw[hw]
 cases x with
 |none=>rfl
 |some p=>
  obtain⟨o,st⟩:=p
  cases o with
  |ext id=>rfl
  |nrm=>simp only[];cases nk st af.res <;> rfl
  |ret=>simp only[];cases nk st af.res <;> rfl
def ahF(lh:fC fg)(sh:List fg)(j:Nat)(vs:List T):Option (T×List fg):=zp j vs ⟨.nil,lh,sh⟩
theorem ahG:ahF lh sh 0 [.nilsl]=some (.nilsl,sh):=rfl
theorem acV{k:IntKind}{e:Int}:ahF lh sh 0 [.nilsl,.i k e]=some (.tup [.nilsl,.i k e],sh):=rfl
theorem aat{d:Nat}{us:List Up}:vv d 0 .nilsl ⟨fr,lh,sh⟩ us=some (.nilsl,⟨fr,lh,sh⟩):=rfl
theorem Yk{d:Nat}{us:List Up}{kk:IntKind}{e:Int}:vv d 0 (.tup [.nilsl,.i kk e]) ⟨fr,lh,sh⟩ us=some (.tup [.nilsl,.i kk e],⟨fr,lh,sh⟩):=rfl
theorem PQ{res:List rF}{eff:Bool}:za res eff (some (.ret,⟨fr,lh,sh⟩))=(AO fr lh sh res).bind (PM lh sh eff):=by
 unfold za
 simp only[xO]
 congr 1
 funext vs
 exact Ml
theorem PR{c:Prop}[Decidable c]{res:List rF}{eff:Bool}{x y:Option (Out×St)}:za res eff (if c then x else y)=if c then za res eff x else za res eff y:=by split <;> rfl
end
section
variable{k:IntKind}{a b:Int}{x y:Bool}{s t:List Nat}
theorem Ur:Ev.bin .add (.i k a) (.i k b)=some (.i k (wr k (a+b))):=by simp[Ev.bin,tA]
theorem Us:Ev.bin .sub (.i k a) (.i k b)=some (.i k (wr k (a-b))):=by simp[Ev.bin,tA]
theorem Ut:Ev.bin .mul (.i k a) (.i k b)=some (.i k (wr k (a*b))):=by simp[Ev.bin,tA]
theorem Uu:Ev.bin .eql (.i k a) (.i k b)=some (.b (decide (a=b))):=by simp[Ev.bin,tA];exact Bool.beq_eq_decide_eq a b
theorem Uv:Ev.bin .neq (.i k a) (.i k b)=some (.b (!decide (a=b))):=by simp[Ev.bin,tA];rw[bne,Bool.beq_eq_decide_eq]
theorem Kn:Ev.bin .lss (.i k a) (.i k b)=some (.b (decide (a<b))):=by simp[Ev.bin,tA]
theorem Ko:Ev.bin .leq (.i k a) (.i k b)=some (.b (decide (a≤b))):=by simp[Ev.bin,tA]
theorem Kp:Ev.bin .gtr (.i k a) (.i k b)=some (.b (decide (b<a))):=by simp[Ev.bin,tA]
theorem Kq:Ev.bin .geq (.i k a) (.i k b)=some (.b (decide (b≤a))):=by simp[Ev.bin,tA]
theorem Gk:Ev.bin .eql (.s s) (.s t)=some (.b (decide (s=t))):=by simp[Ev.bin,LU];exact Bool.beq_eq_decide_eq s t
theorem PS:Ev.bin .neq (.s s) (.s t)=some (.b (!decide (s=t))):=by simp[Ev.bin,LU];rw[bne,Bool.beq_eq_decide_eq]
theorem PT:Ev.bin .lss (.s s) (.s t)=some (.b (gS s t)):=by simp[Ev.bin,LU]
theorem aau:Ev.un .not (.b x)=some (.b (!x)):=rfl
theorem aav:Ev.un .neg (.i k a)=some (.i k (wr k (0-a))):=rfl
theorem aaw{cs:List T}{off m:Nat}:Ev.part cs off m false=cs[off]? :=rfl
theorem aax{cs:List T}{off m:Nat}:Ev.part cs off m true=if off+m≤cs.length then some (.agg ((cs.drop off).take m))else none:=rfl
theorem kM{n:Int}(h: -9223372036854775808≤n∧n≤9223372036854775807):wr .i64 n=n:=by unfold wr lo hi;exact if_pos h
theorem iZ{cs:List T}{len sz:Nat}{ex:Bool}{kk:IntKind}{j:Int}:tf (.sl cs len ex) (.i kk j) sz=if 0≤j∧j.toNat<len∧(j.toNat+1)*sz≤cs.length then some (.vp (cs.drop (j.toNat*sz)))else none:=by
 unfold tf asNat
 by_cases h:0≤j
 ·simp only[h,if_true,true_and]
 ·simp only[h,if_false,false_and]
theorem Uw{sp:Sp}{i g off len sz pn:Nat}{kk:IntKind}{j:Int}:tf (.isl sp i g off len pn) (.i kk j) sz=if 0≤j∧j.toNat<len∧pn=sz then some (.ptr sp i g (off+j.toNat*sz))else none:=by
 unfold tf asNat
 by_cases h:0≤j
 ·simp only[h,if_true,true_and]
 ·simp only[h,if_false,false_and]
theorem Is{bs:List Nat}{kk:IntKind}{j:Int}:B7 (.s bs) (.i kk j)=if 0≤j then bs[j.toNat]?.map fun c=>T.i .u8 c else none:=by
 unfold B7 asNat
 by_cases h:0≤j
 ·simp only[h,if_true]
 ·simp only[h,if_false]
theorem D1{kk:IntKind}{j:Int}:asNat (.i kk j)=if 0≤j then some j.toNat else none:=rfl
end
end Go.Ev
