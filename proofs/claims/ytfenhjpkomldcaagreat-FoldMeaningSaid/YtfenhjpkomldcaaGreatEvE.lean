/- A tree evaluator over the model, proved against it (part E): where it answers, the call returns that answer. Conditions: none beyond its theorems' own. -/
import Derived.Test.YtfenhjpkomldcaaGreatEvD
set_option linter.unusedSimpArgs false
set_option linter.unusedVariables false
namespace Go.Ev
open Go
section
variable{E:Env}{call:Orc}{fl n:Nat}
theorem evOps_nil{st:St}:evOps E call n [] st=some st:=rfl
end
end Go.Ev
namespace Go.Ev
open Go
def OrcLe(c c':Orc):Prop:= ∀f a sh r,c f a sh=some r→c' f a sh=some r
section
variable{E:Env}
theorem doCall_mono{c c':Orc}(h:OrcLe c c'){dd:Nat}{st:St}{f:Nat}{args:List T}{r:T×St}(hr:doCall E c dd st f args=some r):doCall E c' dd st f args=some r:=by
 unfold doCall at hr ⊢
 cases hf:E.fn f with
 |none=>cases hx:E.ext f <;> simp only[hf,hx]at hr ⊢ <;> exact hr
 |some af=>
  simp only[hf]at hr ⊢
  cases hq:(mapQ (fz af.eff fzFuel) args).run st.get st.sh.length with
  |none=>simp only[hq]at hr;cases hr
  |some q=>
   simp only[hq]at hr ⊢
   cases he:af.eff with
   |true=>
    simp only[he,if_true,Option.map_eq_some_iff]at hr ⊢
    obtain⟨a,h1,h2⟩:=hr
    exact⟨a,h _ _ _ _ h1,h2⟩
   |false=>
    simp only[he]at hr ⊢
    cases hc:c f q.1 []with
    |none=>simp only[hc]at hr;simp at hr
    |some a=>
     simp only[hc]at hr
     simp only[h _ _ _ _ hc]
     exact hr
theorem evOper_mono{c c':Orc}(h:OrcLe c c'){n:Nat}{o:AOper}{st st':St}(hr:evOper E c n o st=some st'):evOper E c' n o st=some st':=by
 unfold evOper at hr ⊢
 have key: ∀st',(match callOf st.rho o.op with
  |some (some cc)=>match doCall E c (o.d.getD 0) st cc.1 cc.2 with
   |some r=>(putD st.fr n o.d r.1).map fun fr=>{r.2 with fr}
   |none=>none
  |some none=>none
  |none=>match(opQ (o.d.getD 0) st.rho o.op).run st.get st.sh.length with
   |some (.val v ups)=>(putD st.fr n o.d v).map fun fr=>{st.ups ups with fr}
   |none=>none)=some st'→(match callOf st.rho o.op with
  |some (some cc)=>match doCall E c' (o.d.getD 0) st cc.1 cc.2 with
   |some r=>(putD st.fr n o.d r.1).map fun fr=>{r.2 with fr}
   |none=>none
  |some none=>none
  |none=>match(opQ (o.d.getD 0) st.rho o.op).run st.get st.sh.length with
   |some (.val v ups)=>(putD st.fr n o.d v).map fun fr=>{st.ups ups with fr}
   |none=>none)=some st':=by
  intro st' hs
  cases hc:callOf st.rho o.op with
  |none=>simp only[hc]at hs ⊢; exact hs
  |some x=>
   cases x with
   |none=>simp only[hc]at hs;cases hs
   |some cc=>
    simp only[hc]at hs ⊢
    cases hd:doCall E c (o.d.getD 0) st cc.1 cc.2 with
    |none=>simp only[hd]at hs;cases hs
    |some r=>
     simp only[hd]at hs
     simp only[doCall_mono h hd]
     exact hs
 cases hg:o.gd with
 |none=>simp only[hg]at hr ⊢; exact key _ hr
 |some p=>
  obtain⟨j,want⟩:=p
  simp only[hg]at hr ⊢
  split at hr
  ·rename_i x hx
   by_cases hw:x=want
   ·rw[if_pos hw]at hr ⊢; exact key _ hr
   ·rw[if_neg hw]at hr ⊢; exact hr
  ·exact hr
theorem evOps_mono{c c':Orc}(h:OrcLe c c'){n:Nat}: ∀(os:List AOper) {st st':St},evOps E c n os st=some st'→evOps E c' n os st=some st'
 | [],st,st',hr=>hr
 |o::os,st,st',hr=>by
  simp only[evOps]at hr ⊢
  cases ho:evOper E c n o st with
  |none=>simp only[ho]at hr;cases hr
  |some s=>
   simp only[ho]at hr
   simp only[evOper_mono h ho]
   exact evOps_mono h os hr
theorem callFP_mono{c c':Orc}(h:OrcLe c c'){dd:Nat}{st:St}{f:Nat}{args:List T}{r:FP}(hr:callFP E c dd st f args=some r):callFP E c' dd st f args=some r:=by
 unfold callFP at hr ⊢
 cases hf:E.fn f with
 |none=>cases hx:E.ext f <;> simp only[hf,hx]at hr ⊢ <;> exact hr
 |some af=>
  simp only[hf]at hr ⊢
  cases hq:(mapQ (fz af.eff fzFuel) args).run st.get st.sh.length with
  |none=>simp only[hq]at hr;cases hr
  |some q=>
   simp only[hq]at hr ⊢
   by_cases hi:(!inB st q.2)=true
   ·rw[if_pos hi]at hr;cases hr
   ·rw[if_neg hi]at hr ⊢
    cases he:af.eff with
    |true=>simp only[he]at hr ⊢; exact hr
    |false=>
     simp only[he]at hr ⊢
     cases hc:c f q.1 []with
     |none=>simp[hc]at hr
     |some a=>
      simp only[hc]at hr
      simp only[h _ _ _ _ hc]
      exact hr
theorem operFP_mono{c c':Orc}(h:OrcLe c c'){o:AOper}{st:St}{r:FP}(hr:operFP E c o st=some r):operFP E c' o st=some r:=by
 unfold operFP at hr ⊢
 have key: ∀r,(match callOf st.rho o.op with
  |some (some cc)=>callFP E c (o.d.getD 0) st cc.1 cc.2
  |some none=>none
  |none=>
   let q:=opQ (o.d.getD 0) st.rho o.op
   match q.run st.get st.sh.length with
   |some (.val _ ups)=>if q.asks st.get st.sh.length||inB st ups then some ⟨q.asks st.get st.sh.length,q.log st.get st.sh.length,upKeys ups⟩else none
   |none=>none)=some r→(match callOf st.rho o.op with
  |some (some cc)=>callFP E c' (o.d.getD 0) st cc.1 cc.2
  |some none=>none
  |none=>
   let q:=opQ (o.d.getD 0) st.rho o.op
   match q.run st.get st.sh.length with
   |some (.val _ ups)=>if q.asks st.get st.sh.length||inB st ups then some ⟨q.asks st.get st.sh.length,q.log st.get st.sh.length,upKeys ups⟩else none
   |none=>none)=some r:=by
  intro r hs
  cases hc:callOf st.rho o.op with
  |none=>simp only[hc]at hs ⊢; exact hs
  |some x=>
   cases x with
   |none=>simp only[hc]at hs;cases hs
   |some cc=>simp only[hc]at hs ⊢; exact callFP_mono h hs
 cases hg:o.gd with
 |none=>simp only[hg]at hr ⊢; exact key _ hr
 |some p=>
  obtain⟨j,want⟩:=p
  simp only[hg]at hr ⊢
  split at hr
  ·rename_i x hx
   by_cases hw:x=want
   ·rw[if_pos hw]at hr ⊢; exact key _ hr
   ·rw[if_neg hw]at hr ⊢; exact hr
  ·exact hr
theorem evDraw_mono{c c':Orc}(h:OrcLe c c'){n:Nat}: ∀(os:List (List Nat×AOper)) {fps:List FP} {st st':St},evDraw E c n os fps st=some st'→evDraw E c' n os fps st=some st'
 | [],fps,st,st',hr=>hr
 |(u,o)::os,fps,st,st',hr=>by
  simp only[evDraw]at hr ⊢
  cases hp:operFP E c o st with
  |none=>simp only[hp]at hr;cases hr
  |some fp=>
   simp only[hp]at hr
   simp only[operFP_mono h hp]
   split at hr
   ·rename_i ha
    rw[if_pos ha]
    cases ho:evOper E c n o st with
    |none=>simp only[ho]at hr;cases hr
    |some s=>
     simp only[ho]at hr
     simp only[evOper_mono h ho]
     exact evDraw_mono h os hr
   ·cases hr
theorem iter_mono{f g:St→Option (Out×St)}(h: ∀st r,f st=some r→g st=some r): ∀{k k':Nat},k≤k'→ ∀{st:St} {r:Out×St},iter f k st=some r→iter g k' st=some r
 |0,_,_,st,r,hr=>by simp[iter]at hr
 |k+1,0,hk,_,_,_=>by omega
 |k+1,k'+1,hk,st,r,hr=>by
  simp only[iter]at hr ⊢
  cases hf:f st with
  |none=>rw[hf]at hr;cases hr
  |some p=>
   rw[h _ _ hf]
   rw[hf]at hr
   obtain⟨o,s⟩:=p
   cases o with
   |nrm=>exact iter_mono h (by omega) hr
   |ext id=>exact hr
   |ret=>exact hr
theorem evC_mono{c c':Orc}(h:OrcLe c c'){n:Nat}{fl fl':Nat}(hfl:fl≤fl'): ∀(code:ACode) {st:St} {r:Out×St},evC E c fl n code st=some r→evC E c' fl' n code st=some r
 | .skip,st,r,hr=>hr
 | .region ops,st,r,hr=>by
   simp only[evC,Option.map_eq_some_iff]at hr ⊢
   obtain⟨a,h1,h2⟩:=hr
   exact⟨a,evOps_mono h ops h1,h2⟩
 | .draws ops,st,r,hr=>by
   simp only[evC,Option.map_eq_some_iff]at hr ⊢
   obtain⟨a,h1,h2⟩:=hr
   exact⟨a,evDraw_mono h ops h1,h2⟩
 | .seq a b,st,r,hr=>by
   simp only[evC]at hr ⊢
   cases ha:evC E c fl n a st with
   |none=>rw[ha]at hr;cases hr
   |some p=>
    rw[evC_mono h hfl a ha]
    rw[ha]at hr
    obtain⟨o,s⟩:=p
    cases o with
    |nrm=>exact evC_mono h hfl b hr
    |ext id=>exact hr
    |ret=>exact hr
 | .cond x a b,st,r,hr=>by
   simp only[evC]at hr ⊢
   split at hr
   ·exact evC_mono h hfl a hr
   ·exact evC_mono h hfl b hr
   ·cases hr
 | .block id a,st,r,hr=>by
   simp only[evC]at hr ⊢
   cases ha:evC E c fl n a st with
   |none=>rw[ha]at hr;cases hr
   |some p=>
    rw[evC_mono h hfl a ha]
    rw[ha]at hr
    exact hr
 | .loop a,st,r,hr=>by
   simp only[evC]at hr ⊢
   exact iter_mono (fun st r hh=>evC_mono h hfl a hh) hfl hr
 | .exit id,st,r,hr=>hr
 | .ret,st,r,hr=>hr
theorem callF_mono: ∀{m m':Nat},m≤m'→OrcLe (callF E m) (callF E m')
 |0,m',_=>fun f a sh r h=>by simp[callF]at h
 |m+1,0,h=>by omega
 |m+1,m'+1,h=>fun f a sh r hr=>by
  simp only[callF]at hr ⊢
  cases hf:E.fn f with
  |none=>rw[hf]at hr;cases hr
  |some af=>
   simp only[hf]at hr ⊢
   split at hr
   ·cases hr
   ·rename_i hn
    rw[if_neg hn]
    cases hc:evC E (callF E m) m af.n af.code {fr:=frOf a,lh:= .nil,sh}with
    |none=>rw[hc]at hr;cases hr
    |some p=>
     rw[evC_mono (callF_mono (Nat.le_of_succ_le_succ h)) (Nat.le_of_succ_le_succ h) af.code hc]
     rw[hc]at hr
     exact hr
end
noncomputable def lim{α:Type}(F:Nat→Option α):Option α:=
 open Classical in if h: ∃m,(F m).isSome=true then F (Classical.choose h)else none
def Grows{α:Type}(F:Nat→Option α):Prop:= ∀m m' r,m≤m'→F m=some r→F m'=some r
theorem lim_iff{α:Type}{F:Nat→Option α}(hF:Grows F)(r:α):lim F=some r↔ ∃m,F m=some r:=by
 unfold lim
 constructor
 ·intro h
  split at h
  ·exact⟨_,h⟩
  ·cases h
 ·rintro⟨m,hm⟩
  have he: ∃m,(F m).isSome=true:=⟨m,by rw[hm];rfl⟩
  rw[dif_pos he]
  have hs:=Classical.choose_spec he
  generalize Classical.choose he=k at hs
  cases hk:F k with
  |none=>rw[hk]at hs;cases hs
  |some a=>
   have h1:=hF k (max k m) a (Nat.le_max_left _ _) hk
   have h2:=hF m (max k m) r (Nat.le_max_right _ _) hm
   rw[h1]at h2
   exact h2
section
variable(E:Env)
noncomputable def DCall:Orc:=fun f a sh=>lim fun m=>callF E m f a sh
noncomputable def DC(n:Nat)(code:ACode)(st:St):Option (Out×St):=lim fun m=>evC E (callF E m) m n code st
end
section
variable{E:Env}
theorem DCall_iff{f:Nat}{a:List T}{sh:List Ent}{r:T×List Ent}:DCall E f a sh=some r↔ ∃m,callF E m f a sh=some r:=
 lim_iff (fun m m' r h hr=>callF_mono h _ _ _ _ hr) r
theorem DC_iff{n:Nat}{code:ACode}{st:St}{r:Out×St}:DC E n code st=some r↔ ∃m,evC E (callF E m) m n code st=some r:=
 lim_iff (fun m m' r h hr=>evC_mono (callF_mono h) h code hr) r
theorem callF_le_D(m:Nat):OrcLe (callF E m) (DCall E):=fun f a sh r h=>DCall_iff.2 ⟨m,h⟩
theorem doCall_lim{dd:Nat}{st:St}{f:Nat}{args:List T}{r:T×St}(hr:doCall E (DCall E) dd st f args=some r): ∃m,doCall E (callF E m) dd st f args=some r:=by
 unfold doCall at hr
 cases hf:E.fn f with
 |none=>refine⟨0, ?_⟩;unfold doCall;cases hx:E.ext f <;> simp only[hf,hx]at hr ⊢ <;> exact hr
 |some af=>
  simp only[hf]at hr
  cases hq:(mapQ (fz af.eff fzFuel) args).run st.get st.sh.length with
  |none=>simp only[hq]at hr;cases hr
  |some q=>
   simp only[hq]at hr
   cases he:af.eff with
   |true=>
    rw[he]at hq
    simp only[he,if_true,Option.map_eq_some_iff]at hr
    obtain⟨a,h1,h2⟩:=hr
    obtain⟨m,hm⟩:=DCall_iff.1 h1
    refine⟨m, ?_⟩
    unfold doCall
    simp only[hf,hq,he,if_true,Option.map_eq_some_iff]
    exact⟨a,hm,h2⟩
   |false=>
    rw[he]at hq
    simp only[he]at hr
    cases hc:DCall E f q.1 []with
    |none=>simp[hc]at hr
    |some a=>
     simp only[hc]at hr
     obtain⟨m,hm⟩:=DCall_iff.1 hc
     refine⟨m, ?_⟩
     unfold doCall
     simp only[hf,hq,he,hm]
     exact hr
theorem callFP_lim{dd:Nat}{st:St}{f:Nat}{args:List T}{r:FP}(hr:callFP E (DCall E) dd st f args=some r): ∃m,callFP E (callF E m) dd st f args=some r:=by
 unfold callFP at hr
 cases hf:E.fn f with
 |none=>refine⟨0, ?_⟩;unfold callFP;cases hx:E.ext f <;> simp only[hf,hx]at hr ⊢ <;> exact hr
 |some af=>
  simp only[hf]at hr
  cases hq:(mapQ (fz af.eff fzFuel) args).run st.get st.sh.length with
  |none=>simp only[hq]at hr;cases hr
  |some q=>
   simp only[hq]at hr
   by_cases hi:(!inB st q.2)=true
   ·rw[if_pos hi]at hr;cases hr
   ·rw[if_neg hi]at hr
    cases he:af.eff with
    |true=>
     rw[he]at hq
     simp only[he]at hr
     refine⟨0, ?_⟩
     unfold callFP
     simp only[hf,hq,he]
     rw[if_neg hi]
     exact hr
    |false=>
     rw[he]at hq
     simp only[he]at hr
     cases hc:DCall E f q.1 []with
     |none=>simp[hc]at hr
     |some a=>
      simp only[hc]at hr
      obtain⟨m,hm⟩:=DCall_iff.1 hc
      refine⟨m, ?_⟩
      unfold callFP
      simp only[hf,hq,he,hm]
      rw[if_neg hi]
      exact hr
theorem evOper_lim{n:Nat}{o:AOper}{st st':St}(hr:evOper E (DCall E) n o st=some st'): ∃m,evOper E (callF E m) n o st=some st':=by
 cases hc:callOf st.rho o.op with
 |none=>
  refine⟨0, ?_⟩
  unfold evOper at hr ⊢
  simp only[hc]at hr ⊢
  exact hr
 |some x=>
  cases x with
  |none=>
   refine⟨0, ?_⟩
   unfold evOper at hr ⊢
   simp only[hc]at hr ⊢
   exact hr
  |some cc=>
   cases hd:doCall E (DCall E) (o.d.getD 0) st cc.1 cc.2 with
   |none=>
    refine⟨0, ?_⟩
    have h0:doCall E (callF E 0) (o.d.getD 0) st cc.1 cc.2=none:=by
     cases h0:doCall E (callF E 0) (o.d.getD 0) st cc.1 cc.2 with
     |none=>rfl
     |some r=>rw[doCall_mono (callF_le_D 0) h0]at hd;cases hd
    unfold evOper at hr ⊢
    simp only[hc,hd,h0]at hr ⊢
    exact hr
   |some r=>
    obtain⟨m,hm⟩:=doCall_lim hd
    refine⟨m, ?_⟩
    unfold evOper at hr ⊢
    simp only[hc,hd,hm]at hr ⊢
    exact hr
theorem operFP_lim{o:AOper}{st:St}{r:FP}(hr:operFP E (DCall E) o st=some r): ∃m,operFP E (callF E m) o st=some r:=by
 cases hc:callOf st.rho o.op with
 |none=>
  refine⟨0, ?_⟩
  unfold operFP at hr ⊢
  simp only[hc]at hr ⊢
  exact hr
 |some x=>
  cases x with
  |none=>
   refine⟨0, ?_⟩
   unfold operFP at hr ⊢
   simp only[hc]at hr ⊢
   exact hr
  |some cc=>
   cases hd:callFP E (DCall E) (o.d.getD 0) st cc.1 cc.2 with
   |none=>
    refine⟨0, ?_⟩
    have h0:callFP E (callF E 0) (o.d.getD 0) st cc.1 cc.2=none:=by
     cases h0:callFP E (callF E 0) (o.d.getD 0) st cc.1 cc.2 with
     |none=>rfl
     |some r=>rw[callFP_mono (callF_le_D 0) h0]at hd;cases hd
    unfold operFP at hr ⊢
    simp only[hc,hd,h0]at hr ⊢
    exact hr
   |some r=>
    obtain⟨m,hm⟩:=callFP_lim hd
    refine⟨m, ?_⟩
    unfold operFP at hr ⊢
    simp only[hc,hd,hm]at hr ⊢
    exact hr
theorem evOps_lim{n:Nat}: ∀(os:List AOper) {st st':St},evOps E (DCall E) n os st=some st'→ ∃m,evOps E (callF E m) n os st=some st'
 | [],st,st',hr=>⟨0,hr⟩
 |o::os,st,st',hr=>by
  simp only[evOps]at hr
  cases ho:evOper E (DCall E) n o st with
  |none=>simp only[ho]at hr;cases hr
  |some s=>
   simp only[ho]at hr
   obtain⟨m1,h1⟩:=evOper_lim ho
   obtain⟨m2,h2⟩:=evOps_lim os hr
   refine⟨max m1 m2, ?_⟩
   simp only[evOps,evOper_mono (callF_mono (Nat.le_max_left m1 m2)) h1]
   exact evOps_mono (callF_mono (Nat.le_max_right m1 m2)) os h2
theorem evDraw_lim{n:Nat}: ∀(os:List (List Nat×AOper)) {fps:List FP} {st st':St},evDraw E (DCall E) n os fps st=some st'→ ∃m,evDraw E (callF E m) n os fps st=some st'
 | [],fps,st,st',hr=>⟨0,hr⟩
 |(u,o)::os,fps,st,st',hr=>by
  simp only[evDraw]at hr
  cases hp:operFP E (DCall E) o st with
  |none=>simp only[hp]at hr;cases hr
  |some fp=>
   simp only[hp]at hr
   split at hr
   ·rename_i ha
    cases ho:evOper E (DCall E) n o st with
    |none=>simp only[ho]at hr;cases hr
    |some s=>
     simp only[ho]at hr
     obtain⟨m1,h1⟩:=evOper_lim ho
     obtain⟨m2,h2⟩:=evDraw_lim os hr
     obtain⟨m3,h3⟩:=operFP_lim hp
     refine⟨max m3 (max m1 m2), ?_⟩
     have l1:m1≤max m3 (max m1 m2):=by omega
     have l2:m2≤max m3 (max m1 m2):=by omega
     have l3:m3≤max m3 (max m1 m2):=by omega
     simp only[evDraw,operFP_mono (callF_mono l3) h3,evOper_mono (callF_mono l1) h1]
     rw[if_pos ha]
     exact evDraw_mono (callF_mono l2) os h2
   ·cases hr
theorem opt_ext{α:Type}{x y:Option α}(h: ∀r,x=some r↔y=some r):x=y:=Option.ext h
theorem DC_skip{n:Nat}{st:St}:DC E n .skip st=some (.nrm,st):=DC_iff.2 ⟨0,rfl⟩
theorem DC_exit{n id:Nat}{st:St}:DC E n (.exit id) st=some (.ext id,st):=DC_iff.2 ⟨0,rfl⟩
theorem DC_ret{n:Nat}{st:St}:DC E n .ret st=some (.ret,st):=DC_iff.2 ⟨0,rfl⟩
theorem DC_region{n:Nat}{ops:List AOper}{st:St}:DC E n (.region ops) st=(evOps E (DCall E) n ops st).map fun st'=>(.nrm,st'):=by
 refine opt_ext fun r=> ?_
 rw[DC_iff,Option.map_eq_some_iff]
 constructor
 ·rintro⟨m,h⟩
  simp only[evC,Option.map_eq_some_iff]at h
  obtain⟨a,h1,h2⟩:=h
  exact⟨a,evOps_mono (callF_le_D m) ops h1,h2⟩
 ·rintro⟨a,h1,h2⟩
  obtain⟨m,hm⟩:=evOps_lim ops h1
  refine⟨m, ?_⟩
  simp only[evC,Option.map_eq_some_iff]
  exact⟨a,hm,h2⟩
theorem DC_draws{n:Nat}{ops:List (List Nat×AOper)}{st:St}:DC E n (.draws ops) st=(evDraw E (DCall E) n ops [] st).map fun st'=>(.nrm,st'):=by
 refine opt_ext fun r=> ?_
 rw[DC_iff,Option.map_eq_some_iff]
 constructor
 ·rintro⟨m,h⟩
  simp only[evC,Option.map_eq_some_iff]at h
  obtain⟨a,h1,h2⟩:=h
  exact⟨a,evDraw_mono (callF_le_D m) ops h1,h2⟩
 ·rintro⟨a,h1,h2⟩
  obtain⟨m,hm⟩:=evDraw_lim ops h1
  refine⟨m, ?_⟩
  simp only[evC,Option.map_eq_some_iff]
  exact⟨a,hm,h2⟩
def andThen(x:Option (Out×St))(f:St→Option (Out×St)):Option (Out×St):=
 match x with
 |some (.nrm,st')=>f st'
 |r=>r
theorem andThen_nrm{st:St}{f:St→Option (Out×St)}:andThen (some (.nrm,st)) f=f st:=rfl
theorem andThen_ext{id:Nat}{st:St}{f:St→Option (Out×St)}:andThen (some (.ext id,st)) f=some (.ext id,st):=rfl
theorem andThen_ret{st:St}{f:St→Option (Out×St)}:andThen (some (.ret,st)) f=some (.ret,st):=rfl
theorem andThen_none{f:St→Option (Out×St)}:andThen none f=none:=rfl
theorem DC_seq{n:Nat}{a b:ACode}{st:St}:DC E n (.seq a b) st=andThen (DC E n a st) (DC E n b):=by
 refine opt_ext fun r=> ?_
 rw[DC_iff]
 constructor
 ·rintro⟨m,h⟩
  simp only[evC]at h
  cases ha:evC E (callF E m) m n a st with
  |none=>rw[ha]at h;cases h
  |some p=>
   rw[ha]at h
   rw[DC_iff.2 ⟨m,ha⟩]
   obtain⟨o,s⟩:=p
   cases o with
   |nrm=>exact DC_iff.2 ⟨m,h⟩
   |ext id=>exact h
   |ret=>exact h
 ·intro h
  cases ha:DC E n a st with
  |none=>rw[ha]at h;cases h
  |some p=>
   rw[ha]at h
   obtain⟨m1,h1⟩:=DC_iff.1 ha
   obtain⟨o,s⟩:=p
   cases o with
   |nrm=>
    obtain⟨m2,h2⟩:=DC_iff.1 h
    refine⟨max m1 m2, ?_⟩
    have l1:=Nat.le_max_left m1 m2
    have l2:=Nat.le_max_right m1 m2
    simp only[evC,evC_mono (callF_mono l1) l1 a h1]
    exact evC_mono (callF_mono l2) l2 b h2
   |ext id=>refine⟨m1, ?_⟩;simp only[evC,h1];exact h
   |ret=>refine⟨m1, ?_⟩;simp only[evC,h1];exact h
theorem DC_cond{n:Nat}{c:Opd}{a b:ACode}{st:St}:DC E n (.cond c a b) st=match st.rho c with| .b true=>DC E n a st| .b false=>DC E n b st|_=>none:=by
 refine opt_ext fun r=> ?_
 rw[DC_iff]
 constructor
 ·rintro⟨m,h⟩
  simp only[evC]at h
  split at h
  ·rename_i hx;rw[hx];exact DC_iff.2 ⟨m,h⟩
  ·rename_i hx;rw[hx];exact DC_iff.2 ⟨m,h⟩
  ·cases h
 ·intro h
  split at h
  ·rename_i hx
   obtain⟨m,hm⟩:=DC_iff.1 h
   exact⟨m,by simp only[evC,hx];exact hm⟩
  ·rename_i hx
   obtain⟨m,hm⟩:=DC_iff.1 h
   exact⟨m,by simp only[evC,hx];exact hm⟩
  ·cases h
def outOf(id:Nat)(x:Option (Out×St)):Option (Out×St):=
 match x with
 |some (.ext id',st')=>if id'=id then some (.nrm,st')else some (.ext id',st')
 |r=>r
theorem outOf_nrm{id:Nat}{st:St}:outOf id (some (.nrm,st))=some (.nrm,st):=rfl
theorem outOf_ret{id:Nat}{st:St}:outOf id (some (.ret,st))=some (.ret,st):=rfl
theorem outOf_ext{id id':Nat}{st:St}:outOf id (some (.ext id',st))=if id'=id then some (.nrm,st)else some (.ext id',st):=rfl
theorem outOf_none{id:Nat}:outOf id none=none:=rfl
theorem DC_block{n id:Nat}{a:ACode}{st:St}:DC E n (.block id a) st=outOf id (DC E n a st):=by
 refine opt_ext fun r=> ?_
 rw[DC_iff]
 constructor
 ·rintro⟨m,h⟩
  simp only[evC]at h
  cases ha:evC E (callF E m) m n a st with
  |none=>rw[ha]at h;cases h
  |some p=>
   rw[ha]at h
   rw[DC_iff.2 ⟨m,ha⟩]
   exact h
 ·intro h
  cases ha:DC E n a st with
  |none=>rw[ha]at h;cases h
  |some p=>
   rw[ha]at h
   obtain⟨m1,h1⟩:=DC_iff.1 ha
   refine⟨m1, ?_⟩
   simp only[evC,h1]
   exact h
theorem DC_loop{n:Nat}{a:ACode}{st:St}:DC E n (.loop a) st=andThen (DC E n a st) (DC E n (.loop a)):=by
 refine opt_ext fun r=> ?_
 rw[DC_iff]
 constructor
 ·rintro⟨m,h⟩
  simp only[evC]at h
  cases m with
  |zero=>simp[iter]at h
  |succ m=>
   rw[iter]at h
   cases ha:evC E (callF E (m+1)) (m+1) n a st with
   |none=>rw[ha]at h;cases h
   |some p=>
    rw[ha]at h
    rw[DC_iff.2 ⟨m+1,ha⟩]
    obtain⟨o,s⟩:=p
    cases o with
    |nrm=>
     refine DC_iff.2 ⟨m+1, ?_⟩
     simp only[evC]
     exact iter_mono (fun _ _ h=>h) (Nat.le_succ m) h
    |ext id=>exact h
    |ret=>exact h
 ·intro h
  cases ha:DC E n a st with
  |none=>rw[ha]at h;cases h
  |some p=>
   rw[ha]at h
   obtain⟨m1,h1⟩:=DC_iff.1 ha
   obtain⟨o,s⟩:=p
   cases o with
   |nrm=>
    obtain⟨m2,h2⟩:=DC_iff.1 h
    refine⟨max m1 m2+1, ?_⟩
    have l1:m1≤max m1 m2+1:=by omega
    have l2:m2≤max m1 m2+1:=by omega
    have l3:m2≤max m1 m2:=by omega
    simp only[evC]at h2
    simp only[evC]
    rw[iter,evC_mono (callF_mono l1) l1 a h1]
    exact iter_mono (fun st r hh=>evC_mono (callF_mono l2) l2 a hh) l3 h2
   |ext id=>
    refine⟨m1+1, ?_⟩
    simp only[evC]
    rw[iter,evC_mono (callF_mono (Nat.le_succ m1)) (Nat.le_succ m1) a h1]
    exact h
   |ret=>
    refine⟨m1+1, ?_⟩
    simp only[evC]
    rw[iter,evC_mono (callF_mono (Nat.le_succ m1)) (Nat.le_succ m1) a h1]
    exact h
def endOf(af:AFunc)(x:Option (Out×St)):Option (T×List Ent):=
 match x with
 |some (.ext _,_)=>none
 |some (_,st)=>match resAll st af.res with
  |some vs=>answerF af.own af.eff vs st
  |none=>none
 |none=>none
theorem DCall_eq{f:Nat}{af:AFunc}{args:List T}{sh:List Ent}(hf:E.fn f=some af)(hn:args.length≤af.n):
  DCall E f args sh=endOf af (DC E af.n af.code {fr:=frOf args,lh:= .nil,sh}):=by
 refine opt_ext fun r=> ?_
 rw[DCall_iff]
 constructor
 ·rintro⟨m,h⟩
  cases m with
  |zero=>simp[callF]at h
  |succ m=>
   simp only[callF,hf,if_neg (Nat.not_lt.2 hn)]at h
   cases hc:evC E (callF E m) m af.n af.code {fr:=frOf args,lh:= .nil,sh}with
   |none=>rw[hc]at h;cases h
   |some p=>rw[hc]at h;rw[DC_iff.2 ⟨m,hc⟩];exact h
 ·intro h
  cases hc:DC E af.n af.code {fr:=frOf args,lh:= .nil,sh}with
  |none=>rw[hc]at h;cases h
  |some p=>
   rw[hc]at h
   obtain⟨m,hm⟩:=DC_iff.1 hc
   refine⟨m+1, ?_⟩
   simp only[callF,hf,if_neg (Nat.not_lt.2 hn),hm]
   exact h
end
end Go.Ev
namespace Go.Ev
open Go
theorem nr{α:Sort _}{a b:α}(h:a=b):a=b:=h
def rd(fr:Fr):Opd→T
 | .t k=>getF fr k
 | .c v=>v
theorem rd_t(fr:Fr)(k:Nat):rd fr (.t k)=getF fr k:=nr rfl
theorem rd_c(fr:Fr)(v:T):rd fr (.c v)=v:=nr rfl
theorem rho_eq(fr:Fr)(lh:Tri Ent)(sh:List Ent):(St.mk fr lh sh).rho=rd fr:=by funext x;cases x <;> rfl
theorem get_same(fr:Fr)(d:Nat)(v:T):getF (setF fr d v) d=v:=by rw[getF_setF,if_pos rfl]
theorem get_ne(fr:Fr){d m:Nat}(v:T)(h:m≠d):getF (setF fr d v) m=getF fr m:=by rw[getF_setF,if_neg h]
def getO(lh:Tri Ent)(k:Nat):Ent:=Tri.get noEnt lh k
def setO(lh:Tri Ent)(k:Nat)(e:Ent):Tri Ent:=Tri.set noEnt lh k e
theorem getO_same(lh:Tri Ent)(k:Nat)(e:Ent):getO (setO lh k e) k=e:=by unfold getO setO;rw[Tri.get_set,if_pos rfl]
theorem getO_ne(lh:Tri Ent){k m:Nat}(e:Ent)(h:m≠k):getO (setO lh k e) m=getO lh m:=by unfold getO setO;rw[Tri.get_set,if_neg h]
theorem getO_nil(k:Nat):getO .nil k=noEnt:=by unfold getO;exact Tri.get_nil _ _
theorem stget_L(fr:Fr)(lh:Tri Ent)(sh:List Ent)(k:Nat):(St.mk fr lh sh).get .L k=getO lh k:=rfl
theorem stget_S(fr:Fr)(lh:Tri Ent)(sh:List Ent)(k:Nat):(St.mk fr lh sh).get .S k=getE sh k:=rfl
theorem ups_nil(st:St):st.ups []=st:=rfl
theorem ups_L(fr:Fr)(lh:Tri Ent)(sh:List Ent)(k:Nat)(e:Ent)(us:List Up):(St.mk fr lh sh).ups ((.L,k,e)::us)=(St.mk fr (setO lh k e) sh).ups us:=rfl
theorem ups_S(fr:Fr)(lh:Tri Ent)(sh:List Ent)(k:Nat)(e:Ent)(us:List Up):(St.mk fr lh sh).ups ((.S,k,e)::us)=(St.mk fr lh (setE sh k e)).ups us:=rfl
def unRes:Option Res→Option (T×List Up)
 |some (.val v ups)=>some (v,ups)
 |none=>none
def one(fr:Fr)(lh:Tri Ent)(sh:List Ent)(d:Nat)(op:AOp):Option (T×List Up):=
 unRes ((opQ d (rd fr) op).run (St.mk fr lh sh).get sh.length)
def setD(fr:Fr):Option Nat→T→Fr
 |some d,v=>setF fr d v
 |none,_=>fr
def okD(n:Nat):Option Nat→Prop
 |some d=>d<n
 |none=>True
section
variable{E:Env}{call:Orc}{n:Nat}{fr:Fr}{lh:Tri Ent}{sh:List Ent}{os:List AOper}
theorem e_nil{st:St}:evOps E call n [] st=some st:=rfl
theorem e_one{d:Option Nat}{op:AOp}(hc:callOf (rd fr) op=none)(hd:okD n d):
  evOps E call n (⟨d,op,none⟩::os) ⟨fr,lh,sh⟩=(one fr lh sh (d.getD 0) op).bind fun r=>evOps E call n os {(St.mk fr lh sh).ups r.2 with fr:=setD fr d r.1}:=by
 simp only[evOps,evOper,rho_eq,hc]
 unfold one
 cases h:(opQ (d.getD 0) (rd fr) op).run (St.mk fr lh sh).get sh.length with
 |none=>rfl
 |some r=>
  obtain⟨v,ups⟩:=r
  simp only[Option.bind_some,unRes]
  cases d with
  |none=>rfl
  |some d=>simp only[putD,if_pos (show d<n from hd),setD,Option.map_some]
theorem e_pure{d:Option Nat}{op:AOp}(hc:callOf (rd fr) op=none)(hd:okD n d){v:Option T}(h1:one fr lh sh (d.getD 0) op=v.map fun v=>(v,[])):
  evOps E call n (⟨d,op,none⟩::os) ⟨fr,lh,sh⟩=v.bind fun v=>evOps E call n os ⟨setD fr d v,lh,sh⟩:=by
 rw[e_one hc hd,h1]
 cases v <;> rfl
theorem run_val{o:Option T}{h:Sp→Nat→Ent}{nx:Nat}:unRes ((val o).run h nx)=o.map fun v=>(v,([]:List Up)):=by
 cases o <;> rfl
variable{d:Nat}
theorem o_mv{x:Opd}(hd:d<n):evOps E call n (⟨some d,.mv x,none⟩::os) ⟨fr,lh,sh⟩=evOps E call n os ⟨setF fr d (rd fr x),lh,sh⟩:=
 e_pure (d:=some d) (v:=some (rd fr x)) (by rfl) hd rfl
def pickV(c a b:T):Option T:=match c with| .b x=>some (if x=true then a else b)|_=>none
theorem pickV_b(x:Bool)(a b:T):pickV (.b x) a b=some (if x=true then a else b):=rfl
theorem o_pick{c a b:Opd}(hd:d<n):evOps E call n (⟨some d,.pick c a b,none⟩::os) ⟨fr,lh,sh⟩=(pickV (rd fr c) (rd fr a) (rd fr b)).bind fun v=>evOps E call n os ⟨setF fr d v,lh,sh⟩:=by
 refine e_pure (d:=some d) (by rfl) hd ?_
 unfold one pickV
 simp only[opQ]
 cases h:rd fr c <;> try rfl
 rename_i x
 cases x <;> rfl
theorem o_bin{op:BinOp}{x y:Opd}(hd:d<n):evOps E call n (⟨some d,.bin op x y,none⟩::os) ⟨fr,lh,sh⟩=(Ev.bin op (rd fr x) (rd fr y)).bind fun v=>evOps E call n os ⟨setF fr d v,lh,sh⟩:=
 e_pure (d:=some d) (by rfl) hd run_val
theorem o_eq{neg:Bool}{k:EK}{x y:Opd}(hd:d<n):evOps E call n (⟨some d,.eq neg k x y,none⟩::os) ⟨fr,lh,sh⟩=((eqT k (rd fr x) (rd fr y)).map fun r=>T.b (r != neg)).bind fun v=>evOps E call n os ⟨setF fr d v,lh,sh⟩:=
 e_pure (d:=some d) (by rfl) hd run_val
theorem o_un{op:UnOp}{x:Opd}(hd:d<n):evOps E call n (⟨some d,.un op x,none⟩::os) ⟨fr,lh,sh⟩=(Ev.un op (rd fr x)).bind fun v=>evOps E call n os ⟨setF fr d v,lh,sh⟩:=
 e_pure (d:=some d) (by rfl) hd run_val
def cviV(k:IntKind):T→Option T
 | .i _ n=>some (.i k (wr k n))
 |_=>none
theorem o_cvi{k:IntKind}{x:Opd}(hd:d<n):evOps E call n (⟨some d,.cvi k x,none⟩::os) ⟨fr,lh,sh⟩=(cviV k (rd fr x)).bind fun v=>evOps E call n os ⟨setF fr d v,lh,sh⟩:=by
 refine e_pure (d:=some d) (by rfl) hd ?_
 unfold one cviV
 simp only[opQ]
 cases h:rd fr x <;> rfl
theorem o_mkfn{f:Nat}{a c:List Opd}(hd:d<n):evOps E call n (⟨some d,.mkfn f a c,none⟩::os) ⟨fr,lh,sh⟩=evOps E call n os ⟨setF fr d (.fn f (a.map (rd fr)) (c.map (rd fr))),lh,sh⟩:=
 e_pure (d:=some d) (v:=some _) (by rfl) hd rfl
def buildV(fr:Fr)(z:List T)(ps:List (Nat×Nat×Opd)):Option T:=
 if(ps.all fun p=>(cellsOf (rd fr p.2.2)).length=p.2.1&&noTup (rd fr p.2.2))=true then(fills z (ps.map fun p=>(p.1,cellsOf (rd fr p.2.2)))).map .agg else none
theorem o_build{z:List T}{ps:List (Nat×Nat×Opd)}(hd:d<n):evOps E call n (⟨some d,.build z ps,none⟩::os) ⟨fr,lh,sh⟩=(buildV fr z ps).bind fun v=>evOps E call n os ⟨setF fr d v,lh,sh⟩:=by
 refine e_pure (d:=some d) (by rfl) hd ?_
 unfold one buildV
 simp only[opQ]
 split
 ·exact run_val
 ·rfl
def slSV(fr:Fr)(x:T)(l h:Option Opd):Option T:=
 match x with
 | .s bs=>match optVal (rd fr) 0 l,optVal (rd fr) bs.length h with
   |some l,some h=>if l≤h∧h≤bs.length then some (.s ((bs.drop l).take (h-l)))else none
   |_,_=>none
 |_=>none
theorem o_slS{x:Opd}{l h:Option Opd}(hd:d<n):evOps E call n (⟨some d,.slS x l h,none⟩::os) ⟨fr,lh,sh⟩=(slSV fr (rd fr x) l h).bind fun v=>evOps E call n os ⟨setF fr d v,lh,sh⟩:=by
 refine e_pure (d:=some d) (by rfl) hd ?_
 unfold one slSV
 simp only[opQ]
 cases hx:rd fr x <;> try rfl
 rename_i bs
 simp only[]
 cases h1:optVal (rd fr) 0 l <;> cases h2:optVal (rd fr) bs.length h <;> try rfl
 rename_i a b
 simp only[Bool.and_eq_true,decide_eq_true_eq]
 by_cases hb:a≤b∧b≤bs.length
 ·simp only[if_pos hb];rfl
 ·simp only[if_neg hb];rfl
def faV(x:T)(off:Nat):Option T:=
 match x with
 | .vp cs=>if off≤cs.length then some (.vp (cs.drop off))else none
 | .ptr sp k g o=>some (.ptr sp k g (o+off))
 |_=>none
theorem o_fa{x:Opd}{off:Nat}(hd:d<n):evOps E call n (⟨some d,.fa x off,none⟩::os) ⟨fr,lh,sh⟩=(faV (rd fr x) off).bind fun v=>evOps E call n os ⟨setF fr d v,lh,sh⟩:=by
 refine e_pure (d:=some d) (by rfl) hd ?_
 unfold one faV
 simp only[opQ]
 cases hx:rd fr x <;> try rfl
 rename_i cs
 simp only[]
 split <;> rfl
def fldV(x:T)(off n:Nat)(ag:Bool):Option T:=match x with| .agg cs=>part cs off n ag|_=>none
def iaV(x ix:T)(sz:Nat):Option T:=
 match asNat ix,x with
 |some j,.sl cs len _=>if j<len∧(j+1)*sz≤cs.length then some (.vp (cs.drop (j*sz)))else none
 |some j,.isl sp k g off len sz'=>if j<len∧sz'=sz then some (.ptr sp k g (off+j*sz))else none
 |_,_=>none
theorem o_ia{x ix:Opd}{sz:Nat}(hd:d<n):evOps E call n (⟨some d,.ia x ix sz,none⟩::os) ⟨fr,lh,sh⟩=(iaV (rd fr x) (rd fr ix) sz).bind fun v=>evOps E call n os ⟨setF fr d v,lh,sh⟩:=by
 refine e_pure (d:=some d) (by rfl) hd ?_
 unfold one iaV
 simp only[opQ]
 cases h1:asNat (rd fr ix)with
 |none=>rfl
 |some j=>
  cases hx:rd fr x <;> try rfl
  ·simp only[Bool.and_eq_true,decide_eq_true_eq];split <;> rfl
  ·simp only[Bool.and_eq_true,decide_eq_true_eq];split <;> rfl
def iaAV(x ix:T)(len sz:Nat):Option T:=
 match asNat ix,x with
 |some j,.vp cs=>if j<len∧(j+1)*sz≤cs.length then some (.vp (cs.drop (j*sz)))else none
 |some j,.ptr sp k g off=>if j<len then some (.ptr sp k g (off+j*sz))else none
 |_,_=>none
theorem o_iaA{x ix:Opd}{len sz:Nat}(hd:d<n):evOps E call n (⟨some d,.iaA x ix len sz,none⟩::os) ⟨fr,lh,sh⟩=(iaAV (rd fr x) (rd fr ix) len sz).bind fun v=>evOps E call n os ⟨setF fr d v,lh,sh⟩:=by
 refine e_pure (d:=some d) (by rfl) hd ?_
 unfold one iaAV
 simp only[opQ]
 cases h1:asNat (rd fr ix)with
 |none=>rfl
 |some j=>
  cases hx:rd fr x <;> try rfl
  ·simp only[Bool.and_eq_true,decide_eq_true_eq];split <;> rfl
  ·simp only[];split <;> rfl
def ixSV(x ix:T):Option T:=
 match asNat ix,x with
 |some j,.s bs=>bs[j]?.map fun c=> .i .u8 c
 |_,_=>none
theorem o_ixS{x ix:Opd}(hd:d<n):evOps E call n (⟨some d,.ixS x ix,none⟩::os) ⟨fr,lh,sh⟩=(ixSV (rd fr x) (rd fr ix)).bind fun v=>evOps E call n os ⟨setF fr d v,lh,sh⟩:=by
 refine e_pure (d:=some d) (by rfl) hd ?_
 unfold one ixSV
 simp only[opQ]
 cases h1:asNat (rd fr ix)with
 |none=>rfl
 |some j=>
  cases hx:rd fr x <;> try rfl
  rename_i bs
  simp only[]
  cases hb:bs[j]? <;> rfl
def extV(x:T)(j:Nat):Option T:=match x with| .tup vs=>vs[j]? |_=>none
theorem o_ext{x:Opd}{j:Nat}(hd:d<n):evOps E call n (⟨some d,.ext x j,none⟩::os) ⟨fr,lh,sh⟩=(extV (rd fr x) j).bind fun v=>evOps E call n os ⟨setF fr d v,lh,sh⟩:=by
 refine e_pure (d:=some d) (by rfl) hd ?_
 unfold one extV
 simp only[opQ]
 cases hx:rd fr x <;> try rfl
 exact run_val
def lenSV(x:T):Option T:=match x with| .s bs=>some (.i .i64 bs.length)|_=>none
theorem o_lenS{x:Opd}(hd:d<n):evOps E call n (⟨some d,.lenS x,none⟩::os) ⟨fr,lh,sh⟩=(lenSV (rd fr x)).bind fun v=>evOps E call n os ⟨setF fr d v,lh,sh⟩:=by
 refine e_pure (d:=some d) (by rfl) hd ?_
 unfold one lenSV
 simp only[opQ]
 cases hx:rd fr x <;> rfl
theorem o_lenV{x:Opd}(hd:d<n):evOps E call n (⟨some d,.lenV x,none⟩::os) ⟨fr,lh,sh⟩=((lenT (rd fr x)).map fun m=>T.i .i64 m).bind fun v=>evOps E call n os ⟨setF fr d v,lh,sh⟩:=
 e_pure (d:=some d) (by rfl) hd run_val
def mmV(isMax:Bool)(l:List T):Option T:=match l with|x::rest=>minmax isMax x rest| []=>none
theorem o_mm{isMax:Bool}{args:List Opd}(hd:d<n):evOps E call n (⟨some d,.mm isMax args,none⟩::os) ⟨fr,lh,sh⟩=(mmV isMax (args.map (rd fr))).bind fun v=>evOps E call n os ⟨setF fr d v,lh,sh⟩:=by
 refine e_pure (d:=some d) (by rfl) hd ?_
 unfold one mmV
 simp only[opQ]
 cases hx:args.map (rd fr)with
 |nil=>rfl
 |cons x rest=>exact run_val
def nckV(x:T):Option T:=match x with| .vp cs=>some (.vp cs)| .ptr sp k g off=>some (.ptr sp k g off)| .fn f a c=>some (.fn f a c)|_=>none
theorem one_nck{x:Opd}:one fr lh sh d (.nck x)=(nckV (rd fr x)).map fun v=>(v,[]):=by
 unfold one nckV
 simp only[opQ]
 cases hx:rd fr x <;> rfl
theorem o_nck{x:Opd}(hd:d<n):evOps E call n (⟨some d,.nck x,none⟩::os) ⟨fr,lh,sh⟩=(nckV (rd fr x)).bind fun v=>evOps E call n os ⟨setF fr d v,lh,sh⟩:=
 e_pure (d:=some d) (by rfl) hd one_nck
def ldE(e:Ent)(g off m:Nat)(ag:Bool):Option T:=
 match e with
 |⟨g',.cells cs _ _⟩=>if g'=g then part cs off m ag else none
 |_=>none
theorem ldE_cells{g g' off m wm:Nat}{ag bx:Bool}{cs:List T}:ldE ⟨g',.cells cs wm bx⟩ g off m ag=if g'=g then part cs off m ag else none:=rfl
def ldV(lh:Tri Ent)(sh:List Ent)(x:T)(m:Nat)(ag:Bool):Option T:=
 match x with
 | .vp cs=>part cs 0 m ag
 | .ptr .L k g off=>ldE (getO lh k) g off m ag
 | .ptr .S k g off=>ldE (getE sh k) g off m ag
 |_=>none
theorem of_run{α:Type}{o:Option α}{h:Sp→Nat→Ent}{nx:Nat}:(Q.of o).run h nx=o:=by cases o <;> rfl
theorem ldQ{h:Sp→Nat→Ent}{nx g off m:Nat}{ag:Bool}(e:Ent):Q.run h nx (if e.g=g then(match e.ob with| .cells cs _ _=>Q.of (part cs off m ag)|_=> .fail)else .fail)=ldE e g off m ag:=by
 obtain⟨g',ob⟩:=e
 unfold ldE
 by_cases hg:g'=g
 ·cases ob <;> simp only[hg,if_true] <;> first|rfl|exact of_run
 ·cases ob <;> simp only[hg,if_false] <;> rfl
theorem ldAt_eq{x:T}{m:Nat}{ag:Bool}:(ldAt x m ag).run (St.mk fr lh sh).get sh.length=ldV lh sh x m ag:=by
 unfold ldAt ldV
 cases x <;> try rfl
 ·exact of_run
 ·rename_i sp k g off
  cases sp
  ·exact ldQ (getO lh k)
  ·exact ldQ (getE sh k)
theorem bind_run{α β:Type}{h:Sp→Nat→Ent}{nx:Nat}{f:α→Q β}: ∀(q:Q α),(q.bind f).run h nx=(q.run h nx).bind fun a=>(f a).run h nx
 | .ret a=>rfl
 | .fail=>rfl
 | .rd sp k g=>bind_run (g (h sp k))
 | .new g=>bind_run (g nx)
theorem o_ld{x:Opd}{m:Nat}{ag:Bool}(hd:d<n):evOps E call n (⟨some d,.ld x m ag,none⟩::os) ⟨fr,lh,sh⟩=(ldV lh sh (rd fr x) m ag).bind fun v=>evOps E call n os ⟨setF fr d v,lh,sh⟩:=by
 refine e_pure (d:=some d) (by rfl) hd ?_
 unfold one
 simp only[opQ,bind_run,ldAt_eq]
 cases ldV lh sh (rd fr x) m ag <;> rfl
theorem o_alloc{z:List T}(hd:d<n):evOps E call n (⟨some d,.alloc z false,none⟩::os) ⟨fr,lh,sh⟩=evOps E call n os ⟨setF fr d (.ptr .L d ((getO lh d).g+1) 0),setO lh d ⟨(getO lh d).g+1,.cells z 0 true⟩,sh⟩:=by
 rw[e_one (by rfl) (show okD n (some d)from hd)];rfl
theorem o_box{x:Opd}(hd:d<n)(ht:noTup (rd fr x)=true):evOps E call n (⟨some d,.box x false,none⟩::os) ⟨fr,lh,sh⟩=evOps E call n os ⟨setF fr d (.ptr .L d ((getO lh d).g+1) 0),setO lh d ⟨(getO lh d).g+1,.cells (cellsOf (rd fr x)) 0 true⟩,sh⟩:=by
 rw[e_one (by rfl) (show okD n (some d)from hd)]
 unfold one
 simp only[opQ,ht]
 rfl
theorem o_mkmap(hd:d<n):evOps E call n (⟨some d,.mkmap false,none⟩::os) ⟨fr,lh,sh⟩=evOps E call n os ⟨setF fr d (.mp .L d ((getO lh d).g+1)),setO lh d ⟨(getO lh d).g+1,.map [] [] false⟩,sh⟩:=by
 rw[e_one (by rfl) (show okD n (some d)from hd)];rfl
def mkOk(x:T)(bytes:Nat):Option Nat:=match asNat x with|some m=>if m*bytes≤roomy∧m≤roomy then some m else none|none=>none
theorem o_mksl{z:List T}{bytes:Nat}{x:Opd}(hd:d<n):evOps E call n (⟨some d,.mksl z bytes x false,none⟩::os) ⟨fr,lh,sh⟩=
  (mkOk (rd fr x) bytes).bind fun m=>evOps E call n os ⟨setF fr d (.isl .L d ((getO lh d).g+1) 0 m z.length),setO lh d ⟨(getO lh d).g+1,.cells (repl z m) 0 false⟩,sh⟩:=by
 rw[e_one (by rfl) (show okD n (some d)from hd)]
 unfold one mkOk
 simp only[opQ]
 cases asNat (rd fr x)with
 |none=>rfl
 |some m=>
  simp only[Bool.and_eq_true,decide_eq_true_eq]
  split <;> rfl
end
end Go.Ev
namespace Go.Ev
open Go
def froz1:T→Bool
 | .b _| .i .. | .s _| .nilsl| .sl .. | .nilptr| .vp _| .nilmp| .vm .. | .nilfn=>true
 |_=>false
def froz:T→Bool
 | .agg cs=>cs.all froz1
 | .tup cs=>cs.all froz1
 | .fn _ a c=>a.all froz1&&c.all froz1
 |t=>froz1 t
theorem fz_froz1{keep:Bool}{n:Nat}{t:T}(h:froz1 t=true):fz keep (n+1) t= .ret (t,[]):=by
 cases t <;> first|rfl|(simp[froz1]at h)
theorem mapQ_froz1{keep:Bool}{n:Nat}: ∀(ts:List T),ts.all froz1=true→mapQ (fz keep (n+1)) ts= .ret (ts,[])
 | [],_=>rfl
 |t::ts,h=>by
  simp only[List.all_cons,Bool.and_eq_true]at h
  simp only[mapQ,fz_froz1 h.1,mapQ_froz1 ts h.2,Q.bind,List.append_nil]
theorem fz_agg{keep:Bool}{n:Nat}{cs:List T}:fz keep (n+1) (.agg cs)=(mapQ (fz keep n) cs).bind fun q=> .ret (.agg q.1,q.2):=rfl
theorem fz_tup{keep:Bool}{n:Nat}{cs:List T}:fz keep (n+1) (.tup cs)=(mapQ (fz keep n) cs).bind fun q=> .ret (.tup q.1,q.2):=rfl
theorem fz_fn{keep:Bool}{n f:Nat}{a c:List T}:fz keep (n+1) (.fn f a c)=(mapQ (fz keep n) a).bind fun p=>(mapQ (fz keep n) c).bind fun q=> .ret (.fn f p.1 q.1,p.2++q.2):=rfl
theorem fz_froz{keep:Bool}{n:Nat}{t:T}(h:froz t=true):fz keep (n+2) t= .ret (t,[]):=by
 cases t with
 |agg cs=>simp only[froz]at h;rw[fz_agg,mapQ_froz1 cs h];rfl
 |tup cs=>simp only[froz]at h;rw[fz_tup,mapQ_froz1 cs h];rfl
 |fn f a c=>simp only[froz,Bool.and_eq_true]at h;rw[fz_fn,mapQ_froz1 a h.1,mapQ_froz1 c h.2];rfl
 |_=>exact fz_froz1 h
def fzV(lh:Tri Ent)(sh:List Ent)(keep:Bool)(v:T):Option (T×List Up):=(fz keep fzFuel v).run (St.mk .nil lh sh).get sh.length
def fzL(lh:Tri Ent)(sh:List Ent)(keep:Bool)(vs:List T):Option (List T×List Up):=(mapQ (fz keep fzFuel) vs).run (St.mk .nil lh sh).get sh.length
section
variable{lh:Tri Ent}{sh:List Ent}{keep:Bool}
theorem fzV_froz{v:T}(h:froz v=true):fzV lh sh keep v=some (v,[]):=by
 unfold fzV fzFuel;rw[fz_froz h];rfl
theorem fzL_nil:fzL lh sh keep []=some ([],[]):=rfl
theorem fzL_cons{v:T}{vs:List T}:fzL lh sh keep (v::vs)=(fzV lh sh keep v).bind fun p=>(fzL lh sh keep vs).bind fun q=>some (p.1::q.1,p.2++q.2):=by
 unfold fzL fzV
 rw[mapQ,bind_run]
 congr 1
 funext p
 rw[bind_run]
 rfl
theorem fzL_froz{vs:List T}(h:vs.all froz=true):fzL lh sh keep vs=some (vs,[]):=by
 induction vs with
 |nil=>rfl
 |cons v vs ih=>
  simp only[List.all_cons,Bool.and_eq_true]at h
  rw[fzL_cons,fzV_froz h.1,ih h.2]
  rfl
def islV(m:Nat)(lh:Tri Ent)(sh:List Ent)(k:Nat)(e:Ent)(g off len sz:Nat):Option (T×List Up):=
 match e with
 |⟨g',.cells cs _ false⟩=>if g'=g∧off+len*sz≤cs.length then some (.sl ((cs.drop off).take (len*sz)) len false,[(.L,k,⟨g,.cells cs cs.length false⟩)])else none
 |⟨g',.cells cs _ true⟩=>if g'=g∧off+len*sz≤cs.length then((mapQ (fz false m) ((cs.drop off).take (len*sz))).run (St.mk .nil lh sh).get sh.length).map fun q=>(.sl q.1 len false,q.2++ [(.L,k,⟨g,.cells cs cs.length true⟩)])else none
 |_=>none
theorem islQ{m k g off len sz:Nat}(e:Ent):Q.run (St.mk .nil lh sh).get sh.length (if e.g=g then(match e.ob with
        | .cells cs _ false=>if off+len*sz≤cs.length then .ret (T.sl ((cs.drop off).take (len*sz)) len false,[(Sp.L,k,(⟨g,.cells cs cs.length false⟩:Ent))])else .fail
        | .cells cs _ true=>if off+len*sz≤cs.length then(mapQ (fz false m) ((cs.drop off).take (len*sz))).bind fun q=> .ret (T.sl q.1 len false,q.2++ [(Sp.L,k,(⟨g,.cells cs cs.length true⟩:Ent))])else .fail
        |_=> .fail)else .fail)=islV m lh sh k e g off len sz:=by
 obtain⟨g',ob⟩:=e
 unfold islV
 by_cases hg:g'=g
 ·cases ob with
  |cells cs wm bx=>
   cases bx
   ·by_cases hl:off+len*sz≤cs.length <;> simp[hg,hl,Q.run]
   ·by_cases hl:off+len*sz≤cs.length
    ·simp only[hg,hl,if_true,and_self,bind_run]
     cases (mapQ (fz false m) ((cs.drop off).take (len*sz))).run (St.mk .nil lh sh).get sh.length <;> rfl
    ·simp[hg,hl,Q.run]
  |_=>simp[hg,Q.run]
 ·cases ob with
  |cells cs wm bx=>cases bx <;> simp[hg,Q.run]
  |_=>simp[hg,Q.run]
theorem fzV_isl{k g off len sz:Nat}:fzV lh sh keep (.isl .L k g off len sz)=islV 7 lh sh k (getO lh k) g off len sz:=by
 cases keep <;> exact islQ (getO lh k)
def mpV(k:Nat)(e:Ent)(g:Nat):Option (T×List Up):=
 match e with
 |⟨g',.map ks vs _⟩=>if g'=g then some (.vm ks vs,[(.L,k,⟨g,.map ks vs true⟩)])else none
 |_=>none
theorem mpQ{h:Sp→Nat→Ent}{nx k g:Nat}(e:Ent):Q.run h nx (if e.g=g then(match e.ob with
        | .map ks vs _=> .ret (T.vm ks vs,[(Sp.L,k,(⟨g,.map ks vs true⟩:Ent))])
        |_=> .fail)else .fail)=mpV k e g:=by
 obtain⟨g',ob⟩:=e
 unfold mpV
 by_cases hg:g'=g <;> cases ob <;> simp[hg,Q.run]
theorem fzV_mp{k g:Nat}:fzV lh sh keep (.mp .L k g)=mpV k (getO lh k) g:=by
 cases keep <;> exact mpQ (getO lh k)
theorem fzV_keepS{k g off len sz:Nat}:fzV lh sh true (.isl .S k g off len sz)=some (.isl .S k g off len sz,[]):=rfl
theorem fzV_keepP{k g off:Nat}:fzV lh sh true (.ptr .S k g off)=some (.ptr .S k g off,[]):=rfl
theorem fzV_keepM{k g:Nat}:fzV lh sh true (.mp .S k g)=some (.mp .S k g,[]):=rfl
theorem fzV_agg{cs:List T}:fzV lh sh keep (.agg cs)=((mapQ (fz keep 7) cs).run (St.mk .nil lh sh).get sh.length).map fun q=>(.agg q.1,q.2):=by
 unfold fzV fzFuel
 rw[fz_agg,bind_run]
 cases (mapQ (fz keep 7) cs).run (St.mk .nil lh sh).get sh.length <;> rfl
theorem fzV_tup{cs:List T}:fzV lh sh keep (.tup cs)=((mapQ (fz keep 7) cs).run (St.mk .nil lh sh).get sh.length).map fun q=>(.tup q.1,q.2):=by
 unfold fzV fzFuel
 rw[fz_tup,bind_run]
 cases (mapQ (fz keep 7) cs).run (St.mk .nil lh sh).get sh.length <;> rfl
end
section
variable{E:Env}{call:Orc}{n:Nat}{fr:Fr}{lh:Tri Ent}{sh:List Ent}{os:List AOper}{d:Nat}
theorem get_fr:(St.mk fr lh sh).get=(St.mk .nil lh sh).get:=by funext sp k;cases sp <;> rfl
theorem ups_frame: ∀(us:List Up) (lh:Tri Ent) (sh:List Ent),(St.mk fr lh sh).ups us={(St.mk .nil lh sh).ups us with fr:=fr}
 | [],lh,sh=>rfl
 |(.L,k,e)::us,lh,sh=>ups_frame us (setO lh k e) sh
 |(.S,k,e)::us,lh,sh=>ups_frame us lh (setE sh k e)
def stV(lh:Tri Ent)(sh:List Ent)(x v:T)(m:Nat):Option (Tri Ent×List Ent):=
 match(stAt x v m).run (St.mk .nil lh sh).get sh.length with
 |some (.val _ us)=>some (((St.mk .nil lh sh).ups us).lh,((St.mk .nil lh sh).ups us).sh)
 |none=>none
theorem o_st{x v:Opd}{m:Nat}:evOps E call n (⟨none,.st x v m,none⟩::os) ⟨fr,lh,sh⟩=(stV lh sh (rd fr x) (rd fr v) m).bind fun r=>evOps E call n os ⟨fr,r.1,r.2⟩:=by
 rw[e_one (by rfl) (show okD n none from trivial)]
 unfold one stV
 simp only[opQ,get_fr]
 cases h:(stAt (rd fr x) (rd fr v) m).run (St.mk .nil lh sh).get sh.length with
 |none=>rfl
 |some r=>
  obtain⟨u,us⟩:=r
  simp only[Option.bind_some,setD,unRes]
  rw[ups_frame us lh sh]
def stB(lh:Tri Ent)(sh:List Ent)(k:Nat)(e:Ent)(g off:Nat)(v:T)(m:Nat):Option (Tri Ent×List Ent):=
 match e with
 |⟨g',.cells cs wm true⟩=>if g'=g∧(cellsOf v).length=m∧noTup v=true∧wm≤off∧off+m≤cs.length then some (setO lh k ⟨g,.cells (splice cs off (cellsOf v)) wm true⟩,sh)else none
 |⟨g',.cells cs wm false⟩=>if g'=g∧(cellsOf v).length=m∧noTup v=true∧wm≤off∧off+m≤cs.length then
    (fzV lh sh false v).bind fun p=>if hits p.2 .L k=true∨noTup p.1=false∨(cellsOf p.1).length≠m then none else some (((St.mk .nil lh sh).ups (p.2++ [(.L,k,⟨g,.cells (splice cs off (cellsOf p.1)) wm false⟩)])).lh,((St.mk .nil lh sh).ups (p.2++ [(.L,k,⟨g,.cells (splice cs off (cellsOf p.1)) wm false⟩)])).sh)
  else none
 |_=>none
def upRes(lh:Tri Ent)(sh:List Ent):Option Res→Option (Tri Ent×List Ent)
 |some (.val _ us)=>some (((St.mk .nil lh sh).ups us).lh,((St.mk .nil lh sh).ups us).sh)
 |none=>none
def stQf(k g off m:Nat)(v:T)(e:Ent):Q Res:=if e.g=g then match e.ob with
     | .cells cs wm bx=>if wm≤off&&off+m≤cs.length then
         (if bx&&Sp.L== .L then .ret (.val undefT [(Sp.L,k,⟨g,.cells (splice cs off (cellsOf v)) wm bx⟩)])
         else(fz (bx&&Sp.L== .S) fzFuel v).bind fun p=>if hits p.2 .L k|| !noTup p.1||(cellsOf p.1).length≠m then .fail else .ret (.val undefT (p.2++ [(Sp.L,k,⟨g,.cells (splice cs off (cellsOf p.1)) wm bx⟩)])))
       else .fail
     |_=> .fail
    else .fail
theorem stQ{k g off m:Nat}{v:T}(e:Ent)(h1:(cellsOf v).length=m)(h2:noTup v=true):upRes lh sh (Q.run (St.mk .nil lh sh).get sh.length (stQf k g off m v e))=stB lh sh k e g off v m:=by
 obtain⟨g',ob⟩:=e
 unfold stB stQf
 by_cases hg:g'=g
 ·subst hg
  cases ob with
  |none=>simp[Q.run,upRes]
  |map ks vs z=>simp[Q.run,upRes]
  |cells cs wm bx=>
   by_cases hb:wm≤off∧off+m≤cs.length
   ·cases bx with
    |true=>simp[hb.1,hb.2,h1,h2,Q.run,ups_L,ups_nil,upRes]
    |false=>
     have hb':(decide (wm≤off)&&decide (off+m≤cs.length))=true:=by simp[hb.1,hb.2]
     simp only[if_true,hb',Bool.false_and,Bool.false_eq_true,if_false,bind_run]
     rw[if_pos (show True∧(cellsOf v).length=m∧noTup v=true∧wm≤off∧off+m≤cs.length from⟨trivial,h1,h2,hb⟩)]
     show upRes lh sh (Option.bind (fzV lh sh false v) _)=_
     cases hz:fzV lh sh false v with
     |none=>rfl
     |some p=>
      simp only[Option.bind_some]
      by_cases hh:(hits p.2 .L k=true∨noTup p.1=false∨(cellsOf p.1).length≠m)
      ·rw[if_pos hh]
       have:(hits p.2 .L k|| !noTup p.1||decide ((cellsOf p.1).length≠m))=true:=by
        rcases hh with h|h|h
        ·simp[h]
        ·simp[h]
        ·simp[h]
       simp only[this,if_true,Q.run,upRes]
      ·rw[if_neg hh]
       have:(hits p.2 .L k|| !noTup p.1||decide ((cellsOf p.1).length≠m))=false:=by
        simp only[not_or]at hh
        obtain⟨h3,h4,h5⟩:=hh
        have h5':(cellsOf p.1).length=m:=Classical.byContradiction h5
        simp[h3,h4,h5']
       simp only[this,Bool.false_eq_true,if_false,Q.run,upRes]
   ·have hb':(decide (wm≤off)&&decide (off+m≤cs.length))=false:=by
     cases hx:(decide (wm≤off)&&decide (off+m≤cs.length))with
     |false=>rfl
     |true=>simp at hx;exact absurd hx hb
    cases bx
    ·simp only[if_true,hb',Bool.false_eq_true,if_false,Q.run,upRes]
     rw[if_neg (by rintro⟨_,_,_,a⟩;exact hb a)]
    ·simp only[if_true,hb',Bool.false_eq_true,if_false,Q.run,upRes]
     rw[if_neg (by rintro⟨_,_,_,a⟩;exact hb a)]
 ·cases ob with
  |none=>simp[hg,Q.run,upRes]
  |map ks vs z=>simp[hg,Q.run,upRes]
  |cells cs wm bx=>cases bx <;> simp[hg,Q.run,upRes]
theorem stV_L{k g off m:Nat}{v:T}:stV lh sh (.ptr .L k g off) v m=stB lh sh k (getO lh k) g off v m:=by
 by_cases h1:(cellsOf v).length=m
 ·cases h2:noTup v with
  |false=>
   unfold stV stAt
   have:(decide ((cellsOf v).length≠m)|| !noTup v)=true:=by simp[h2]
   simp only[this,if_true,Q.run]
   unfold stB
   split <;> simp[h2]
  |true=>
   unfold stV stAt
   have:(decide ((cellsOf v).length≠m)|| !noTup v)=false:=by simp[h1,h2]
   simp only[this,Bool.false_eq_true,if_false]
   exact stQ (getO lh k) h1 h2
 ·unfold stV stAt
  have:(decide ((cellsOf v).length≠m)|| !noTup v)=true:=by simp[h1]
  simp only[this,if_true,Q.run]
  unfold stB
  split <;> simp[h1]
theorem stB_box{k g g' off m wm:Nat}{cs:List T}{v:T}:stB lh sh k ⟨g',.cells cs wm true⟩ g off v m=if g'=g∧(cellsOf v).length=m∧noTup v=true∧wm≤off∧off+m≤cs.length then some (setO lh k ⟨g,.cells (splice cs off (cellsOf v)) wm true⟩,sh)else none:=rfl
theorem stB_row{k g g' off m wm:Nat}{cs:List T}{v:T}(hf:froz v=true):stB lh sh k ⟨g',.cells cs wm false⟩ g off v m=if g'=g∧(cellsOf v).length=m∧noTup v=true∧wm≤off∧off+m≤cs.length then some (setO lh k ⟨g,.cells (splice cs off (cellsOf v)) wm false⟩,sh)else none:=by
 unfold stB
 simp only[fzV_froz hf,Option.bind_some,hits,List.any_nil,Bool.false_eq_true,false_or]
 by_cases h:g'=g∧(cellsOf v).length=m∧noTup v=true∧wm≤off∧off+m≤cs.length
 ·rw[if_pos h,if_pos h,if_neg (by rintro(hc|hc) <;> simp_all)]
  rfl
 ·rw[if_neg h,if_neg h]
def slC(lh:Tri Ent)(sh:List Ent)(sz:Nat)(x:T):Option (Nat×List T):=(sliceCells sz x).run (St.mk .nil lh sh).get sh.length
theorem slC_nil{sz:Nat}:slC lh sh sz .nilsl=some (0,[]):=rfl
theorem slC_sl{sz len:Nat}{cs:List T}{ex:Bool}:slC lh sh sz (.sl cs len ex)=if cs.length=len*sz then some (len,cs)else none:=by
 unfold slC sliceCells;simp only[];split <;> rfl
theorem slC_s{l:List Nat}:slC lh sh 1 (.s l)=some (l.length,l.map fun(n:Nat)=>T.i .u8 (n:Int)):=rfl
def slE(sz:Nat)(e:Ent)(g off len:Nat):Option (Nat×List T):=
 match e with
 |⟨g',.cells cs _ false⟩=>if g'=g∧off+len*sz≤cs.length then some (len,(cs.drop off).take (len*sz))else none
 |_=>none
def appE(lh:Tri Ent)(k:Nat)(e:Ent)(g off len sz sz' bytes:Nat)(p:Nat×List T):Option (T×Tri Ent):=
 match e with
 |⟨g',.cells cs wm false⟩=>if sz'=sz∧off=0∧(len+p.1)*bytes≤roomy∧g'=g∧len*sz=cs.length then some (.isl .L k (g+1) 0 (len+p.1) sz,setO lh k ⟨g+1,.cells (cs++p.2) wm false⟩)else none
 |_=>none
def appV(lh:Tri Ent)(d sz bytes:Nat)(s:T)(p:Nat×List T):Option (T×Tri Ent):=
 if p.1=0 then(match s with| .nilsl| .sl .. | .isl .. =>some (s,lh)|_=>none)else
 match s with
 | .nilsl=>if p.1*bytes≤roomy then some (.isl .L d ((getO lh d).g+1) 0 p.1 sz,setO lh d ⟨(getO lh d).g+1,.cells p.2 0 false⟩)else none
 | .sl cs len true=>if cs.length=len*sz∧(len+p.1)*bytes≤roomy then some (.isl .L d ((getO lh d).g+1) 0 (len+p.1) sz,setO lh d ⟨(getO lh d).g+1,.cells (cs++p.2) 0 false⟩)else none
 | .isl .L k g off len sz'=>appE lh k (getO lh k) g off len sz sz' bytes p
 |_=>none
def appQf(k g off len sz sz' bytes:Nat)(p:Nat×List T)(e:Ent):Q Res:=
     if e.g=g then match e.ob with
      | .cells cs wm false=>if len*sz=cs.length then .ret (.val (.isl .L k (g+1) 0 (len+p.1) sz) [(.L,k,⟨g+1,.cells (cs++p.2) wm false⟩)])else .fail
      |_=> .fail
     else .fail
theorem appQ{k g off len sz sz' bytes:Nat}{p:Nat×List T}(e:Ent)(h1:sz'=sz∧off=0∧(len+p.1)*bytes≤roomy):
  ((unRes (Q.run (St.mk .nil lh sh).get sh.length (appQf k g off len sz sz' bytes p e))).bind fun r=>evOps E call n os {(St.mk fr lh sh).ups r.2 with fr:=setF fr d r.1})=
    (appE lh k e g off len sz sz' bytes p).bind fun q=>evOps E call n os ⟨setF fr d q.1,q.2,sh⟩:=by
 obtain⟨g',ob⟩:=e
 unfold appQf appE
 by_cases hg:g'=g
 ·cases ob with
  |cells cs wm bx=>
   cases bx
   ·by_cases hl:len*sz=cs.length
    ·simp only[hg,hl,if_true,Q.run,unRes,h1,and_self,Option.bind_some]
     rfl
    ·simp only[hg,hl,if_true,if_false,Q.run,unRes,and_false];rfl
   ·simp only[hg,if_true,Q.run,unRes];rfl
  |_=>simp only[hg,if_true,Q.run,unRes];rfl
 ·cases ob with
  |cells cs wm bx=>
   cases bx
   ·simp only[hg,if_false,Q.run,unRes,false_and,and_false];rfl
   ·simp only[hg,if_false,Q.run,unRes];rfl
  |_=>simp only[hg,if_false,Q.run,unRes];rfl
theorem o_app{sz bytes:Nat}{s x:Opd}(hd:d<n)(hs: ∀k g off len sz,rd fr s≠ .isl .S k g off len sz):evOps E call n (⟨some d,.app sz bytes s x false false,none⟩::os) ⟨fr,lh,sh⟩=
  (slC lh sh sz (rd fr x)).bind fun p=>(appV lh d sz bytes (rd fr s) p).bind fun q=>evOps E call n os ⟨setF fr d q.1,q.2,sh⟩:=by
 rw[e_one (by rfl) (show okD n (some d)from hd)]
 unfold one slC
 simp only[opQ,appAt,bind_run,get_fr]
 cases hx:(sliceCells sz (rd fr x)).run (St.mk .nil lh sh).get sh.length with
 |none=>rfl
 |some p=>
  simp only[Option.bind_some]
  unfold appV
  by_cases hp:p.1=0
  ·simp only[if_pos hp]
   cases hs':rd fr s <;> rfl
  ·simp only[if_neg hp]
   cases hs':rd fr s <;> try rfl
   ·simp only[]
    split <;> rfl
   ·rename_i cs len ex
    cases ex
    ·rfl
    ·simp only[Bool.and_eq_true,decide_eq_true_eq]
     split <;> rfl
   ·rename_i sp k g off len sz'
    cases sp
    ·simp only[Bool.and_eq_true,decide_eq_true_eq]
     by_cases h1:(sz'=sz∧off=0)∧(len+p.1)*bytes≤roomy
     ·simp only[if_pos h1]
      exact appQ (getO lh k) ⟨h1.1.1,h1.1.2,h1.2⟩
     ·simp only[if_neg h1,Q.run,unRes]
      unfold appE
      split
      ·rw[if_neg (by rintro⟨a,b,c,_⟩;exact h1 ⟨⟨a,b⟩,c⟩)]
       rfl
      ·rfl
    ·exact absurd hs' (hs _ _ _ _ _)
def lkE(e:Ent)(g:Nat)(ek:EK)(k z:T)(ok:Bool):Option T:=
 match e with
 |⟨g',.map ks vs _⟩=>if g'=g then lkIn ek ks vs k z ok else none
 |_=>none
def lkV(lh:Tri Ent)(sh:List Ent)(ek:EK)(m k z:T)(ok:Bool):Option T:=
 match m with
 | .nilmp=>if isKey ek k=true then some (if ok=true then .tup [z,.b false]else z)else none
 | .vm ks vs=>lkIn ek ks vs k z ok
 | .mp .L kk g=>lkE (getO lh kk) g ek k z ok
 | .mp .S kk g=>lkE (getE sh kk) g ek k z ok
 |_=>none
theorem lkQ{h:Sp→Nat→Ent}{nx g:Nat}{ek:EK}{k z:T}{ok:Bool}(e:Ent):unRes (Q.run h nx (if e.g=g then(match e.ob with| .map ks vs _=>val (lkIn ek ks vs k z ok)|_=> .fail)else .fail))=(lkE e g ek k z ok).map fun v=>(v,[]):=by
 obtain⟨g',ob⟩:=e
 unfold lkE
 by_cases hg:g'=g
 ·cases ob <;> simp only[hg,if_true] <;> first|rfl|exact run_val
 ·cases ob <;> simp only[hg,if_false] <;> rfl
theorem o_lk{ek:EK}{m k:Opd}{z:T}{ok:Bool}(hd:d<n):evOps E call n (⟨some d,.lk ek m k z ok,none⟩::os) ⟨fr,lh,sh⟩=(lkV lh sh ek (rd fr m) (rd fr k) z ok).bind fun v=>evOps E call n os ⟨setF fr d v,lh,sh⟩:=by
 refine e_pure (d:=some d) (by rfl) hd ?_
 unfold one lkV
 simp only[opQ]
 cases hm:rd fr m <;> try rfl
 ·simp only[];split <;> rfl
 ·exact run_val
 ·rename_i sp kk g
  cases sp
  ·exact lkQ (getO lh kk)
  ·exact lkQ (getE sh kk)
def muE(lh:Tri Ent)(kk:Nat)(e:Ent)(g:Nat)(ek:EK)(k v:T):Option (Tri Ent):=
 match e with
 |⟨g',.map ks vs false⟩=>if g'=g∧isKey ek k=true then(putK ek k v ks vs).map fun q=>setO lh kk ⟨g,.map q.1 q.2 false⟩else none
 |_=>none
def muQf(kk g:Nat)(ek:EK)(k v:T)(e:Ent):Q Res:=if e.g=g&&isKey ek k then match e.ob with
      | .map ks vs false=>(fz false fzFuel v).bind fun p=>match putK ek k p.1 ks vs with
        |some q=>if hits p.2 .L kk then .fail else .ret (.val undefT (p.2++ [(.L,kk,⟨g,.map q.1 q.2 false⟩)]))
        |none=> .fail
      |_=> .fail
     else .fail
theorem muQ{kk g:Nat}{ek:EK}{k v:T}(e:Ent)(hf:froz v=true):((unRes (Q.run (St.mk fr lh sh).get sh.length (muQf kk g ek k v e))).bind fun r=>evOps E call n os {(St.mk fr lh sh).ups r.2 with fr:=fr})=
  (muE lh kk e g ek k v).bind fun lh'=>evOps E call n os ⟨fr,lh',sh⟩:=by
 obtain⟨g',ob⟩:=e
 unfold muQf muE
 by_cases hg:g'=g∧isKey ek k=true
 ·have:(decide (g'=g)&&isKey ek k)=true:=by simp[hg.1,hg.2]
  simp only[this,if_true]
  cases ob with
  |none=>rfl
  |cells cs wm bx=>rfl
  |map ks vs z=>
   cases z with
   |true=>rfl
   |false=>
    simp only[if_pos hg]
    unfold fzFuel
    rw[fz_froz hf]
    simp only[Q.bind]
    cases putK ek k v ks vs with
    |none=>rfl
    |some q=>simp only[hits,List.any_nil,Bool.false_eq_true,if_false,Q.run,List.nil_append];rfl
 ·have:(decide (g'=g)&&isKey ek k)=false:=by
   cases h:(decide (g'=g)&&isKey ek k)with
   |false=>rfl
   |true=>simp at h;exact absurd h hg
  simp only[this,Bool.false_eq_true,if_false,Q.run,unRes]
  cases ob with
  |none=>rfl
  |cells cs wm bx=>rfl
  |map ks vs z=>
   cases z with
   |true=>rfl
   |false=>simp only[if_neg hg];rfl
theorem o_mu'{ek:EK}{m k v:Opd}{kk g:Nat}(hm:rd fr m= .mp .L kk g)(hf:froz (rd fr v)=true):evOps E call n (⟨none,.mu ek m k v,none⟩::os) ⟨fr,lh,sh⟩=(muE lh kk (getO lh kk) g ek (rd fr k) (rd fr v)).bind fun lh'=>evOps E call n os ⟨fr,lh',sh⟩:=by
 rw[e_one (by rfl) (show okD n none from trivial)]
 unfold one
 simp only[opQ,hm]
 exact muQ (getO lh kk) hf
def muV(lh:Tri Ent)(ek:EK)(m k v:T):Option (Tri Ent):=
 match m with
 | .mp .L kk g=>muE lh kk (getO lh kk) g ek k v
 |_=>none
theorem o_mu{ek:EK}{m k v:Opd}(hm: ∀kk g,rd fr m≠ .mp .S kk g)(hf:froz (rd fr v)=true):evOps E call n (⟨none,.mu ek m k v,none⟩::os) ⟨fr,lh,sh⟩=(muV lh ek (rd fr m) (rd fr k) (rd fr v)).bind fun lh'=>evOps E call n os ⟨fr,lh',sh⟩:=by
 cases h:rd fr m with
 |mp sp kk g=>
  cases sp with
  |L=>rw[o_mu' h hf];rfl
  |S=>exact absurd h (hm kk g)
 |_=>
  rw[e_one (by rfl) (show okD n none from trivial)]
  unfold one
  simp only[opQ,h]
  rfl
def bslV(z:List T)(len:Nat)(is:List Nat)(vs:List T):Option T:=
 if(vs.all fun v=>(cellsOf v).length=z.length&&noTup v)=true then(fills (repl z len) ((is.map fun i=>i*z.length).zip (vs.map cellsOf))).map fun cs=> .sl cs len true else none
theorem o_bsl{z:List T}{len:Nat}{ps:List (Nat×Opd)}(hd:d<n):evOps E call n (⟨some d,.bsl z len ps,none⟩::os) ⟨fr,lh,sh⟩=
  (fzL lh sh false (ps.map fun p=>rd fr p.2)).bind fun q=>(bslV z len (ps.map (·.1)) q.1).bind fun v=>evOps E call n os {(St.mk fr lh sh).ups q.2 with fr:=setF fr d v}:=by
 rw[e_one (by rfl) (show okD n (some d)from hd)]
 unfold one fzL bslV
 simp only[opQ,bind_run,get_fr]
 cases (mapQ (fz false fzFuel) (ps.map fun p=>rd fr p.2)).run (St.mk .nil lh sh).get sh.length with
 |none=>rfl
 |some q=>
  simp only[Option.bind_some]
  have e:(ps.map (·.1)).map (fun i=>i*z.length)=ps.map fun p=>p.1*z.length:=by rw[List.map_map];rfl
  rw[e]
  split
  ·cases fills (repl z len) ((ps.map fun p=>p.1*z.length).zip (q.1.map cellsOf)) <;> rfl
  ·rfl
theorem e_call{d:Option Nat}{op:AOp}{f:Nat}{args:List T}(hc:callOf (rd fr) op=some (some (f,args)))(hd:okD n d):
  evOps E call n (⟨d,op,none⟩::os) ⟨fr,lh,sh⟩=(doCall E call (d.getD 0) ⟨fr,lh,sh⟩ f args).bind fun r=>evOps E call n os ⟨setD fr d r.1,r.2.lh,r.2.sh⟩:=by
 simp only[evOps,evOper,rho_eq,hc]
 cases doCall E call (d.getD 0) ⟨fr,lh,sh⟩ f args with
 |none=>rfl
 |some r=>
  simp only[Option.bind_some]
  cases d with
  |none=>rfl
  |some d=>simp only[putD,if_pos (show d<n from hd),setD,Option.map_some]
theorem o_call{f:Nat}{as:List Opd}(hd:d<n):evOps E call n (⟨some d,.callf f as,none⟩::os) ⟨fr,lh,sh⟩=(doCall E call d ⟨fr,lh,sh⟩ f (as.map (rd fr))).bind fun r=>evOps E call n os ⟨setF fr d r.1,r.2.lh,r.2.sh⟩:=
 e_call (d:=some d) rfl hd
def doCallV(E:Env)(call:Orc)(d:Nat)(st:St)(f:T)(args:List T):Option (T×St):=
 match f with
 | .fn f a c=>doCall E call d st f (a++args++c)
 |_=>none
theorem o_callv{f:Opd}{as:List Opd}(hd:d<n):evOps E call n (⟨some d,.callv f as,none⟩::os) ⟨fr,lh,sh⟩=(doCallV E call d ⟨fr,lh,sh⟩ (rd fr f) (as.map (rd fr))).bind fun r=>evOps E call n os ⟨setF fr d r.1,r.2.lh,r.2.sh⟩:=by
 unfold doCallV
 cases hf:rd fr f with
 |fn f' a c=>exact e_call (d:=some d) (by simp only[callOf,hf]) hd
 |_=>simp only[evOps,evOper,rho_eq,callOf,hf];rfl
theorem doCall_P{dd:Nat}{af:AFunc}{f:Nat}{args:List T}(hf:E.fn f=some af)(he:af.eff=false)(hw:af.own=none):doCall E call dd ⟨fr,lh,sh⟩ f args=
  (fzL lh sh false args).bind fun q=>(call f q.1 []).bind fun r=>some (r.1,if scalar r.1=true then⟨fr,lh,sh⟩else(St.mk fr lh sh).ups q.2):=by
 unfold doCall fzL
 simp only[hf,he,hw,get_fr]
 cases (mapQ (fz false fzFuel) args).run (St.mk .nil lh sh).get sh.length with
 |none=>rfl
 |some q=>
  simp only[Bool.false_eq_true,if_false,Option.bind_some]
  cases call f q.1 [] <;> rfl
theorem doCall_T{dd:Nat}{af:AFunc}{f:Nat}{args:List T}(hf:E.fn f=some af)(he:af.eff=false)(hw:af.own=none)(hz:args.all froz=true):doCall E call dd ⟨fr,lh,sh⟩ f args=
  (call f args []).bind fun r=>some (r.1,⟨fr,lh,sh⟩):=by
 rw[doCall_P hf he hw,fzL_froz hz]
 simp only[Option.bind_some,ups_nil,ite_self]
theorem doCall_O{dd:Nat}{af:AFunc}{f j:Nat}{args:List T}(hf:E.fn f=some af)(he:af.eff=false)(hw:af.own=some j):doCall E call dd ⟨fr,lh,sh⟩ f args=
  (fzL lh sh false args).bind fun q=>(call f q.1 []).bind fun r=>ownRes dd j r.1 ⟨fr,lh,sh⟩ q.2:=by
 unfold doCall fzL
 simp only[hf,he,hw,get_fr]
 cases (mapQ (fz false fzFuel) args).run (St.mk .nil lh sh).get sh.length with
 |none=>rfl
 |some q=>
  simp only[Bool.false_eq_true,if_false,Option.bind_some]
  cases call f q.1 [] <;> rfl
theorem doCall_OT{dd:Nat}{af:AFunc}{f j:Nat}{args:List T}(hf:E.fn f=some af)(he:af.eff=false)(hw:af.own=some j)(hz:args.all froz=true):doCall E call dd ⟨fr,lh,sh⟩ f args=
  (call f args []).bind fun r=>ownRes dd j r.1 ⟨fr,lh,sh⟩ []:=by
 rw[doCall_O hf he hw,fzL_froz hz]
 rfl
theorem doCall_E{dd:Nat}{af:AFunc}{f:Nat}{args:List T}(hf:E.fn f=some af)(he:af.eff=true):doCall E call dd ⟨fr,lh,sh⟩ f args=
  (fzL lh sh true args).bind fun q=>(call f q.1 ((St.mk fr lh sh).ups q.2).sh).bind fun r=>some (r.1,{(St.mk fr lh sh).ups q.2 with sh:=r.2}):=by
 unfold doCall fzL
 simp only[hf,he,get_fr]
 cases (mapQ (fz true fzFuel) args).run (St.mk .nil lh sh).get sh.length with
 |none=>rfl
 |some q=>
  simp only[if_true,Option.bind_some]
  cases call f q.1 ((St.mk fr lh sh).ups q.2).sh <;> rfl
theorem doCall_X{dd:Nat}{g:List T→Option T}{f:Nat}{args:List T}(hf:E.fn f=none)(he:E.ext f=some g):doCall E call dd ⟨fr,lh,sh⟩ f args=
  (fzL lh sh false args).bind fun q=>(g q.1).bind fun r=>some (r,⟨fr,lh,sh⟩):=by
 unfold doCall fzL
 simp only[hf,he,get_fr]
 cases (mapQ (fz false fzFuel) args).run (St.mk .nil lh sh).get sh.length with
 |none=>rfl
 |some q=>
  simp only[Option.bind_some]
  cases g q.1 <;> rfl
theorem doCall_W{dd:Nat}{g:List T→Option (List T×Option Nat)}{f:Nat}{args:List T}(hf:E.fn f=none)(he:E.ext f=none)(hw:E.wr f=some g):doCall E call dd ⟨fr,lh,sh⟩ f args=wrRes g ⟨fr,lh,sh⟩ args:=by
 unfold doCall
 simp only[hf,he,hw]
theorem g_pass{d:Option Nat}{op:AOp}{j:Nat}{w:Bool}(h:getF fr j= .b w):evOps E call n (⟨d,op,some (j,w)⟩::os) ⟨fr,lh,sh⟩=evOps E call n (⟨d,op,none⟩::os) ⟨fr,lh,sh⟩:=by
 simp only[evOps,evOper,h,if_true]
theorem g_skip{d:Option Nat}{op:AOp}{j:Nat}{w:Bool}(hd:okD n d)(h:getF fr j= .b (!w)):evOps E call n (⟨d,op,some (j,w)⟩::os) ⟨fr,lh,sh⟩=evOps E call n os ⟨setD fr d undefT,lh,sh⟩:=by
 simp only[evOps,evOper,h]
 rw[if_neg (by cases w <;> simp)]
 cases d with
 |none=>rfl
 |some d=>simp only[putD,if_pos (show d<n from hd),setD,Option.map_some]
theorem g_undef{d:Option Nat}{op:AOp}{j:Nat}{w:Bool}(hd:okD n d)(h:getF fr j=undefT):evOps E call n (⟨d,op,some (j,w)⟩::os) ⟨fr,lh,sh⟩=evOps E call n os ⟨setD fr d undefT,lh,sh⟩:=by
 simp only[evOps,evOper,h,undefT]
 cases d with
 |none=>rfl
 |some d=>simp only[putD,if_pos (show d<n from hd),setD,Option.map_some]
def onB{α:Type}(t:T)(f:Bool→Option α):Option α:=match t with| .b x=>f x|_=>none
theorem onB_b{α:Type}{x:Bool}{f:Bool→Option α}:onB (.b x) f=f x:=rfl
theorem d_nil{fps:List FP}{st:St}:evDraw E call n [] fps st=some st:=rfl
end
section
variable{E:Env}{n:Nat}{fr:Fr}{lh:Tri Ent}{sh:List Ent}
def condB(t:T)(x y:Option (Out×St)):Option (Out×St):=match t with| .b c=>if c=true then x else y|_=>none
theorem condB_b{c:Bool}{x y:Option (Out×St)}:condB (.b c) x y=if c=true then x else y:=rfl
theorem DC_condB{c:Opd}{a b:ACode}:DC E n (.cond c a b) ⟨fr,lh,sh⟩=condB (rd fr c) (DC E n a ⟨fr,lh,sh⟩) (DC E n b ⟨fr,lh,sh⟩):=by
 rw[DC_cond,rho_eq]
 unfold condB
 cases h:rd fr c <;> try rfl
 rename_i x
 cases x <;> rfl
theorem andThen_ite{c:Prop}[Decidable c]{x y:Option (Out×St)}{f:St→Option (Out×St)}:andThen (if c then x else y) f=if c then andThen x f else andThen y f:=by split <;> rfl
theorem map_ite{α β:Type}{c:Prop}[Decidable c]{x y:Option α}{f:α→β}:(if c then x else y).map f=if c then x.map f else y.map f:=by split <;> rfl
def resV(fr:Fr)(lh:Tri Ent)(sh:List Ent):List ARes→Option (List T)
 | []=>some []
 | .tmp t::rs=>(resV fr lh sh rs).map fun vs=>getF fr t::vs
 | .cell t m ag::rs=>(ldV lh sh (getF fr t) m ag).bind fun v=>(resV fr lh sh rs).map fun vs=>v::vs
theorem resAll_eq: ∀rs,resAll ⟨fr,lh,sh⟩ rs=resV fr lh sh rs
 | []=>rfl
 | .tmp t::rs=>by
   rw[resAll,resV,resAll_eq rs]
   simp only[resAt]
   cases resV fr lh sh rs <;> rfl
 | .cell t m ag::rs=>by
   rw[resAll,resV,resAll_eq rs]
   simp only[resAt,ldAt_eq]
   cases ldV lh sh (getF fr t) m ag <;> cases resV fr lh sh rs <;> rfl
def ansV(lh:Tri Ent)(sh:List Ent)(eff:Bool)(vs:List T):Option (T×List Ent):=
 (fzV lh sh eff (match vs with| [v]=>v|vs=> .tup vs)).map fun p=>(p.1,((St.mk .nil lh sh).ups p.2).sh)
theorem answer_eq{eff:Bool}{vs:List T}:answer eff vs ⟨fr,lh,sh⟩=ansV lh sh eff vs:=by
 unfold answer ansV fzV
 rw[get_fr]
 cases (fz eff fzFuel (match vs with| [v]=>v|vs=> .tup vs)).run (St.mk .nil lh sh).get sh.length with
 |none=>rfl
 |some p=>simp only[Option.map_some];rw[ups_frame]
end
def wrO(os:List AOper):List Nat:=os.filterMap (·.d)
def wrC:ACode→List Nat
 | .region ops=>wrO ops
 | .draws ops=>wrO (ops.map (·.2))
 | .seq a b=>wrC a++wrC b
 | .cond _ a b=>wrC a++wrC b
 | .block _ a=>wrC a
 | .loop a=>wrC a
 |_=> []
theorem putD_pres{fr fr':Fr}{n:Nat}{d:Option Nat}{v:T}(h:putD fr n d v=some fr'){s:Nat}(hs:some s≠d):getF fr' s=getF fr s:=by
 cases d with
 |none=>simp[putD]at h;rw[h]
 |some d=>
  simp only[putD]at h
  split at h
  ·cases h;exact get_ne _ _ (by intro e;exact hs (by rw[e]))
  ·cases h
theorem evOper_pres{E:Env}{call:Orc}{n:Nat}{o:AOper}{st st':St}(h:evOper E call n o st=some st'){s:Nat}(hs:some s≠o.d):getF st'.fr s=getF st.fr s:=by
 have key: ∀st',(match callOf st.rho o.op with
  |some (some cc)=>match doCall E call (o.d.getD 0) st cc.1 cc.2 with
   |some r=>(putD st.fr n o.d r.1).map fun fr=>{r.2 with fr}
   |none=>none
  |some none=>none
  |none=>match(opQ (o.d.getD 0) st.rho o.op).run st.get st.sh.length with
   |some (.val v ups)=>(putD st.fr n o.d v).map fun fr=>{st.ups ups with fr}
   |none=>none)=some st'→getF st'.fr s=getF st.fr s:=by
  intro st' hh
  split at hh
  ·split at hh
   ·simp only[Option.map_eq_some_iff]at hh
    obtain⟨fr,h1,rfl⟩:=hh
    exact putD_pres h1 hs
   ·cases hh
  ·cases hh
  ·split at hh
   ·simp only[Option.map_eq_some_iff]at hh
    obtain⟨fr,h1,rfl⟩:=hh
    exact putD_pres h1 hs
   ·cases hh
 unfold evOper at h
 simp only[]at h
 split at h
 ·exact key _ h
 ·split at h
  ·split at h
   ·exact key _ h
   ·simp only[Option.map_eq_some_iff]at h
    obtain⟨fr,h1,rfl⟩:=h
    exact putD_pres h1 hs
  ·simp only[Option.map_eq_some_iff]at h
   obtain⟨fr,h1,rfl⟩:=h
   exact putD_pres h1 hs
theorem evOps_pres{E:Env}{call:Orc}{n:Nat}: ∀(os:List AOper) {st st':St},evOps E call n os st=some st'→ ∀s,s∉wrO os→getF st'.fr s=getF st.fr s
 | [],st,st',h,s,_=>by cases h;rfl
 |o::os,st,st',h,s,hs=>by
  simp only[evOps]at h
  cases ho:evOper E call n o st with
  |none=>simp only[ho]at h;cases h
  |some s1=>
   simp only[ho]at h
   have h1:s∉wrO os:=fun hm=>hs (by
    unfold wrO at hm ⊢
    rw[List.filterMap_cons]
    split
    ·exact hm
    ·exact List.mem_cons_of_mem _ hm)
   have h2:some s≠o.d:=fun he=>hs (by
    unfold wrO
    rw[List.filterMap_cons]
    rw[←he]
    exact List.mem_cons_self)
   rw[evOps_pres os h s h1,evOper_pres ho h2]
theorem evDraw_pres{E:Env}{call:Orc}{n:Nat}: ∀(os:List (List Nat×AOper)) {fps:List FP} {st st':St},evDraw E call n os fps st=some st'→ ∀s,s∉wrO (os.map (·.2))→getF st'.fr s=getF st.fr s
 | [],fps,st,st',h,s,_=>by cases h;rfl
 |(u,o)::os,fps,st,st',h,s,hs=>by
  simp only[evDraw]at h
  split at h
  ·cases h
  ·split at h
   ·cases ho:evOper E call n o st with
    |none=>simp only[ho]at h;cases h
    |some s1=>
     simp only[ho]at h
     have h1:s∉wrO (os.map (·.2)):=fun hm=>hs (by
      unfold wrO at hm ⊢
      rw[List.map_cons,List.filterMap_cons]
      split
      ·exact hm
      ·exact List.mem_cons_of_mem _ hm)
     have h2:some s≠o.d:=fun he=>hs (by
      unfold wrO
      rw[List.map_cons,List.filterMap_cons]
      rw[←he]
      exact List.mem_cons_self)
     rw[evDraw_pres os h s h1,evOper_pres ho h2]
   ·cases h
theorem iter_pres{f:St→Option (Out×St)}{s:Nat}(hf: ∀st r,f st=some r→getF r.2.fr s=getF st.fr s): ∀(k:Nat) {st:St} {r:Out×St},iter f k st=some r→getF r.2.fr s=getF st.fr s
 |0,st,r,h=>by simp[iter]at h
 |k+1,st,r,h=>by
  simp only[iter]at h
  cases hh:f st with
  |none=>rw[hh]at h;cases h
  |some p=>
   rw[hh]at h
   obtain⟨o,s1⟩:=p
   have h1:=hf _ _ hh
   cases o with
   |nrm=>rw[iter_pres hf k h];exact h1
   |ext id=>cases h;exact h1
   |ret=>cases h;exact h1
theorem evC_pres{E:Env}{call:Orc}{fl n:Nat}: ∀(code:ACode) {st:St} {r:Out×St},evC E call fl n code st=some r→ ∀s,s∉wrC code→getF r.2.fr s=getF st.fr s
 | .skip,st,r,h,s,_=>by cases h;rfl
 | .region ops,st,r,h,s,hs=>by
   simp only[evC,Option.map_eq_some_iff]at h
   obtain⟨a,h1,rfl⟩:=h
   exact evOps_pres ops h1 s hs
 | .draws ops,st,r,h,s,hs=>by
   simp only[evC,Option.map_eq_some_iff]at h
   obtain⟨a,h1,rfl⟩:=h
   exact evDraw_pres ops h1 s hs
 | .seq a b,st,r,h,s,hs=>by
   simp only[wrC,List.mem_append,not_or]at hs
   simp only[evC]at h
   cases ha:evC E call fl n a st with
   |none=>rw[ha]at h;cases h
   |some p=>
    rw[ha]at h
    obtain⟨o,s1⟩:=p
    have h1:=evC_pres a ha s hs.1
    cases o with
    |nrm=>rw[evC_pres b h s hs.2];exact h1
    |ext id=>cases h;exact h1
    |ret=>cases h;exact h1
 | .cond x a b,st,r,h,s,hs=>by
   simp only[wrC,List.mem_append,not_or]at hs
   simp only[evC]at h
   split at h
   ·exact evC_pres a h s hs.1
   ·exact evC_pres b h s hs.2
   ·cases h
 | .block id a,st,r,h,s,hs=>by
   simp only[evC]at h
   cases ha:evC E call fl n a st with
   |none=>rw[ha]at h;cases h
   |some p=>
    rw[ha]at h
    obtain⟨o,s1⟩:=p
    have h1:=evC_pres a ha s hs
    cases o with
    |nrm=>cases h;exact h1
    |ext id'=>
     simp only[]at h
     split at h <;> (cases h;exact h1)
    |ret=>cases h;exact h1
 | .loop a,st,r,h,s,hs=>by
   simp only[evC]at h
   exact iter_pres (fun st r hh=>evC_pres a hh s hs) fl h
 | .exit id,st,r,h,s,_=>by cases h;rfl
 | .ret,st,r,h,s,_=>by cases h;rfl
theorem DC_pres{E:Env}{n:Nat}{code:ACode}{st st':St}{o:Out}(h:DC E n code st=some (o,st'))(s:Nat)(hs:(wrC code).contains s=false):getF st'.fr s=getF st.fr s:=by
 obtain⟨m,hm⟩:=DC_iff.1 h
 exact evC_pres code hm s (by intro hc;simp[hc]at hs)
end Go.Ev
namespace Go.Ev
open Go
def Q.calm:Q Res→Prop
 | .ret (.val _ ups)=>ups= []
 | .fail=>True
 | .rd _ _ f=> ∀e,(f e).calm
 | .new _=>False
theorem Q.calm_run{h:Sp→Nat→Ent}{nx:Nat}: ∀(q:Q Res),q.calm→ ∀{v:T} {ups:List Up},q.run h nx=some (.val v ups)→ups= []∧q.asks h nx=false
 | .ret (.val _ _),hc,v,ups,hr=>by simp[Q.run]at hr;obtain⟨rfl,rfl⟩:=hr;exact⟨hc,rfl⟩
 | .fail,hc,v,ups,hr=>by simp[Q.run]at hr
 | .rd sp k f,hc,v,ups,hr=>Q.calm_run (f (h sp k)) (hc _) hr
 | .new f,hc,v,ups,hr=>hc.elim
theorem calm_val{o:Option T}:(val o).calm:=by cases o <;> simp[val,Q.calm]
def calmOp:AOp→Bool
 | .mv _| .pick .. | .bin .. | .eq .. | .un .. | .cvi .. | .mkfn .. | .build .. | .slS .. | .fa .. | .fld .. | .ia .. | .iaA .. | .ixS .. | .ixA .. | .ext .. | .lenS _| .lenV _| .lenC _| .mm .. | .nck _| .ld .. | .lk .. | .lenM _=>true
 | .slV _ _ _ _ none=>true
 |_=>false
theorem calm_op{d:Nat}{ρ:Opd→T}{op:AOp}(h:calmOp op=true):(opQ d ρ op).calm∧callOf ρ op=none:=by
 refine⟨?_,by cases op <;> first|rfl|(simp[calmOp]at h)⟩
 cases op with
 |mv x=>exact rfl
 |pick c a b=>simp only[opQ];split <;> simp[Q.calm]
 |bin op x y=>exact calm_val
 |eq neg k x y=>exact calm_val
 |un op x=>exact calm_val
 |cvi k x=>simp only[opQ];split <;> simp[Q.calm]
 |mkfn f a c=>exact rfl
 |build z ps=>
  simp only[opQ]
  by_cases hb:(ps.all fun p=>decide ((cellsOf (ρ p.2.2)).length=p.2.1)&&noTup (ρ p.2.2))=true
  ·rw[if_pos hb];exact calm_val
  ·rw[if_neg hb];trivial
 |slS x l h=>
  simp only[opQ]
  split
  ·split
   ·split <;> simp[Q.calm]
   ·trivial
  ·trivial
 |fa x off=>
  simp only[opQ]
  split
  ·split <;> simp[Q.calm]
  ·exact rfl
  ·trivial
 |fld x off m ag=>
  simp only[opQ]
  split
  ·exact calm_val
  ·trivial
 |ia x ix sz=>
  simp only[opQ]
  split
  ·split <;> simp[Q.calm]
  ·split <;> simp[Q.calm]
  ·trivial
 |iaA x ix len sz=>
  simp only[opQ]
  split
  ·split <;> simp[Q.calm]
  ·split <;> simp[Q.calm]
  ·trivial
 |ixS x ix=>
  simp only[opQ]
  split
  ·split <;> simp[Q.calm]
  ·trivial
 |ixA x ix len sz ag=>
  simp only[opQ]
  split
  ·split
   ·exact calm_val
   ·trivial
  ·trivial
 |ext x j=>
  simp only[opQ]
  split
  ·exact calm_val
  ·trivial
 |lenS x=>simp only[opQ];split <;> simp[Q.calm]
 |lenV x=>exact calm_val
 |lenC m=>exact rfl
 |mm b as=>
  simp only[opQ]
  split
  ·exact calm_val
  ·trivial
 |nck x=>simp only[opQ];split <;> simp[Q.calm]
 |ld x m ag=>
  simp only[opQ,ldAt]
  split
  ·rename_i cs _
   cases part cs 0 m ag <;> simp[Q.of,Q.bind,Q.calm]
  ·rename_i g off _
   intro e
   obtain⟨g',ob⟩:=e
   by_cases hg:g'=g
   ·cases ob with
    |cells cs wm bx=>
     simp only[hg,if_true]
     generalize part cs _ m ag=o
     cases o <;> simp[Q.of,Q.bind,Q.calm]
    |_=>simp only[hg,if_true];trivial
   ·simp only[hg,if_false];trivial
  ·trivial
 |lk ek m k z ok=>
  simp only[opQ]
  split
  ·split <;> simp[Q.calm]
  ·exact calm_val
  ·rename_i g _
   intro e
   obtain⟨g',ob⟩:=e
   by_cases hg:g'=g
   ·cases ob with
    |map ks vs z=>simp only[hg,if_true];exact calm_val
    |_=>simp only[hg,if_true];trivial
   ·simp only[hg,if_false];trivial
  ·trivial
 |lenM x=>
  simp only[opQ]
  split
  ·exact rfl
  ·exact rfl
  ·rename_i g _
   intro e
   obtain⟨g',ob⟩:=e
   by_cases hg:g'=g
   ·cases ob with
    |map ks vs z=>simp only[hg,if_true];exact rfl
    |_=>simp only[hg,if_true];trivial
   ·simp only[hg,if_false];trivial
  ·trivial
 |slV sz x l h mx=>
  cases mx with
  |some m=>simp[calmOp]at h
  |none=>
   simp only[opQ]
   split
   ·trivial
   ·split
    ·rename_i l' h' _ _ _
     unfold slVAt
     split
     ·split <;> simp[Q.bind,Q.calm]
     ·split <;> simp[Q.bind,Q.calm]
     ·split <;> simp[Q.bind,Q.calm]
     ·trivial
    ·rename_i hh;exact absurd hh (by simp)
    ·trivial
 |_=>simp[calmOp]at h
def Calm(fp:FP):Prop:=fp.all=false∧fp.w= []
theorem apart_calm{x y:FP}(hx:Calm x)(hy:Calm y):apart x y=true:=by
 obtain⟨a,r,w⟩:=x
 obtain⟨a',r',w'⟩:=y
 obtain⟨rfl,rfl⟩:=hx
 obtain⟨rfl,rfl⟩:=hy
 simp[apart,apart1]
section
variable{E:Env}{call:Orc}{n:Nat}
theorem calm_fp{o:AOper}{st st':St}(hc:calmOp o.op=true)(hr:evOper E call n o st=some st'): ∃fp,operFP E call o st=some fp∧Calm fp:=by
 obtain⟨hq,hco⟩:=calm_op (d:=o.d.getD 0) (ρ:=st.rho) hc
 have key: ∀st',(match(opQ (o.d.getD 0) st.rho o.op).run st.get st.sh.length with
   |some (.val v ups)=>(putD st.fr n o.d v).map fun fr=>{st.ups ups with fr}
   |none=>none)=some st'→ ∃fp,(match(opQ (o.d.getD 0) st.rho o.op).run st.get st.sh.length with
   |some (.val _ ups)=>if((opQ (o.d.getD 0) st.rho o.op).asks st.get st.sh.length||inB st ups)=true then some (⟨(opQ (o.d.getD 0) st.rho o.op).asks st.get st.sh.length,(opQ (o.d.getD 0) st.rho o.op).log st.get st.sh.length,upKeys ups⟩:FP)else none
   |none=>none)=some fp∧Calm fp:=by
  intro st' h
  cases hh:(opQ (o.d.getD 0) st.rho o.op).run st.get st.sh.length with
  |none=>rw[hh]at h;cases h
  |some r=>
   obtain⟨v,ups⟩:=r
   obtain⟨rfl,ha⟩:=Q.calm_run _ hq hh
   refine⟨⟨false,(opQ (o.d.getD 0) st.rho o.op).log st.get st.sh.length,[]⟩, ?_,rfl,rfl⟩
   simp only[ha,inB,List.all_nil,Bool.or_true,if_true,upKeys,List.map_nil]
 unfold evOper at hr
 unfold operFP
 simp only[hco]at hr ⊢
 cases hg:o.gd with
 |none=>simp only[hg]at hr;exact key _ hr
 |some p=>
  obtain⟨j,want⟩:=p
  simp only[hg]at hr ⊢
  split at hr
  ·rename_i x hx
   by_cases hw:x=want
   ·rw[if_pos hw]at hr ⊢; exact key _ hr
   ·rw[if_neg hw]at hr ⊢; exact⟨noFP,rfl,rfl,rfl⟩
  ·exact⟨noFP,rfl,rfl,rfl⟩
theorem draw_calm: ∀(ds:List (List Nat×AOper)) (fps:List FP) (st:St),(ds.all fun p=>calmOp p.2.op&&p.1.all fun i=>decide (i<fps.length+ds.length))=true→(∀fp∈fps,Calm fp)→
  (∀(k:Nat) (u:List Nat) (o:AOper),ds[k]? =some (u,o)→ ∀i∈u,i<fps.length+k)→
  evDraw E call n ds fps st=evOps E call n (ds.map (·.2)) st
 | [],fps,st,_,_,_=>rfl
 |(u,o)::ds,fps,st,h,hf,hi=>by
  simp only[List.all_cons,Bool.and_eq_true]at h
  simp only[evDraw,List.map_cons,evOps]
  cases ho:evOper E call n o st with
  |none=>
   cases operFP E call o st with
   |none=>rfl
   |some fp=>simp only[ite_self]
  |some s=>
   obtain⟨fp,h1,h2⟩:=calm_fp h.1.1 ho
   simp only[h1]
   have hu:(u.all fun i=>apart (getL ⟨true,[],[]⟩ fps i) fp)=true:=by
    rw[List.all_eq_true]
    intro i hiu
    have:=hi 0 u o rfl i hiu
    have hg:getL ⟨true,[],[]⟩ fps i∈fps:=by
     have: ∀(l:List FP) (j:Nat),j<l.length→getL ⟨true,[],[]⟩ l j∈l:=by
      intro l
      induction l with
      |nil=>intro j hj;simp at hj
      |cons x xs ih=>
       intro j hj
       cases j with
       |zero=>exact List.mem_cons_self
       |succ j=>exact List.mem_cons_of_mem _ (ih j (by simpa using hj))
     exact this fps i (by omega)
    exact apart_calm (hf _ hg) h2
   simp only[hu,if_true]
   refine draw_calm ds (fps++ [fp]) s ?_ ?_ ?_
   ·have h2:=h.2
    rw[List.all_eq_true]at h2 ⊢
    intro p hp
    have:=h2 p hp
    simp only[List.length_append,List.length_cons,List.length_nil]at this ⊢
    rw[Bool.and_eq_true]at this ⊢
    refine⟨this.1, ?_⟩
    have h3:=this.2
    rw[List.all_eq_true]at h3 ⊢
    intro i hi'
    have:=h3 i hi'
    simp only[decide_eq_true_eq]at this ⊢
    omega
   ·intro fp' hm
    rcases List.mem_append.1 hm with hm|hm
    ·exact hf _ hm
    ·simp at hm;rw[hm];exact h2
   ·intro k u' o' hk i hiu
    have:=hi (k+1) u' o' hk i hiu
    simp only[List.length_append,List.length_cons,List.length_nil]
    omega
def backD:Nat→List (List Nat×AOper)→Bool
 |_,[]=>true
 |k,(u,o)::ds=>calmOp o.op&&(u.all fun i=>decide (i<k))&&backD (k+1) ds
theorem back_calm: ∀(ds:List (List Nat×AOper)) (m:Nat),backD m ds=true→(∀(k:Nat) (u:List Nat) (o:AOper),ds[k]? =some (u,o)→calmOp o.op=true∧ ∀i∈u,i<m+k)
 | [],m,_,k,u,o,hk=>by simp at hk
 |(u0,o0)::ds,m,h,k,u,o,hk=>by
  simp only[backD,Bool.and_eq_true]at h
  cases k with
  |zero=>
   simp at hk
   obtain⟨rfl,rfl⟩:=hk
   refine⟨h.1.1,fun i hi=> ?_⟩
   have:=(List.all_eq_true.1 h.1.2) i hi
   simpa using this
  |succ k=>
   obtain⟨h1,h2⟩:=back_calm ds (m+1) h.2 k u o (by simpa using hk)
   exact⟨h1,fun i hi=>by have:=h2 i hi;omega⟩
theorem DC_calm{E:Env}{n:Nat}{ds:List (List Nat×AOper)}{st:St}(h:backD 0 ds=true):DC E n (.draws ds) st=(evOps E (DCall E) n (ds.map (·.2)) st).map fun st'=>(.nrm,st'):=by
 rw[DC_draws]
 congr 1
 have hb:=back_calm ds 0 h
 refine draw_calm ds [] st ?_ (by simp) (fun k u o hk i hi=>by have:=(hb k u o hk).2 i hi;simpa using this)
 rw[List.all_eq_true]
 intro p hp
 obtain⟨k,hk,he⟩:=List.getElem_of_mem hp
 obtain⟨u,o⟩:=p
 obtain⟨h1,h2⟩:=hb k u o (by rw[List.getElem?_eq_getElem hk,he])
 rw[Bool.and_eq_true]
 refine⟨h1, ?_⟩
 rw[List.all_eq_true]
 intro i hi
 have:=h2 i hi
 simp only[decide_eq_true_eq,List.length_nil]
 omega
end
end Go.Ev
namespace Go.Ev
open Go
def kv(F:St→Option St)(fr:Fr)(lh:Tri Ent)(sh:List Ent)(d:Nat)(v:Option T):Option St:=v.bind fun v=>F ⟨setF fr d v,lh,sh⟩
def kn(F:St→Option St)(st:St)(v:Option T):Option St:=v.bind fun _=>F st
def ks(F:St→Option St)(fr:Fr)(r:Option (Tri Ent×List Ent)):Option St:=r.bind fun r=>F ⟨fr,r.1,r.2⟩
def ka(F:St→Option St)(fr:Fr)(sh:List Ent)(d:Nat)(r:Option (T×Tri Ent)):Option St:=r.bind fun q=>F ⟨setF fr d q.1,q.2,sh⟩
def kc(F:St→Option St)(fr:Fr)(d:Option Nat)(r:Option (T×St)):Option St:=r.bind fun r=>F ⟨setD fr d r.1,r.2.lh,r.2.sh⟩
section
variable{F:St→Option St}{fr:Fr}{lh:Tri Ent}{sh:List Ent}{d:Nat}{v:T}
theorem kv_some:kv F fr lh sh d (some v)=F ⟨setF fr d v,lh,sh⟩:=rfl
theorem kv_none:kv F fr lh sh d none=none:=rfl
theorem kv_ite{c:Prop}[Decidable c]{x y:Option T}:kv F fr lh sh d (if c then x else y)=if c then kv F fr lh sh d x else kv F fr lh sh d y:=by split <;> rfl
theorem kn_some{st:St}:kn F st (some v)=F st:=rfl
theorem kn_none{st:St}:kn F st none=none:=rfl
theorem ks_some{r:Tri Ent×List Ent}:ks F fr (some r)=F ⟨fr,r.1,r.2⟩:=rfl
theorem ks_none:ks F fr none=none:=rfl
theorem ks_ite{c:Prop}[Decidable c]{x y:Option (Tri Ent×List Ent)}:ks F fr (if c then x else y)=if c then ks F fr x else ks F fr y:=by split <;> rfl
theorem ka_some{q:T×Tri Ent}:ka F fr sh d (some q)=F ⟨setF fr d q.1,q.2,sh⟩:=rfl
theorem ka_none:ka F fr sh d none=none:=rfl
theorem kc_some{dd:Option Nat}{r:T×St}:kc F fr dd (some r)=F ⟨setD fr dd r.1,r.2.lh,r.2.sh⟩:=rfl
theorem kc_none{dd:Option Nat}:kc F fr dd none=none:=rfl
end
def isB:T→Bool
 | .b _=>true
 |_=>false
def isT:T→Bool
 | .b x=>x
 |_=>false
theorem isB_b{x:Bool}:isB (.b x)=true:=nr rfl
theorem isT_b{x:Bool}:isT (.b x)=x:=nr rfl
theorem isB_iff{t:T}(h:isB t=true):t= .b (isT t):=by cases t <;> first|rfl|(simp[isB]at h)
section
variable{E:Env}{call:Orc}{n:Nat}{fr:Fr}{lh:Tri Ent}{sh:List Ent}{os:List AOper}{d:Nat}
theorem p_pick{c a b:Opd}(hd:d<n):evOps E call n (⟨some d,.pick c a b,none⟩::os) ⟨fr,lh,sh⟩=kv (evOps E call n os) fr lh sh d (pickV (rd fr c) (rd fr a) (rd fr b)):=o_pick hd
theorem p_bin{op:BinOp}{x y:Opd}(hd:d<n):evOps E call n (⟨some d,.bin op x y,none⟩::os) ⟨fr,lh,sh⟩=kv (evOps E call n os) fr lh sh d (Ev.bin op (rd fr x) (rd fr y)):=o_bin hd
theorem p_eq{neg:Bool}{k:EK}{x y:Opd}(hd:d<n):evOps E call n (⟨some d,.eq neg k x y,none⟩::os) ⟨fr,lh,sh⟩=kv (evOps E call n os) fr lh sh d ((eqT k (rd fr x) (rd fr y)).map fun r=>T.b (r != neg)):=o_eq hd
theorem p_un{op:UnOp}{x:Opd}(hd:d<n):evOps E call n (⟨some d,.un op x,none⟩::os) ⟨fr,lh,sh⟩=kv (evOps E call n os) fr lh sh d (Ev.un op (rd fr x)):=o_un hd
theorem p_cvi{k:IntKind}{x:Opd}(hd:d<n):evOps E call n (⟨some d,.cvi k x,none⟩::os) ⟨fr,lh,sh⟩=kv (evOps E call n os) fr lh sh d (cviV k (rd fr x)):=o_cvi hd
theorem p_build{z:List T}{ps:List (Nat×Nat×Opd)}(hd:d<n):evOps E call n (⟨some d,.build z ps,none⟩::os) ⟨fr,lh,sh⟩=kv (evOps E call n os) fr lh sh d (buildV fr z ps):=o_build hd
theorem p_slS{x:Opd}{l h:Option Opd}(hd:d<n):evOps E call n (⟨some d,.slS x l h,none⟩::os) ⟨fr,lh,sh⟩=kv (evOps E call n os) fr lh sh d (slSV fr (rd fr x) l h):=o_slS hd
theorem p_fa{x:Opd}{off:Nat}(hd:d<n):evOps E call n (⟨some d,.fa x off,none⟩::os) ⟨fr,lh,sh⟩=kv (evOps E call n os) fr lh sh d (faV (rd fr x) off):=o_fa hd
theorem p_ia{x ix:Opd}{sz:Nat}(hd:d<n):evOps E call n (⟨some d,.ia x ix sz,none⟩::os) ⟨fr,lh,sh⟩=kv (evOps E call n os) fr lh sh d (iaV (rd fr x) (rd fr ix) sz):=o_ia hd
theorem p_iaA{x ix:Opd}{len sz:Nat}(hd:d<n):evOps E call n (⟨some d,.iaA x ix len sz,none⟩::os) ⟨fr,lh,sh⟩=kv (evOps E call n os) fr lh sh d (iaAV (rd fr x) (rd fr ix) len sz):=o_iaA hd
theorem p_ixS{x ix:Opd}(hd:d<n):evOps E call n (⟨some d,.ixS x ix,none⟩::os) ⟨fr,lh,sh⟩=kv (evOps E call n os) fr lh sh d (ixSV (rd fr x) (rd fr ix)):=o_ixS hd
theorem p_ext{x:Opd}{j:Nat}(hd:d<n):evOps E call n (⟨some d,.ext x j,none⟩::os) ⟨fr,lh,sh⟩=kv (evOps E call n os) fr lh sh d (extV (rd fr x) j):=o_ext hd
theorem p_lenS{x:Opd}(hd:d<n):evOps E call n (⟨some d,.lenS x,none⟩::os) ⟨fr,lh,sh⟩=kv (evOps E call n os) fr lh sh d (lenSV (rd fr x)):=o_lenS hd
def lenI(x:T):Option T:=match lenT x with|some m=>some (.i .i64 ((m:Nat):Int))|none=>none
theorem lenI_of{x:T}{m:Nat}(h:lenT x=some m):lenI x=some (.i .i64 (m:Int)):=by unfold lenI;rw[h]
theorem p_lenV{x:Opd}(hd:d<n):evOps E call n (⟨some d,.lenV x,none⟩::os) ⟨fr,lh,sh⟩=kv (evOps E call n os) fr lh sh d (lenI (rd fr x)):=by
 rw[o_lenV hd]
 unfold kv lenI
 cases lenT (rd fr x) <;> rfl
theorem p_mm{isMax:Bool}{args:List Opd}(hd:d<n):evOps E call n (⟨some d,.mm isMax args,none⟩::os) ⟨fr,lh,sh⟩=kv (evOps E call n os) fr lh sh d (mmV isMax (args.map (rd fr))):=o_mm hd
theorem p_nck{x:Opd}(hd:d<n):evOps E call n (⟨some d,.nck x,none⟩::os) ⟨fr,lh,sh⟩=kv (evOps E call n os) fr lh sh d (nckV (rd fr x)):=o_nck hd
theorem p_ld{x:Opd}{m:Nat}{ag:Bool}(hd:d<n):evOps E call n (⟨some d,.ld x m ag,none⟩::os) ⟨fr,lh,sh⟩=kv (evOps E call n os) fr lh sh d (ldV lh sh (rd fr x) m ag):=o_ld hd
theorem p_lk{ek:EK}{m k:Opd}{z:T}{ok:Bool}(hd:d<n):evOps E call n (⟨some d,.lk ek m k z ok,none⟩::os) ⟨fr,lh,sh⟩=kv (evOps E call n os) fr lh sh d (lkV lh sh ek (rd fr m) (rd fr k) z ok):=o_lk hd
def mkslV(lh:Tri Ent)(d:Nat)(z:List T)(x:T)(bytes:Nat):Option (T×Tri Ent):=
 (mkOk x bytes).map fun m=>(.isl .L d ((getO lh d).g+1) 0 m z.length,setO lh d ⟨(getO lh d).g+1,.cells (repl z m) 0 false⟩)
theorem p_mksl{z:List T}{bytes:Nat}{x:Opd}(hd:d<n):evOps E call n (⟨some d,.mksl z bytes x false,none⟩::os) ⟨fr,lh,sh⟩=ka (evOps E call n os) fr sh d (mkslV lh d z (rd fr x) bytes):=by
 rw[o_mksl hd];unfold mkslV ka;cases mkOk (rd fr x) bytes <;> rfl
theorem p_st{x v:Opd}{m:Nat}:evOps E call n (⟨none,.st x v m,none⟩::os) ⟨fr,lh,sh⟩=ks (evOps E call n os) fr (stV lh sh (rd fr x) (rd fr v) m):=o_st
def appW(lh:Tri Ent)(sh:List Ent)(d sz bytes:Nat)(s x:T):Option (T×Tri Ent):=(slC lh sh sz x).bind (appV lh d sz bytes s)
def notS:T→Bool
 | .isl .S .. =>false
 | .mp .S .. =>false
 |_=>true
theorem p_app{sz bytes:Nat}{s x:Opd}(hd:d<n)(hs:notS (rd fr s)=true):evOps E call n (⟨some d,.app sz bytes s x false false,none⟩::os) ⟨fr,lh,sh⟩=ka (evOps E call n os) fr sh d (appW lh sh d sz bytes (rd fr s) (rd fr x)):=by
 rw[o_app hd (fun k g off len sz he=>by rw[he]at hs;simp[notS]at hs)]
 unfold appW ka
 cases slC lh sh sz (rd fr x) <;> rfl
theorem p_mu{ek:EK}{m k v:Opd}(hm:notS (rd fr m)=true)(hf:froz (rd fr v)=true):evOps E call n (⟨none,.mu ek m k v,none⟩::os) ⟨fr,lh,sh⟩=ks (evOps E call n os) fr ((muV lh ek (rd fr m) (rd fr k) (rd fr v)).map fun lh'=>(lh',sh)):=by
 rw[o_mu (fun kk g he=>by rw[he]at hm;simp[notS]at hm) hf]
 unfold ks
 cases muV lh ek (rd fr m) (rd fr k) (rd fr v) <;> rfl
def bslW(lh:Tri Ent)(sh:List Ent)(z:List T)(len:Nat)(is:List Nat)(vs:List T):Option (T×St):=
 (fzL lh sh false vs).bind fun q=>(bslV z len is q.1).map fun v=>(v,(St.mk .nil lh sh).ups q.2)
theorem p_bsl{z:List T}{len:Nat}{ps:List (Nat×Opd)}(hd:d<n):evOps E call n (⟨some d,.bsl z len ps,none⟩::os) ⟨fr,lh,sh⟩=kc (evOps E call n os) fr (some d) (bslW lh sh z len (ps.map (·.1)) (ps.map fun p=>rd fr p.2)):=by
 rw[o_bsl hd]
 unfold kc bslW
 cases fzL lh sh false (ps.map fun p=>rd fr p.2)with
 |none=>rfl
 |some q=>
  simp only[Option.bind_some]
  cases bslV z len (ps.map (·.1)) q.1 with
  |none=>rfl
  |some v=>simp only[Option.bind_some,Option.map_some,setD];rw[ups_frame q.2 lh sh]
theorem p_call{f:Nat}{as:List Opd}(hd:d<n):evOps E call n (⟨some d,.callf f as,none⟩::os) ⟨fr,lh,sh⟩=kc (evOps E call n os) fr (some d) (doCall E call d ⟨fr,lh,sh⟩ f (as.map (rd fr))):=o_call hd
theorem p_callv{f:Opd}{as:List Opd}(hd:d<n):evOps E call n (⟨some d,.callv f as,none⟩::os) ⟨fr,lh,sh⟩=kc (evOps E call n os) fr (some d) (doCallV E call d ⟨fr,lh,sh⟩ (rd fr f) (as.map (rd fr))):=o_callv hd
theorem g_passT{dd:Option Nat}{op:AOp}{j:Nat}(h:getF fr j= .b true):evOps E call n (⟨dd,op,some (j,true)⟩::os) ⟨fr,lh,sh⟩=evOps E call n (⟨dd,op,none⟩::os) ⟨fr,lh,sh⟩:=g_pass h
theorem g_passF{dd:Option Nat}{op:AOp}{j:Nat}(h:getF fr j= .b false):evOps E call n (⟨dd,op,some (j,false)⟩::os) ⟨fr,lh,sh⟩=evOps E call n (⟨dd,op,none⟩::os) ⟨fr,lh,sh⟩:=g_pass h
theorem g_skipT{op:AOp}{j:Nat}(hd:d<n)(h:getF fr j= .b false):evOps E call n (⟨some d,op,some (j,true)⟩::os) ⟨fr,lh,sh⟩=evOps E call n os ⟨setF fr d undefT,lh,sh⟩:=g_skip (d:=some d) hd h
theorem g_skipF{op:AOp}{j:Nat}(hd:d<n)(h:getF fr j= .b true):evOps E call n (⟨some d,op,some (j,false)⟩::os) ⟨fr,lh,sh⟩=evOps E call n os ⟨setF fr d undefT,lh,sh⟩:=g_skip (d:=some d) hd h
theorem g_undefT{op:AOp}{j:Nat}{w:Bool}(hd:d<n)(h:getF fr j=undefT):evOps E call n (⟨some d,op,some (j,w)⟩::os) ⟨fr,lh,sh⟩=evOps E call n os ⟨setF fr d undefT,lh,sh⟩:=g_undef (d:=some d) hd h
end
section
variable{E:Env}{n:Nat}{fr:Fr}{lh:Tri Ent}{sh:List Ent}
theorem p_cond{c:Opd}{a b:ACode}(h:isB (rd fr c)=true):DC E n (.cond c a b) ⟨fr,lh,sh⟩=if isT (rd fr c)=true then DC E n a ⟨fr,lh,sh⟩else DC E n b ⟨fr,lh,sh⟩:=by
 rw[DC_condB,isB_iff h];rfl
def endR(res:List ARes)(eff:Bool)(x:Option (Out×St)):Option (T×List Ent):=
 match x with
 |some (.ext _,_)=>none
 |some (_,st)=>(resAll st res).bind fun vs=>answer eff vs st
 |none=>none
theorem p_fun{f:Nat}{af:AFunc}{args:List T}{sh:List Ent}(hf:E.fn f=some af)(hn:(af.n<args.length)=False)(hw:af.own=none:=by rfl):
  DCall E f args sh=endR af.res af.eff (DC E af.n af.code {fr:=frOf args,lh:= .nil,sh}):=by
 rw[DCall_eq hf (Nat.le_of_not_lt (of_eq_false hn))]
 generalize DC E af.n af.code {fr:=frOf args,lh:= .nil,sh}=x
 unfold endOf endR
 rw[hw]
 cases x with
 |none=>rfl
 |some p=>
  obtain⟨o,st⟩:=p
  cases o with
  |ext id=>rfl
  |nrm=>simp only[];cases resAll st af.res <;> rfl
  |ret=>simp only[];cases resAll st af.res <;> rfl
def endO(res:List ARes)(j:Nat)(x:Option (Out×St)):Option (T×List Ent):=
 match x with
 |some (.ext _,_)=>none
 |some (_,st)=>(resAll st res).bind fun vs=>answerO j vs st
 |none=>none
theorem p_funO{f:Nat}{af:AFunc}{args:List T}{sh:List Ent}{j:Nat}(hf:E.fn f=some af)(hn:(af.n<args.length)=False)(hw:af.own=some j:=by rfl)(he:af.eff=false:=by rfl):
  DCall E f args sh=endO af.res j (DC E af.n af.code {fr:=frOf args,lh:= .nil,sh}):=by
 rw[DCall_eq hf (Nat.le_of_not_lt (of_eq_false hn))]
 generalize DC E af.n af.code {fr:=frOf args,lh:= .nil,sh}=x
 unfold endOf endO
 rw[hw,he]
 cases x with
 |none=>rfl
 |some p=>
  obtain⟨o,st⟩:=p
  cases o with
  |ext id=>rfl
  |nrm=>simp only[answerF,Bool.false_eq_true,if_false];cases resAll st af.res <;> rfl
  |ret=>simp only[answerF,Bool.false_eq_true,if_false];cases resAll st af.res <;> rfl
def ansO(lh:Tri Ent)(sh:List Ent)(j:Nat)(vs:List T):Option (T×List Ent):=answerO j vs ⟨.nil,lh,sh⟩
theorem answerO_eq{j:Nat}{vs:List T}:answerO j vs ⟨fr,lh,sh⟩=ansO lh sh j vs:=by
 unfold ansO answerO
 simp only[answer_eq,get_fr]
 split
 ·rfl
 ·split
  ·rename_i p _
   rw[ups_frame p.2 lh sh]
   rfl
  ·rfl
 ·rfl
theorem endO_ret{res:List ARes}{j:Nat}:endO res j (some (.ret,⟨fr,lh,sh⟩))=(resV fr lh sh res).bind (ansO lh sh j):=by
 unfold endO
 simp only[resAll_eq]
 congr 1
 funext vs
 exact answerO_eq
theorem ansO_nil:ansO lh sh 0 [.nilsl]=some (.nilsl,sh):=rfl
theorem ansO_nil2{k:IntKind}{e:Int}:ansO lh sh 0 [.nilsl,.i k e]=some (.tup [.nilsl,.i k e],sh):=rfl
theorem ansO_isl{k g len sz wm:Nat}{cs:List T}(h:getO lh k=⟨g,.cells cs wm false⟩)(hl:cs.length=len*sz)(h0:len≠0):ansO lh sh 0 [.isl .L k g 0 len sz]=some (.sl cs len false,sh):=by
 have h':(St.mk .nil lh sh).get .L k=⟨g,.cells cs wm false⟩:=h
 simp only[ansO,answerO,compAt,compSet,fzFuel,fz,Q.run,St.ups]
 rw[h']
 simp only
 rw[if_pos ⟨trivial,hl,h0,.inr rfl⟩]
theorem ownRes_nil{d:Nat}{us:List Up}:ownRes d 0 .nilsl ⟨fr,lh,sh⟩ us=some (.nilsl,⟨fr,lh,sh⟩):=rfl
theorem ownRes_nil2{d:Nat}{us:List Up}{kk:IntKind}{e:Int}:ownRes d 0 (.tup [.nilsl,.i kk e]) ⟨fr,lh,sh⟩ us=some (.tup [.nilsl,.i kk e],⟨fr,lh,sh⟩):=rfl
theorem ownRes_sl{d len:Nat}{us:List Up}{cs:List T}{ex:Bool}(h1:cs.all scal1=true)(h2:cs.length/len*len=cs.length):ownRes d 0 (.sl cs len ex) ⟨fr,lh,sh⟩ us=
  some (.isl .L d ((getO lh d).g+1) 0 len (cs.length/len),⟨fr,setO lh d ⟨(getO lh d).g+1,.cells cs 0 false⟩,sh⟩):=by
 simp only[ownRes,compAt]
 rw[if_pos ⟨h1,h2⟩]
 rfl
theorem endR_ret{res:List ARes}{eff:Bool}:endR res eff (some (.ret,⟨fr,lh,sh⟩))=(resV fr lh sh res).bind (ansV lh sh eff):=by
 unfold endR
 simp only[resAll_eq]
 congr 1
 funext vs
 exact answer_eq
theorem endR_nrm{res:List ARes}{eff:Bool}:endR res eff (some (.nrm,⟨fr,lh,sh⟩))=(resV fr lh sh res).bind (ansV lh sh eff):=by
 unfold endR
 simp only[resAll_eq]
 congr 1
 funext vs
 exact answer_eq
theorem endR_ite{c:Prop}[Decidable c]{res:List ARes}{eff:Bool}{x y:Option (Out×St)}:endR res eff (if c then x else y)=if c then endR res eff x else endR res eff y:=by split <;> rfl
end
section
variable{k:IntKind}{a b:Int}{x y:Bool}{s t:List Nat}
theorem bin_add:Ev.bin .add (.i k a) (.i k b)=some (.i k (wr k (a+b))):=by simp[Ev.bin,binI]
theorem bin_sub:Ev.bin .sub (.i k a) (.i k b)=some (.i k (wr k (a-b))):=by simp[Ev.bin,binI]
theorem bin_mul:Ev.bin .mul (.i k a) (.i k b)=some (.i k (wr k (a*b))):=by simp[Ev.bin,binI]
theorem bin_quo:Ev.bin .quo (.i k a) (.i k b)=if b=0 then none else some (.i k (wr k (a.tdiv b))):=by simp[Ev.bin,binI]
theorem bin_rem:Ev.bin .rem (.i k a) (.i k b)=if b=0 then none else some (.i k (a.tmod b)):=by simp[Ev.bin,binI]
theorem bin_eql:Ev.bin .eql (.i k a) (.i k b)=some (.b (decide (a=b))):=by simp[Ev.bin,binI];exact Bool.beq_eq_decide_eq a b
theorem bin_neq:Ev.bin .neq (.i k a) (.i k b)=some (.b (!decide (a=b))):=by simp[Ev.bin,binI];rw[bne,Bool.beq_eq_decide_eq]
theorem bin_lss:Ev.bin .lss (.i k a) (.i k b)=some (.b (decide (a<b))):=by simp[Ev.bin,binI]
theorem bin_leq:Ev.bin .leq (.i k a) (.i k b)=some (.b (decide (a≤b))):=by simp[Ev.bin,binI]
theorem bin_gtr:Ev.bin .gtr (.i k a) (.i k b)=some (.b (decide (b<a))):=by simp[Ev.bin,binI]
theorem bin_geq:Ev.bin .geq (.i k a) (.i k b)=some (.b (decide (b≤a))):=by simp[Ev.bin,binI]
theorem bin_seql:Ev.bin .eql (.s s) (.s t)=some (.b (decide (s=t))):=by simp[Ev.bin,binS];exact Bool.beq_eq_decide_eq s t
theorem bin_sneq:Ev.bin .neq (.s s) (.s t)=some (.b (!decide (s=t))):=by simp[Ev.bin,binS];rw[bne,Bool.beq_eq_decide_eq]
theorem un_not:Ev.un .not (.b x)=some (.b (!x)):=rfl
theorem un_neg:Ev.un .neg (.i k a)=some (.i k (wr k (0-a))):=rfl
theorem part_f{cs:List T}{off m:Nat}:Ev.part cs off m false=cs[off]? :=rfl
theorem part_t{cs:List T}{off m:Nat}:Ev.part cs off m true=if off+m≤cs.length then some (.agg ((cs.drop off).take m))else none:=rfl
theorem wr64{n:Int}(h: -9223372036854775808≤n∧n≤9223372036854775807):wr .i64 n=n:=by unfold wr lo hi;exact if_pos h
theorem iaV_sl{cs:List T}{len sz:Nat}{ex:Bool}{kk:IntKind}{j:Int}:iaV (.sl cs len ex) (.i kk j) sz=if 0≤j∧j.toNat<len∧(j.toNat+1)*sz≤cs.length then some (.vp (cs.drop (j.toNat*sz)))else none:=by
 unfold iaV asNat
 by_cases h:0≤j
 ·simp only[h,if_true,true_and]
 ·simp only[h,if_false,false_and]
theorem iaV_isl{sp:Sp}{i g off len sz sz':Nat}{kk:IntKind}{j:Int}:iaV (.isl sp i g off len sz') (.i kk j) sz=if 0≤j∧j.toNat<len∧sz'=sz then some (.ptr sp i g (off+j.toNat*sz))else none:=by
 unfold iaV asNat
 by_cases h:0≤j
 ·simp only[h,if_true,true_and]
 ·simp only[h,if_false,false_and]
theorem ixSV_s{bs:List Nat}{kk:IntKind}{j:Int}:ixSV (.s bs) (.i kk j)=if 0≤j then bs[j.toNat]?.map fun c=>T.i .u8 c else none:=by
 unfold ixSV asNat
 by_cases h:0≤j
 ·simp only[h,if_true]
 ·simp only[h,if_false]
theorem asNat_i{kk:IntKind}{j:Int}:asNat (.i kk j)=if 0≤j then some j.toNat else none:=rfl
end
end Go.Ev
