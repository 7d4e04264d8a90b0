/- A tree evaluator over the model, proved against it (part E): where it answers, the call returns that answer. Conditions: none beyond its theorems' own. -/
import Derived.Test.YtcpceiclnbmgiaaGreatEvD
set_option linter.unusedSimpArgs false
set_option linter.unusedVariables false
namespace Go.Ev
open Go
section
variable{E:Env}{call:pU}{fl n:Nat}
end
end Go.Ev
namespace Go.Ev
open Go
def yU(c i:pU):Prop:= ∀f a sh r,c f a sh=some r→i f a sh=some r
section
variable{E:Env}
theorem Bu{c i:pU}(h:yU c i){D:Nat}{st:St}{f:Nat}{args:List T}{r:T×St}(hr:jf E c D st f args=some r):jf E i D st f args=some r:=by
 unfold jf at hr ⊢
 cases I:E.fn f with
 |none=>grind
 |some af=>
  simp only[I]at hr ⊢
  cases J:(ja (fz af.eff iG) args).run st.get st.sh.length with
  |none=>grind
  |some q=>
   simp only[J]at hr ⊢
   cases H:af.eff with
   |true=>
    simp only[H,if_true,Option.map_eq_some_iff]at hr ⊢
    obtain⟨a,K,N⟩:=hr
    exact⟨a,h _ _ _ _ K,N⟩
   |false=>
    simp only[H]at hr ⊢
    cases hc:c f q.1 []with
    |none=>grind
    |some a=>
     simp only[hc]at hr
     simp only[h _ _ _ _ hc]
     exact hr
theorem rE{c I:pU}(h:yU c I){n:Nat}{o:dy}{st D:St}(hr:jd E c n o st=some D):jd E I n o st=some D:=by
 unfold jd at hr ⊢
 have K: ∀D,(match jr st.rho o.op with
  |some (some i)=>match jf E c (o.d.getD 0) st i.1 i.2 with
   |some r=>(na st.fr n o.d r.1).map fun fr=>{r.2 with fr}
   |none=>none
  |some none=>none
  |none=>match(jk (o.d.getD 0) st.rho o.op).run st.get st.sh.length with
   |some (.val v ups)=>(na st.fr n o.d v).map fun fr=>{st.ups ups with fr}
   |none=>none)=some D→(match jr st.rho o.op with
  |some (some i)=>match jf E I (o.d.getD 0) st i.1 i.2 with
   |some r=>(na st.fr n o.d r.1).map fun fr=>{r.2 with fr}
   |none=>none
  |some none=>none
  |none=>match(jk (o.d.getD 0) st.rho o.op).run st.get st.sh.length with
   |some (.val v ups)=>(na st.fr n o.d v).map fun fr=>{st.ups ups with fr}
   |none=>none)=some D:=by
  intro D hs
  cases hc:jr st.rho o.op with
  |none=>simp only[hc]at hs ⊢; exact hs
  |some x=>
   cases x with
   |none=>simp only[hc]at hs;cases hs
   |some i=>
    simp only[hc]at hs ⊢
    cases J:jf E c (o.d.getD 0) st i.1 i.2 with
    |none=>simp only[J]at hs;cases hs
    |some r=>
     simp only[J]at hs
     simp only[Bu h J]
     exact hs
 cases N:o.gd with
 |none=>grind
 |some p=>
  obtain⟨j,H⟩:=p
  simp only[N]at hr ⊢
  split at hr
  ·rename_i x hx
   by_cases O:x=H
   ·grind
   ·grind
  ·cases hr
  ·exact hr
theorem mQ{c r:pU}(h:yU c r){n:Nat}: ∀(os:List dy) {st i:St},dE E c n os st=some i→dE E r n os st=some i
 | [],st,i,hr=>hr
 |o::os,st,i,hr=>by
  simp only[dE]at hr ⊢
  cases D:jd E c n o st with
  |none=>grind
  |some s=>
   simp only[D]at hr
   simp only[rE h D]
   exact mQ h os hr
theorem Bv{c i:pU}(h:yU c i){D:Nat}{st:St}{f:Nat}{args:List T}{r:FP}(hr:lS E c D st f args=some r):lS E i D st f args=some r:=by
 unfold lS at hr ⊢
 cases H:E.fn f with
 |none=>grind
 |some af=>
  simp only[H]at hr ⊢
  cases I:(ja (fz af.eff iG) args).run st.get st.sh.length with
  |none=>grind
  |some q=>
   simp only[I]at hr ⊢
   by_cases hi:(!inB st q.2)=true
   ·grind
   ·rw[if_neg hi]at hr ⊢
    cases J:af.eff with
    |true=>grind
    |false=>
     simp only[J]at hr ⊢
     cases hc:c f q.1 []with
     |none=>simp[hc]at hr
     |some a=>
      simp only[hc]at hr
      simp only[h _ _ _ _ hc]
      exact hr
theorem Bw{c H:pU}(h:yU c H){o:dy}{st:St}{r:FP}(hr:jT E c o st=some r):jT E H o st=some r:=by
 unfold jT at hr ⊢
 have I: ∀r,(match jr st.rho o.op with
  |some (some D)=>lS E c (o.d.getD 0) st D.1 D.2
  |some none=>none
  |none=>
   let q:=jk (o.d.getD 0) st.rho o.op
   match q.run st.get st.sh.length with
   |some (.val _ i)=>if q.asks st.get st.sh.length||inB st i then some ⟨q.asks st.get st.sh.length,q.log st.get st.sh.length,ki i⟩else none
   |none=>none)=some r→(match jr st.rho o.op with
  |some (some D)=>lS E H (o.d.getD 0) st D.1 D.2
  |some none=>none
  |none=>
   let q:=jk (o.d.getD 0) st.rho o.op
   match q.run st.get st.sh.length with
   |some (.val _ i)=>if q.asks st.get st.sh.length||inB st i then some ⟨q.asks st.get st.sh.length,q.log st.get st.sh.length,ki i⟩else none
   |none=>none)=some r:=by
  intro r hs
  cases hc:jr st.rho o.op with
  |none=>simp only[hc]at hs ⊢; exact hs
  |some x=>
   cases x with
   |none=>simp only[hc]at hs;cases hs
   |some D=>simp only[hc]at hs ⊢; exact Bv h hs
 cases J:o.gd with
 |none=>grind
 |some p=>
  grind
theorem rF{c r:pU}(h:yU c r){n:Nat}: ∀(os:List (List Nat×dy)) {jJ:List FP} {st i:St},iN E c n os jJ st=some i→iN E r n os jJ st=some i
 | [],jJ,st,i,hr=>hr
 |(u,o)::os,jJ,st,i,hr=>by
  simp only[iN]at hr ⊢
  cases D:jT E c o st with
  |none=>grind
  |some fp=>
   simp only[D]at hr
   simp only[Bw h D]
   split at hr
   ·rename_i I
    rw[if_pos I]
    cases H:jd E c n o st with
    |none=>grind
    |some s=>
     simp only[H]at hr
     simp only[rE h H]
     exact rF h os hr
   ·cases hr
theorem vL{f g:St→Option (Out×St)}(h: ∀st r,f st=some r→g st=some r): ∀{k k':Nat},k≤k'→ ∀{st:St} {r:Out×St},iter f k st=some r→iter g k' st=some r
 |0,_,_,st,r,hr=>by simp[iter]at hr
 |k+1,0,hk,_,_,_=>by omega
 |k+1,k'+1,hk,st,r,hr=>by
  simp only[iter]at hr ⊢
  cases i:f st with
  |none=>grind
  |some p=>
   rw[h _ _ i]
   rw[i]at hr
   obtain⟨o,s⟩:=p
   cases o with
   |nrm=>exact vL h (by omega) hr
   |ext id=>exact hr
   |ret=>exact hr
theorem ky{c K:pU}(h:yU c K){n:Nat}{fl I:Nat}(i:fl≤I): ∀(code:fx) {st:St} {r:Out×St},mL E c fl n code st=some r→mL E K I n code st=some r
 | .skip,st,r,hr=>hr
 | .region ops,st,r,hr=>by
   simp only[mL,Option.map_eq_some_iff]at hr ⊢
   obtain⟨a,D,H⟩:=hr
   exact⟨a,mQ h ops D,H⟩
 | .draws ops,st,r,hr=>by
   simp only[mL,Option.map_eq_some_iff]at hr ⊢
   obtain⟨a,D,H⟩:=hr
   exact⟨a,rF h ops D,H⟩
 | .seq a b,st,r,hr=>by
   simp only[mL]at hr ⊢
   cases J:mL E c fl n a st with
   |none=>grind
   |some p=>
    rw[ky h i a J]
    rw[J]at hr
    obtain⟨o,s⟩:=p
    cases o with
    |nrm=>exact ky h i b hr
    |ext id=>exact hr
    |ret=>exact hr
 | .fork os EY b,st,r,hr=>by
   simp only[mL]at hr ⊢
   cases D:dE E c n os st with
   |none=>grind
   |some V=>
    cases H:dE E c n EY st with
    |none=>grind
    |some W=>
     rw[mQ h os D,mQ h EY H]
     rw[D,H]at hr
     simp only[]at hr ⊢
     obtain⟨o,s⟩:=r
     obtain⟨X,Y,N,O,Z,rfl⟩:=xi hr
     rw[N,O]at hr
     rw[ky h i b N,ky h i b O]
     exact hr
 | .cond x a b,st,r,hr=>by
   simp only[mL]at hr ⊢
   split at hr
   ·exact ky h i a hr
   ·exact ky h i b hr
   ·cases hr
 | .block id a,st,r,hr=>by
   simp only[mL]at hr ⊢
   cases J:mL E c fl n a st with
   |none=>grind
   |some p=>
    rw[ky h i a J]
    grind
 | .loop a,st,r,hr=>by
   simp only[mL]at hr ⊢
   exact vL (fun st r U=>ky h i a U) i hr
 | .exit id,st,r,hr=>hr
 | .ret,st,r,hr=>hr
theorem jC: ∀{m i:Nat},m≤i→yU (j4 E m) (j4 E i)
 |0,i,_=>fun f a sh r h=>by simp[j4]at h
 |m+1,0,h=>by omega
 |m+1,i+1,h=>fun f a sh r hr=>by
  simp only[j4]at hr ⊢
  cases D:E.fn f with
  |none=>grind
  |some af=>
   simp only[D]at hr ⊢
   split at hr
   ·cases hr
   ·rename_i H
    rw[if_neg H]
    cases hc:mL E (j4 E m) m af.n af.code {fr:=pT a,lh:= .nil,sh}with
    |none=>grind
    |some p=>
     rw[ky (jC (Nat.le_of_succ_le_succ h)) (Nat.le_of_succ_le_succ h) af.code hc]
     grind
end
noncomputable def lim{α:Type}(F:Nat→Option α):Option α:=
 open Classical in if h: ∃m,(F m).isSome=true then F (Classical.choose h)else none
def arH{α:Type}(F:Nat→Option α):Prop:= ∀m i r,m≤i→F m=some r→F i=some r
theorem OK{α:Type}{F:Nat→Option α}(D:arH F)(r:α):lim F=some r↔ ∃m,F m=some r:=by
 unfold lim
 constructor
 ·intro h
  split at h
  ·grind
  ·cases h
 ·rintro⟨m,H⟩
  have i: ∃m,(F m).isSome=true:=⟨m,by rw[H];rfl⟩
  rw[dif_pos i]
  have hs:=Classical.choose_spec i
  generalize Classical.choose i=k at hs
  cases hk:F k with
  |none=>grind
  |some a=>
   have I:=D k (max k m) a (Nat.le_max_left _ _) hk
   have J:=D m (max k m) r (Nat.le_max_right _ _) H
   grind
section
variable(E:Env)
noncomputable def be:pU:=fun f a sh=>lim fun m=>j4 E m f a sh
noncomputable def DC(n:Nat)(code:fx)(st:St):Option (Out×St):=lim fun m=>mL E (j4 E m) m n code st
end
section
variable{E:Env}
theorem DCall_iff{f:Nat}{a:List T}{sh:List b8}{r:T×List b8}:be E f a sh=some r↔ ∃m,j4 E m f a sh=some r:=
 OK (fun m i r h hr=>jC h _ _ _ _ hr) r
theorem kD{n:Nat}{code:fx}{st:St}{r:Out×St}:DC E n code st=some r↔ ∃m,mL E (j4 E m) m n code st=some r:=
 OK (fun m i r h hr=>ky (jC h) h code hr) r
theorem tw(m:Nat):yU (j4 E m) (be E):=fun f a sh r h=>DCall_iff.2 ⟨m,h⟩
theorem Mu{i:Nat}{st:St}{f:Nat}{args:List T}{r:T×St}(hr:jf E (be E) i st f args=some r): ∃m,jf E (j4 E m) i st f args=some r:=by
 unfold jf at hr
 cases D:E.fn f with
 |none=>refine⟨0, ?_⟩;unfold jf;cases hx:E.ext f <;> simp only[D,hx]at hr ⊢ <;> exact hr
 |some af=>
  simp only[D]at hr
  grind [jf,Option.map_eq_some_iff,DCall_iff.1]
theorem Mv{i:Nat}{st:St}{f:Nat}{args:List T}{r:FP}(hr:lS E (be E) i st f args=some r): ∃m,lS E (j4 E m) i st f args=some r:=by
 unfold lS at hr
 cases D:E.fn f with
 |none=>refine⟨0, ?_⟩;unfold lS;cases hx:E.ext f <;> simp only[D,hx]at hr ⊢ <;> exact hr
 |some af=>
  simp only[D]at hr
  cases H:(ja (fz af.eff iG) args).run st.get st.sh.length with
  |none=>grind
  |some q=>
   simp only[H]at hr
   by_cases hi:(!inB st q.2)=true
   ·grind
   ·rw[if_neg hi]at hr
    cases I:af.eff with
    |true=>
     simp_all[lS]
    |false=>
     grind [lS,DCall_iff.1]
theorem DL{n:Nat}{o:dy}{st D:St}(hr:jd E (be E) n o st=some D): ∃m,jd E (j4 E m) n o st=some D:=by
 cases hc:jr st.rho o.op with
 |none=>
  simp_all[jd]
 |some x=>
  cases x with
  |none=>
   simp_all[jd]
  |some i=>
   cases H:jf E (be E) (o.d.getD 0) st i.1 i.2 with
   |none=>
    refine⟨0, ?_⟩
    have I:jf E (j4 E 0) (o.d.getD 0) st i.1 i.2=none:=by
     cases I:jf E (j4 E 0) (o.d.getD 0) st i.1 i.2 with
     |none=>rfl
     |some r=>rw[Bu (tw 0) I]at H;cases H
    grind [jd]
   |some r=>
    grind [jd,Mu]
theorem Mw{o:dy}{st:St}{r:FP}(hr:jT E (be E) o st=some r): ∃m,jT E (j4 E m) o st=some r:=by
 cases hc:jr st.rho o.op with
 |none=>
  simp_all[jT]
 |some x=>
  cases x with
  |none=>
   simp_all[jT]
  |some i=>
   cases D:lS E (be E) (o.d.getD 0) st i.1 i.2 with
   |none=>
    refine⟨0, ?_⟩
    have H:lS E (j4 E 0) (o.d.getD 0) st i.1 i.2=none:=by
     cases H:lS E (j4 E 0) (o.d.getD 0) st i.1 i.2 with
     |none=>rfl
     |some r=>rw[Bv (tw 0) H]at D;cases D
    grind [jT]
   |some r=>
    grind [jT,Mv]
theorem vM{n:Nat}: ∀(os:List dy) {st i:St},dE E (be E) n os st=some i→ ∃m,dE E (j4 E m) n os st=some i
 | [],st,i,hr=>⟨0,hr⟩
 |o::os,st,i,hr=>by
  simp only[dE]at hr
  cases H:jd E (be E) n o st with
  |none=>grind
  |some s=>
   simp only[H]at hr
   obtain⟨r,I⟩:=DL H
   obtain⟨D,J⟩:=vM os hr
   refine⟨max r D, ?_⟩
   simp only[dE,rE (jC (Nat.le_max_left r D)) I]
   exact mQ (jC (Nat.le_max_right r D)) os J
theorem DM{n:Nat}: ∀(os:List (List Nat×dy)) {jJ:List FP} {st H:St},iN E (be E) n os jJ st=some H→ ∃m,iN E (j4 E m) n os jJ st=some H
 | [],jJ,st,H,hr=>⟨0,hr⟩
 |(u,o)::os,jJ,st,H,hr=>by
  simp only[iN]at hr
  cases I:jT E (be E) o st with
  |none=>grind
  |some fp=>
   simp only[I]at hr
   split at hr
   ·rename_i K
    cases J:jd E (be E) n o st with
    |none=>grind
    |some s=>
     simp only[J]at hr
     obtain⟨i,N⟩:=DL J
     obtain⟨r,O⟩:=DM os hr
     obtain⟨D,U⟩:=Mw I
     refine⟨max D (max i r), ?_⟩
     have V:i≤max D (max i r):=by omega
     have W:r≤max D (max i r):=by omega
     have X:D≤max D (max i r):=by omega
     simp only[iN,Bw (jC X) U,rE (jC V) N]
     rw[if_pos K]
     exact rF (jC W) os O
   ·cases hr
theorem tz{α:Type}{x y:Option α}(h: ∀r,x=some r↔y=some r):x=y:=Option.ext h
theorem aaL{n:Nat}{st:St}:DC E n .skip st=some (.nrm,st):=kD.2 ⟨0,rfl⟩
theorem aaM{n id:Nat}{st:St}:DC E n (.exit id) st=some (.ext id,st):=kD.2 ⟨0,rfl⟩
theorem ahO{n:Nat}{st:St}:DC E n .ret st=some (.ret,st):=kD.2 ⟨0,rfl⟩
theorem Gp{n:Nat}{ops:List dy}{st:St}:DC E n (.region ops) st=(dE E (be E) n ops st).map fun i=>(.nrm,i):=by
 refine tz fun r=> ?_
 rw[kD,Option.map_eq_some_iff]
 constructor
 ·rintro⟨m,h⟩
  simp only[mL,Option.map_eq_some_iff]at h
  obtain⟨a,D,H⟩:=h
  exact⟨a,mQ (tw m) ops D,H⟩
 grind [mL,Option.map_eq_some_iff,vM]
theorem Kf{n:Nat}{ops:List (List Nat×dy)}{st:St}:DC E n (.draws ops) st=(iN E (be E) n ops [] st).map fun i=>(.nrm,i):=by
 refine tz fun r=> ?_
 rw[kD,Option.map_eq_some_iff]
 constructor
 ·rintro⟨m,h⟩
  simp only[mL,Option.map_eq_some_iff]at h
  obtain⟨a,D,H⟩:=h
  exact⟨a,rF (tw m) ops D,H⟩
 grind [mL,Option.map_eq_some_iff,DM]
def andThen(x:Option (Out×St))(f:St→Option (Out×St)):Option (Out×St):=
 match x with
 |some (.nrm,i)=>f i
 |r=>r
theorem nP{st:St}{f:St→Option (Out×St)}:andThen (some (.nrm,st)) f=f st:=rfl
theorem Kg{id:Nat}{st:St}{f:St→Option (Out×St)}:andThen (some (.ext id,st)) f=some (.ext id,st):=rfl
theorem Kh{st:St}{f:St→Option (Out×St)}:andThen (some (.ret,st)) f=some (.ret,st):=rfl
theorem Hw{f:St→Option (Out×St)}:andThen none f=none:=rfl
theorem AD{n:Nat}{a b:fx}{st:St}:DC E n (.seq a b) st=andThen (DC E n a st) (DC E n b):=by
 refine tz fun r=> ?_
 rw[kD]
 constructor
 ·rintro⟨m,h⟩
  simp only[mL]at h
  cases i:mL E (j4 E m) m n a st with
  |none=>grind
  |some p=>
   rw[i]at h
   rw[kD.2 ⟨m,i⟩]
   obtain⟨o,s⟩:=p
   cases o with
   |nrm=>exact kD.2 ⟨m,h⟩
   |ext id=>exact h
   |ret=>exact h
 ·intro h
  cases i:DC E n a st with
  |none=>rw[i]at h;cases h
  |some p=>
   rw[i]at h
   obtain⟨D,H⟩:=kD.1 i
   obtain⟨o,s⟩:=p
   cases o with
   |nrm=>
    obtain⟨I,N⟩:=kD.1 h
    refine⟨max D I, ?_⟩
    have J:=Nat.le_max_left D I
    have K:=Nat.le_max_right D I
    simp only[mL,ky (jC J) J a H]
    exact ky (jC K) K b N
   |ext id=>refine⟨D, ?_⟩;simp only[mL,H];exact h
   |ret=>refine⟨D, ?_⟩;simp only[mL,H];exact h
theorem aaN{n:Nat}{c:iF}{a b:fx}{st:St}:DC E n (.cond c a b) st=match st.rho c with| .b true=>DC E n a st| .b false=>DC E n b st|_=>none:=by
 refine tz fun r=> ?_
 grind [kD,mL,kD.2,kD.1]
def Bx(id:Nat)(x:Option (Out×St)):Option (Out×St):=
 match x with
 |some (.ext QV,i)=>if QV=id then some (.nrm,i)else some (.ext QV,i)
 |r=>r
theorem Rc{id:Nat}{st:St}:Bx id (some (.nrm,st))=some (.nrm,st):=rfl
theorem Rd{id:Nat}{st:St}:Bx id (some (.ret,st))=some (.ret,st):=rfl
theorem Re{id QV:Nat}{st:St}:Bx id (some (.ext QV,st))=if QV=id then some (.nrm,st)else some (.ext QV,st):=rfl
theorem Mx{id:Nat}:Bx id none=none:=rfl
theorem Vg{n id:Nat}{a:fx}{st:St}:DC E n (.block id a) st=Bx id (DC E n a st):=by
 refine tz fun r=> ?_
 rw[kD]
 constructor
 ·rintro⟨m,h⟩
  simp only[mL]at h
  cases i:mL E (j4 E m) m n a st with
  |none=>grind
  |some p=>
   rw[i]at h
   rw[kD.2 ⟨m,i⟩]
   exact h
 ·intro h
  cases i:DC E n a st with
  |none=>rw[i]at h;cases h
  |some p=>
   rw[i]at h
   obtain⟨D,H⟩:=kD.1 i
   refine⟨D, ?_⟩
   simp only[mL,H]
   exact h
theorem B9{n:Nat}{a:fx}{st:St}:DC E n (.loop a) st=andThen (DC E n a st) (DC E n (.loop a)):=by
 refine tz fun r=> ?_
 rw[kD]
 constructor
 ·rintro⟨m,h⟩
  simp only[mL]at h
  cases m with
  |zero=>simp[iter]at h
  |succ m=>
   rw[iter]at h
   cases D:mL E (j4 E (m+1)) (m+1) n a st with
   |none=>grind
   |some p=>
    rw[D]at h
    rw[kD.2 ⟨m+1,D⟩]
    obtain⟨o,s⟩:=p
    cases o with
    |nrm=>
     refine kD.2 ⟨m+1, ?_⟩
     simp only[mL]
     exact vL (fun _ _ h=>h) (Nat.le_succ m) h
    |ext id=>exact h
    |ret=>exact h
 ·intro h
  cases D:DC E n a st with
  |none=>rw[D]at h;cases h
  |some p=>
   rw[D]at h
   obtain⟨i,I⟩:=kD.1 D
   obtain⟨o,s⟩:=p
   cases o with
   |nrm=>
    obtain⟨H,J⟩:=kD.1 h
    refine⟨max i H+1, ?_⟩
    have K:i≤max i H+1:=by omega
    have N:H≤max i H+1:=by omega
    have O:H≤max i H:=by omega
    simp only[mL]at J
    simp only[mL]
    rw[iter,ky (jC K) K a I]
    exact vL (fun st r U=>ky (jC N) N a U) O J
   |ext id=>
    refine⟨i+1, ?_⟩
    simp only[mL]
    rw[iter,ky (jC (Nat.le_succ i)) (Nat.le_succ i) a I]
    exact h
   |ret=>
    refine⟨i+1, ?_⟩
    simp only[mL]
    rw[iter,ky (jC (Nat.le_succ i)) (Nat.le_succ i) a I]
    exact h
def Vh(af:ij)(x:Option (Out×St)):Option (T×List b8):=
 match x with
 |some (.ext _,_)=>none
 |some (_,st)=>match nE st af.res with
  |some i=>tf af.own af.eff i st
  |none=>none
 |none=>none
theorem Ki{f:Nat}{af:ij}{args:List T}{sh:List b8}(i:E.fn f=some af)(D:args.length≤af.n):
  be E f args sh=Vh af (DC E af.n af.code {fr:=pT args,lh:= .nil,sh}):=by
 refine tz fun r=> ?_
 rw[DCall_iff]
 constructor
 ·rintro⟨m,h⟩
  cases m with
  |zero=>simp[j4]at h
  |succ m=>
   simp only[j4,i,if_neg (Nat.not_lt.2 D)]at h
   cases hc:mL E (j4 E m) m af.n af.code {fr:=pT args,lh:= .nil,sh}with
   |none=>grind
   |some p=>rw[hc]at h;rw[kD.2 ⟨m,hc⟩];exact h
 ·intro h
  cases hc:DC E af.n af.code {fr:=pT args,lh:= .nil,sh}with
  |none=>rw[hc]at h;cases h
  |some p=>
   rw[hc]at h
   obtain⟨m,H⟩:=kD.1 hc
   refine⟨m+1, ?_⟩
   simp only[j4,i,if_neg (Nat.not_lt.2 D),H]
   exact h
end
end Go.Ev
namespace Go.Ev
open Go
theorem nr{α:Sort _}{a b:α}(h:a=b):a=b:=h
def rd(fr:Fr):iF→T
 | .t k=>an fr k
 | .c v=>v
theorem ayw(fr:Fr)(k:Nat):rd fr (.t k)=an fr k:=nr rfl
theorem ayx(fr:Fr)(v:T):rd fr (.c v)=v:=nr rfl
theorem lj(fr:Fr)(lh:iw b8)(sh:List b8):(St.mk fr lh sh).rho=rd fr:=by funext x;cases x <;> rfl
theorem Vi(fr:Fr)(d:Nat)(v:T):an (kg fr d v) d=v:=by rw[qt,if_pos rfl]
theorem Vj(fr:Fr){d m:Nat}(v:T)(h:m≠d):an (kg fr d v) m=an fr m:=by rw[qt,if_neg h]
def b7(lh:iw b8)(k:Nat):b8:=iw.get lW lh k
def nG(lh:iw b8)(k:Nat)(e:b8):iw b8:=iw.set lW lh k e
theorem AE(lh:iw b8)(k:Nat)(e:b8):b7 (nG lh k e) k=e:=by grind [b7,nG,iw.get_set]
theorem jE(lh:iw b8){k m:Nat}(e:b8)(h:m≠k):b7 (nG lh k e) m=b7 lh m:=by grind [b7,nG,iw.get_set]
theorem Vk(k:Nat):b7 .nil k=lW:=by unfold b7;exact iw.get_nil _ _
theorem OL(fr:Fr)(lh:iw b8)(sh:List b8)(k:Nat):(St.mk fr lh sh).get .L k=b7 lh k:=rfl
theorem Ca(st:St):st.ups []=st:=rfl
theorem afr(fr:Fr)(lh:iw b8)(sh:List b8)(k:Nat)(e:b8)(us:List Up):(St.mk fr lh sh).ups ((.L,k,e)::us)=(St.mk fr (nG lh k e) sh).ups us:=rfl
def qa:Option C9→Option (T×List Up)
 |some (.val v i)=>some (v,i)
 |none=>none
def one(fr:Fr)(lh:iw b8)(sh:List b8)(d:Nat)(op:mA):Option (T×List Up):=
 qa ((jk d (rd fr) op).run (St.mk fr lh sh).get sh.length)
def wa(fr:Fr):Option Nat→T→Fr
 |some d,v=>kg fr d v
 |none,_=>fr
def EZ(n:Nat):Option Nat→Prop
 |some d=>d<n
 |none=>True
section
variable{E:Env}{call:pU}{n:Nat}{fr:Fr}{lh:iw b8}{sh:List b8}{os:List dy}
theorem arI{st:St}:dE E call n [] st=some st:=rfl
theorem pG{d:Option Nat}{op:mA}(hc:jr (rd fr) op=none)(i:EZ n d):
  dE E call n (⟨d,op,none⟩::os) ⟨fr,lh,sh⟩=(one fr lh sh (d.getD 0) op).bind fun r=>dE E call n os {(St.mk fr lh sh).ups r.2 with fr:=wa fr d r.1}:=by
 simp only[dE,jd,lj,hc]
 unfold one
 cases h:(jk (d.getD 0) (rd fr) op).run (St.mk fr lh sh).get sh.length with
 |none=>rfl
 |some r=>
  obtain⟨v,ups⟩:=r
  simp only[Option.bind_some,qa]
  cases d with
  |none=>rfl
  |some d=>simp only[na,if_pos (show d<n from i),wa,Option.map_some]
theorem lv{d:Option Nat}{op:mA}(hc:jr (rd fr) op=none)(i:EZ n d){v:Option T}(r:one fr lh sh (d.getD 0) op=v.map fun v=>(v,[])):
  dE E call n (⟨d,op,none⟩::os) ⟨fr,lh,sh⟩=v.bind fun v=>dE E call n os ⟨wa fr d v,lh,sh⟩:=by
 rw[pG hc i,r]
 cases v <;> rfl
theorem po{o:Option T}{h:Sp→Nat→b8}{i:Nat}:qa ((val o).run h i)=o.map fun v=>(v,([]:List Up)):=by
 cases o <;> rfl
variable{d:Nat}
theorem ayy{x:iF}(i:d<n):dE E call n (⟨some d,.mv x,none⟩::os) ⟨fr,lh,sh⟩=dE E call n os ⟨kg fr d (rd fr x),lh,sh⟩:=
 lv (d:=some d) (v:=some (rd fr x)) (by rfl) i rfl
def OM(c a b:T):Option T:=match c with| .b x=>some (if x=true then a else b)|_=>none
theorem aaO(x:Bool)(a b:T):OM (.b x) a b=some (if x=true then a else b):=rfl
theorem ahP{c a b:iF}(i:d<n):dE E call n (⟨some d,.pick c a b,none⟩::os) ⟨fr,lh,sh⟩=(OM (rd fr c) (rd fr a) (rd fr b)).bind fun v=>dE E call n os ⟨kg fr d v,lh,sh⟩:=by
 refine lv (d:=some d) (by rfl) i ?_
 unfold one OM
 simp only[jk]
 cases h:rd fr c <;> try rfl
 rename_i x
 cases x <;> rfl
theorem arJ{op:BinOp}{x y:iF}(i:d<n):dE E call n (⟨some d,.bin op x y,none⟩::os) ⟨fr,lh,sh⟩=(Ev.bin op (rd fr x) (rd fr y)).bind fun v=>dE E call n os ⟨kg fr d v,lh,sh⟩:=
 lv (d:=some d) (by rfl) i po
theorem ayz{neg:Bool}{k:EK}{x y:iF}(i:d<n):dE E call n (⟨some d,.eq neg k x y,none⟩::os) ⟨fr,lh,sh⟩=((vz k (rd fr x) (rd fr y)).map fun r=>T.b (r != neg)).bind fun v=>dE E call n os ⟨kg fr d v,lh,sh⟩:=
 lv (d:=some d) (by rfl) i po
theorem ayA{op:UnOp}{x:iF}(i:d<n):dE E call n (⟨some d,.un op x,none⟩::os) ⟨fr,lh,sh⟩=(Ev.un op (rd fr x)).bind fun v=>dE E call n os ⟨kg fr d v,lh,sh⟩:=
 lv (d:=some d) (by rfl) i po
def aaP(k:IntKind):T→Option T
 | .i _ n=>some (.i k (wr k n))
 |_=>none
theorem arK{k:IntKind}{x:iF}(i:d<n):dE E call n (⟨some d,.cvi k x,none⟩::os) ⟨fr,lh,sh⟩=(aaP k (rd fr x)).bind fun v=>dE E call n os ⟨kg fr d v,lh,sh⟩:=by
 refine lv (d:=some d) (by rfl) i ?_
 unfold one aaP
 simp only[jk]
 cases h:rd fr x <;> rfl
def aaQ:T→Option T
 | .sl [.i .u8 (.ofNat k)] 1 _=>if k<256 then some (.s [k])else none
 |_=>none
theorem arL{x:iF}(i:d<n):dE E call n (⟨some d,.b2s x,none⟩::os) ⟨fr,lh,sh⟩=(aaQ (rd fr x)).bind fun v=>dE E call n os ⟨kg fr d v,lh,sh⟩:=by
 refine lv (d:=some d) (by rfl) i ?_
 unfold one aaQ
 simp only[jk]
 generalize rd fr x=y
 split
 ·rename_i k ex
  by_cases hk:k<256
  ·rw[if_pos hk];simp only[hk,if_true];rfl
  ·rw[if_neg hk];simp only[hk,if_false];rfl
 ·rename_i h
  split
  ·rename_i k ex;exact absurd rfl (h k ex)
  ·rfl
theorem ahQ{f:Nat}{a c:List iF}(i:d<n):dE E call n (⟨some d,.mkfn f a c,none⟩::os) ⟨fr,lh,sh⟩=dE E call n os ⟨kg fr d (.fn f (a.map (rd fr)) (c.map (rd fr))),lh,sh⟩:=
 lv (d:=some d) (v:=some _) (by rfl) i rfl
def Hx(fr:Fr)(z:List T)(i:List (Nat×Nat×iF)):Option T:=
 if(i.all fun p=>(cellsOf (rd fr p.2.2)).length=p.2.1&&noTup (rd fr p.2.2))=true then(p5 z (i.map fun p=>(p.1,cellsOf (rd fr p.2.2)))).map .agg else none
theorem aaR{z:List T}{i:List (Nat×Nat×iF)}(r:d<n):dE E call n (⟨some d,.build z i,none⟩::os) ⟨fr,lh,sh⟩=(Hx fr z i).bind fun v=>dE E call n os ⟨kg fr d v,lh,sh⟩:=by
 refine lv (d:=some d) (by rfl) r ?_
 unfold one Hx
 simp only[jk]
 split
 ·exact po
 ·rfl
def DN(fr:Fr)(x:T)(l h:Option iF):Option T:=
 match x with
 | .s i=>match kN (rd fr) 0 l,kN (rd fr) i.length h with
   |some l,some h=>if l≤h∧h≤i.length then some (.s ((i.drop l).take (h-l)))else none
   |_,_=>none
 |_=>none
theorem arM{x:iF}{l h:Option iF}(D:d<n):dE E call n (⟨some d,.slS x l h,none⟩::os) ⟨fr,lh,sh⟩=(DN fr (rd fr x) l h).bind fun v=>dE E call n os ⟨kg fr d v,lh,sh⟩:=by
 refine lv (d:=some d) (by rfl) D ?_
 unfold one DN
 simp only[jk]
 cases hx:rd fr x <;> try rfl
 rename_i i
 simp only[]
 cases H:kN (rd fr) 0 l <;> cases I:kN (rd fr) i.length h <;> try rfl
 rename_i a b
 simp only[Bool.and_eq_true,decide_eq_true_eq]
 by_cases r:a≤b∧b≤i.length
 ·simp only[if_pos r];rfl
 ·simp only[if_neg r];rfl
def faV(x:T)(off:Nat):Option T:=
 match x with
 | .vp cs=>if off≤cs.length then some (.vp (cs.drop off))else none
 | .ptr sp k g o=>some (.ptr sp k g (o+off))
 |_=>none
theorem ayB{x:iF}{off:Nat}(i:d<n):dE E call n (⟨some d,.fa x off,none⟩::os) ⟨fr,lh,sh⟩=(faV (rd fr x) off).bind fun v=>dE E call n os ⟨kg fr d v,lh,sh⟩:=by
 refine lv (d:=some d) (by rfl) i ?_
 unfold one faV
 simp only[jk]
 cases hx:rd fr x <;> try rfl
 rename_i cs
 simp only[]
 split <;> rfl
def lR(x i:T)(sz:Nat):Option T:=
 match asNat i,x with
 |some j,.sl cs len _=>if j<len∧(j+1)*sz≤cs.length then some (.vp (cs.drop (j*sz)))else none
 |some j,.isl sp k g off len r=>if j<len∧r=sz then some (.ptr sp k g (off+j*sz))else none
 |_,_=>none
theorem ayC{x i:iF}{sz:Nat}(r:d<n):dE E call n (⟨some d,.ia x i sz,none⟩::os) ⟨fr,lh,sh⟩=(lR (rd fr x) (rd fr i) sz).bind fun v=>dE E call n os ⟨kg fr d v,lh,sh⟩:=by
 refine lv (d:=some d) (by rfl) r ?_
 unfold one lR
 simp only[jk]
 cases D:asNat (rd fr i)with
 |none=>rfl
 |some j=>
  cases hx:rd fr x <;> try rfl
  ·simp only[Bool.and_eq_true,decide_eq_true_eq];split <;> rfl
  ·simp only[Bool.and_eq_true,decide_eq_true_eq];split <;> rfl
def kZ(x i:T)(len sz:Nat):Option T:=
 match asNat i,x with
 |some j,.vp cs=>if j<len∧(j+1)*sz≤cs.length then some (.vp (cs.drop (j*sz)))else none
 |some j,.ptr sp k g off=>if j<len then some (.ptr sp k g (off+j*sz))else none
 |_,_=>none
theorem arO{x i:iF}{len sz:Nat}(r:d<n):dE E call n (⟨some d,.iaA x i len sz,none⟩::os) ⟨fr,lh,sh⟩=(kZ (rd fr x) (rd fr i) len sz).bind fun v=>dE E call n os ⟨kg fr d v,lh,sh⟩:=by
 refine lv (d:=some d) (by rfl) r ?_
 unfold one kZ
 simp only[jk]
 cases D:asNat (rd fr i)with
 |none=>rfl
 |some j=>
  cases hx:rd fr x <;> try rfl
  ·simp only[Bool.and_eq_true,decide_eq_true_eq];split <;> rfl
  ·simp only[];split <;> rfl
def My(x r:T):Option T:=
 match asNat r,x with
 |some j,.s D=>D[j]?.map fun c=> .i .u8 c
 |_,_=>none
theorem arP{x i:iF}(r:d<n):dE E call n (⟨some d,.ixS x i,none⟩::os) ⟨fr,lh,sh⟩=(My (rd fr x) (rd fr i)).bind fun v=>dE E call n os ⟨kg fr d v,lh,sh⟩:=by
 refine lv (d:=some d) (by rfl) r ?_
 unfold one My
 simp only[jk]
 cases H:asNat (rd fr i)with
 |none=>rfl
 |some j=>
  cases hx:rd fr x <;> try rfl
  rename_i D
  simp only[]
  cases I:D[j]? <;> rfl
def aaS(x i:T)(len sz:Nat)(ag:Bool):Option T:=
 match asNat i,x with
 |some j,.agg cs=>if j<len then part cs (j*sz) sz ag else none
 |_,_=>none
theorem arQ{x i:iF}{len sz:Nat}{ag:Bool}(r:d<n):dE E call n (⟨some d,.ixA x i len sz ag,none⟩::os) ⟨fr,lh,sh⟩=(aaS (rd fr x) (rd fr i) len sz ag).bind fun v=>dE E call n os ⟨kg fr d v,lh,sh⟩:=by
 refine lv (d:=some d) (by rfl) r ?_
 unfold one aaS
 simp only[jk]
 cases D:asNat (rd fr i)with
 |none=>rfl
 |some j=>
  cases hx:rd fr x <;> try rfl
  simp only[]
  split
  ·exact po
  ·rfl
def aaT(x:T)(j:Nat):Option T:=match x with| .tup vs=>vs[j]? |_=>none
theorem arR{x:iF}{j:Nat}(i:d<n):dE E call n (⟨some d,.ext x j,none⟩::os) ⟨fr,lh,sh⟩=(aaT (rd fr x) j).bind fun v=>dE E call n os ⟨kg fr d v,lh,sh⟩:=by
 refine lv (d:=some d) (by rfl) i ?_
 unfold one aaT
 simp only[jk]
 cases hx:rd fr x <;> try rfl
 exact po
def ON(x:T):Option T:=match x with| .s bs=>some (.i .i64 bs.length)|_=>none
theorem ahR{x:iF}(i:d<n):dE E call n (⟨some d,.lenS x,none⟩::os) ⟨fr,lh,sh⟩=(ON (rd fr x)).bind fun v=>dE E call n os ⟨kg fr d v,lh,sh⟩:=by
 refine lv (d:=some d) (by rfl) i ?_
 unfold one ON
 simp only[jk]
 cases hx:rd fr x <;> rfl
theorem ahS{x:iF}(r:d<n):dE E call n (⟨some d,.lenV x,none⟩::os) ⟨fr,lh,sh⟩=((su (rd fr x)).map fun m=>T.i .i64 m).bind fun v=>dE E call n os ⟨kg fr d v,lh,sh⟩:=
 lv (d:=some d) (by rfl) r po
def mmV(i:Bool)(l:List T):Option T:=match l with|x::rest=>nD i x rest| []=>none
theorem ayD{i:Bool}{args:List iF}(D:d<n):dE E call n (⟨some d,.mm i args,none⟩::os) ⟨fr,lh,sh⟩=(mmV i (args.map (rd fr))).bind fun v=>dE E call n os ⟨kg fr d v,lh,sh⟩:=by
 refine lv (d:=some d) (by rfl) D ?_
 unfold one mmV
 simp only[jk]
 cases hx:args.map (rd fr)with
 |nil=>rfl
 |cons x r=>exact po
def Rf(x:T):Option T:=match x with| .vp cs=>some (.vp cs)| .ptr sp k g off=>some (.ptr sp k g off)| .fn f a c=>some (.fn f a c)|_=>none
theorem aaU{x:iF}:one fr lh sh d (.nck x)=(Rf (rd fr x)).map fun v=>(v,[]):=by
 unfold one Rf
 simp only[jk]
 cases hx:rd fr x <;> rfl
theorem arS{x:iF}(i:d<n):dE E call n (⟨some d,.nck x,none⟩::os) ⟨fr,lh,sh⟩=(Rf (rd fr x)).bind fun v=>dE E call n os ⟨kg fr d v,lh,sh⟩:=
 lv (d:=some d) (by rfl) i aaU
def ldE(e:b8)(g off m:Nat)(ag:Bool):Option T:=
 match e with
 |⟨i,.cells cs _ _⟩=>if i=g then part cs off m ag else none
 |_=>none
theorem Rg{g i off m wm:Nat}{ag bx:Bool}{cs:List T}:ldE ⟨i,.cells cs wm bx⟩ g off m ag=if i=g then part cs off m ag else none:=rfl
def ZC(lh:iw b8)(sh:List b8)(x:T)(m:Nat)(ag:Bool):Option T:=
 match x with
 | .vp cs=>part cs 0 m ag
 | .ptr .L k g off=>ldE (b7 lh k) g off m ag
 | .ptr .S k g off=>ldE (iz sh k) g off m ag
 |_=>none
theorem Vl{α:Type}{o:Option α}{h:Sp→Nat→b8}{i:Nat}:(Q.of o).run h i=o:=by cases o <;> rfl
theorem ldQ{h:Sp→Nat→b8}{r g off m:Nat}{ag:Bool}(e:b8):Q.run h r (if e.g=g then(match e.ob with| .cells cs _ _=>Q.of (part cs off m ag)|_=> .fail)else .fail)=ldE e g off m ag:=by
 obtain⟨D,ob⟩:=e
 unfold ldE
 by_cases i:D=g
 ·cases ob <;> simp only[i,if_true] <;> first|rfl|exact Vl
 ·cases ob <;> simp only[i,if_false] <;> rfl
theorem OO{x:T}{m:Nat}{ag:Bool}:(G9 x m ag).run (St.mk fr lh sh).get sh.length=ZC lh sh x m ag:=by
 unfold G9 ZC
 cases x <;> try rfl
 ·exact Vl
 ·rename_i sp k g off
  cases sp
  ·exact ldQ (b7 lh k)
  ·exact ldQ (iz sh k)
theorem jh{α β:Type}{h:Sp→Nat→b8}{i:Nat}{f:α→Q β}: ∀(q:Q α),(q.bind f).run h i=(q.run h i).bind fun a=>(f a).run h i
 | .ret a=>rfl
 | .fail=>rfl
 | .rd sp k g=>jh (g (h sp k))
 | .new g=>jh (g i)
theorem ayE{x:iF}{m:Nat}{ag:Bool}(i:d<n):dE E call n (⟨some d,.ld x m ag,none⟩::os) ⟨fr,lh,sh⟩=(ZC lh sh (rd fr x) m ag).bind fun v=>dE E call n os ⟨kg fr d v,lh,sh⟩:=by
 refine lv (d:=some d) (by rfl) i ?_
 unfold one
 simp only[jk,jh,OO]
 cases ZC lh sh (rd fr x) m ag <;> rfl
theorem aaV{z:List T}(i:d<n):dE E call n (⟨some d,.alloc z false,none⟩::os) ⟨fr,lh,sh⟩=dE E call n os ⟨kg fr d (.ptr .L d ((b7 lh d).g+1) 0),nG lh d ⟨(b7 lh d).g+1,.cells z 0 true⟩,sh⟩:=by
 rw[pG (by rfl) (show EZ n (some d)from i)];rfl
theorem arT{x:iF}(i:d<n)(r:noTup (rd fr x)=true):dE E call n (⟨some d,.box x false,none⟩::os) ⟨fr,lh,sh⟩=dE E call n os ⟨kg fr d (.ptr .L d ((b7 lh d).g+1) 0),nG lh d ⟨(b7 lh d).g+1,.cells (cellsOf (rd fr x)) 0 true⟩,sh⟩:=by
 rw[pG (by rfl) (show EZ n (some d)from i)]
 unfold one
 simp only[jk,r]
 rfl
theorem aaW(i:d<n):dE E call n (⟨some d,.mkmap false,none⟩::os) ⟨fr,lh,sh⟩=dE E call n os ⟨kg fr d (.mp .L d ((b7 lh d).g+1)),nG lh d ⟨(b7 lh d).g+1,.map [] [] false⟩,sh⟩:=by
 rw[pG (by rfl) (show EZ n (some d)from i)];rfl
def Mz(x:T)(bytes:Nat):Option Nat:=match asNat x with|some m=>if m*bytes≤roomy∧m≤roomy then some m else none|none=>none
theorem ahU{z:List T}{bytes:Nat}{x:iF}(i:d<n):dE E call n (⟨some d,.mksl z bytes x false,none⟩::os) ⟨fr,lh,sh⟩=
  (Mz (rd fr x) bytes).bind fun m=>dE E call n os ⟨kg fr d (.isl .L d ((b7 lh d).g+1) 0 m z.length),nG lh d ⟨(b7 lh d).g+1,.cells (repl z m) 0 (UD z)⟩,sh⟩:=by
 rw[pG (by rfl) (show EZ n (some d)from i)]
 unfold one Mz
 simp only[jk]
 cases asNat (rd fr x)with
 |none=>rfl
 |some m=>
  simp only[Bool.and_eq_true,decide_eq_true_eq]
  split <;> rfl
end
end Go.Ev
namespace Go.Ev
open Go
def froz1:T→Bool
 | .b _| .i .. | .s _| .nilsl| .sl .. | .nilptr| .vp _| .nilmp| .vm .. | .nilfn=>true
 |_=>false
def froz:T→Bool
 | .agg cs=>cs.all froz1
 | .tup cs=>cs.all froz1
 | .fn _ a c=>a.all froz1&&c.all froz1
 |t=>froz1 t
theorem pH{keep:Bool}{n:Nat}{t:T}(h:froz1 t=true):fz keep (n+1) t= .ret (t,[]):=by
 cases t <;> first|rfl|(simp[froz1]at h)
theorem nH{keep:Bool}{n:Nat}: ∀(ts:List T),ts.all froz1=true→ja (fz keep (n+1)) ts= .ret (ts,[])
 | [],_=>rfl
 |t::ts,h=>by
  simp_all[List.all_cons,Bool.and_eq_true,ja,pH,nH,Q.bind,List.append_nil]
theorem Hy{keep:Bool}{n:Nat}{cs:List T}:fz keep (n+1) (.agg cs)=(ja (fz keep n) cs).bind fun q=> .ret (.agg q.1,q.2):=rfl
theorem MA{keep:Bool}{n:Nat}{cs:List T}:fz keep (n+1) (.tup cs)=(ja (fz keep n) cs).bind fun q=> .ret (.tup q.1,q.2):=rfl
theorem Vm{keep:Bool}{n f:Nat}{a c:List T}:fz keep (n+1) (.fn f a c)=(ja (fz keep n) a).bind fun p=>(ja (fz keep n) c).bind fun q=> .ret (.fn f p.1 q.1,p.2++q.2):=rfl
theorem pq{keep:Bool}{n:Nat}{t:T}(h:froz t=true):fz keep (n+2) t= .ret (t,[]):=by
 cases t with
 |agg cs=>simp only[froz]at h;rw[Hy,nH cs h];rfl
 |tup cs=>simp only[froz]at h;rw[MA,nH cs h];rfl
 |fn f a c=>simp only[froz,Bool.and_eq_true]at h;rw[Vm,nH a h.1,nH c h.2];rfl
 |_=>exact pH h
def fzV(lh:iw b8)(sh:List b8)(keep:Bool)(v:T):Option (T×List Up):=(fz keep iG v).run (St.mk .nil lh sh).get sh.length
def B4(lh:iw b8)(sh:List b8)(keep:Bool)(i:List T):Option (List T×List Up):=(ja (fz keep iG) i).run (St.mk .nil lh sh).get sh.length
section
variable{lh:iw b8}{sh:List b8}{keep:Bool}
theorem sH{v:T}(h:froz v=true):fzV lh sh keep v=some (v,[]):=by
 unfold fzV iG;rw[pq h];rfl
theorem Cb:B4 lh sh keep []=some ([],[]):=rfl
theorem qN{v:T}{i:List T}:B4 lh sh keep (v::i)=(fzV lh sh keep v).bind fun p=>(B4 lh sh keep i).bind fun q=>some (p.1::q.1,p.2++q.2):=by
 unfold B4 fzV
 rw[ja,jh]
 congr 1
 funext p
 rw[jh]
 rfl
theorem yV{i:List T}(h:i.all froz=true):B4 lh sh keep i=some (i,[]):=by
 induction i with
 |nil=>rfl
 |cons v i ih=>
  simp_all[List.all_cons,Bool.and_eq_true,qN,sH]
def Rh(m:Nat)(lh:iw b8)(sh:List b8)(k:Nat)(e:b8)(g off len sz:Nat):Option (T×List Up):=
 match e with
 |⟨i,.cells cs _ false⟩=>if i=g∧off+len*sz≤cs.length then some (.sl ((cs.drop off).take (len*sz)) len false,[(.L,k,⟨g,.cells cs cs.length false⟩)])else none
 |⟨i,.cells cs _ true⟩=>if i=g∧off+len*sz≤cs.length then((ja (fz false m) ((cs.drop off).take (len*sz))).run (St.mk .nil lh sh).get sh.length).map fun q=>(.sl q.1 len false,q.2++ [(.L,k,⟨g,.cells cs cs.length true⟩)])else none
 |_=>none
theorem arU{m k g off len sz:Nat}(e:b8):Q.run (St.mk .nil lh sh).get sh.length (if e.g=g then(match e.ob with
        | .cells cs _ false=>if off+len*sz≤cs.length then .ret (T.sl ((cs.drop off).take (len*sz)) len false,[(Sp.L,k,(⟨g,.cells cs cs.length false⟩:b8))])else .fail
        | .cells cs _ true=>if off+len*sz≤cs.length then(ja (fz false m) ((cs.drop off).take (len*sz))).bind fun q=> .ret (T.sl q.1 len false,q.2++ [(Sp.L,k,(⟨g,.cells cs cs.length true⟩:b8))])else .fail
        |_=> .fail)else .fail)=Rh m lh sh k e g off len sz:=by
 obtain⟨D,ob⟩:=e
 unfold Rh
 by_cases i:D=g
 ·cases ob with
  |cells cs wm bx=>
   cases bx
   ·grind [Q.run]
   ·by_cases r:off+len*sz≤cs.length
    ·simp only[i,r,if_true,and_self,jh]
     cases (ja (fz false m) ((cs.drop off).take (len*sz))).run (St.mk .nil lh sh).get sh.length <;> rfl
    ·simp[i,r,Q.run]
  |_=>simp[i,Q.run]
 grind [Q.run]
theorem Hz{k g off len sz:Nat}:fzV lh sh keep (.isl .L k g off len sz)=Rh 7 lh sh k (b7 lh k) g off len sz:=by
 cases keep <;> exact arU (b7 lh k)
def mpV(k:Nat)(e:b8)(g:Nat):Option (T×List Up):=
 match e with
 |⟨r,.map ks i _⟩=>if r=g then some (.vm ks i,[(.L,k,⟨g,.map ks i true⟩)])else none
 |_=>none
theorem mpQ{h:Sp→Nat→b8}{r k g:Nat}(e:b8):Q.run h r (if e.g=g then(match e.ob with
        | .map ks i _=> .ret (T.vm ks i,[(Sp.L,k,(⟨g,.map ks i true⟩:b8))])
        |_=> .fail)else .fail)=mpV k e g:=by
 obtain⟨D,ob⟩:=e
 unfold mpV
 grind [Q.run]
theorem ahV{k g:Nat}:fzV lh sh keep (.mp .L k g)=mpV k (b7 lh k) g:=by
 cases keep <;> exact mpQ (b7 lh k)
theorem Ri{k g off:Nat}:fzV lh sh true (.ptr .S k g off)=some (.ptr .S k g off,[]):=rfl
theorem aaX{cs:List T}:fzV lh sh keep (.agg cs)=((ja (fz keep 7) cs).run (St.mk .nil lh sh).get sh.length).map fun q=>(.agg q.1,q.2):=by
 unfold fzV iG
 rw[Hy,jh]
 cases (ja (fz keep 7) cs).run (St.mk .nil lh sh).get sh.length <;> rfl
theorem aaY{cs:List T}:fzV lh sh keep (.tup cs)=((ja (fz keep 7) cs).run (St.mk .nil lh sh).get sh.length).map fun q=>(.tup q.1,q.2):=by
 unfold fzV iG
 rw[MA,jh]
 cases (ja (fz keep 7) cs).run (St.mk .nil lh sh).get sh.length <;> rfl
end
section
variable{E:Env}{call:pU}{n:Nat}{fr:Fr}{lh:iw b8}{sh:List b8}{os:List dy}{d:Nat}
theorem qO:(St.mk fr lh sh).get=(St.mk .nil lh sh).get:=by funext sp k;cases sp <;> rfl
theorem qw: ∀(us:List Up) (lh:iw b8) (sh:List b8),(St.mk fr lh sh).ups us={(St.mk .nil lh sh).ups us with fr:=fr}
 | [],lh,sh=>rfl
 |(.L,k,e)::us,lh,sh=>qw us (nG lh k e) sh
 |(.S,k,e)::us,lh,sh=>qw us lh (iH sh k e)
def stV(lh:iw b8)(sh:List b8)(x v:T)(m:Nat):Option (iw b8×List b8):=
 match(rV x v m).run (St.mk .nil lh sh).get sh.length with
 |some (.val _ us)=>some (((St.mk .nil lh sh).ups us).lh,((St.mk .nil lh sh).ups us).sh)
 |none=>none
theorem ayF{x v:iF}{m:Nat}:dE E call n (⟨none,.st x v m,none⟩::os) ⟨fr,lh,sh⟩=(stV lh sh (rd fr x) (rd fr v) m).bind fun r=>dE E call n os ⟨fr,r.1,r.2⟩:=by
 rw[pG (by rfl) (show EZ n none from trivial)]
 grind [one,stV,jk,qO,wa,qa,qw]
def Fv(lh:iw b8)(sh:List b8)(k:Nat)(e:b8)(g off:Nat)(v:T)(m:Nat):Option (iw b8×List b8):=
 match e with
 |⟨i,.cells cs wm true⟩=>if i=g∧(cellsOf v).length=m∧noTup v=true∧wm≤off∧off+m≤cs.length then some (nG lh k ⟨g,.cells (splice cs off (cellsOf v)) wm true⟩,sh)else none
 |⟨i,.cells cs wm false⟩=>if i=g∧(cellsOf v).length=m∧noTup v=true∧wm≤off∧off+m≤cs.length then
    (fzV lh sh false v).bind fun p=>if oM p.2 .L k=true∨noTup p.1=false∨(cellsOf p.1).length≠m then none else some (((St.mk .nil lh sh).ups (p.2++ [(.L,k,⟨g,.cells (splice cs off (cellsOf p.1)) wm false⟩)])).lh,((St.mk .nil lh sh).ups (p.2++ [(.L,k,⟨g,.cells (splice cs off (cellsOf p.1)) wm false⟩)])).sh)
  else none
 |_=>none
def nk(lh:iw b8)(sh:List b8):Option C9→Option (iw b8×List b8)
 |some (.val _ us)=>some (((St.mk .nil lh sh).ups us).lh,((St.mk .nil lh sh).ups us).sh)
 |none=>none
def aaZ(k g off m:Nat)(v:T)(e:b8):Q C9:=if e.g=g then match e.ob with
     | .cells cs wm bx=>if wm≤off&&off+m≤cs.length then
         (if bx&&Sp.L== .L then .ret (.val iT [(Sp.L,k,⟨g,.cells (splice cs off (cellsOf v)) wm bx⟩)])
         else(fz (bx&&Sp.L== .S) iG v).bind fun p=>if oM p.2 .L k|| !noTup p.1||(cellsOf p.1).length≠m then .fail else .ret (.val iT (p.2++ [(Sp.L,k,⟨g,.cells (splice cs off (cellsOf p.1)) wm bx⟩)])))
       else .fail
     |_=> .fail
    else .fail
theorem stQ{k g off m:Nat}{v:T}(e:b8)(D:(cellsOf v).length=m)(H:noTup v=true):nk lh sh (Q.run (St.mk .nil lh sh).get sh.length (aaZ k g off m v e))=Fv lh sh k e g off v m:=by
 obtain⟨I,ob⟩:=e
 unfold Fv aaZ
 by_cases J:I=g
 ·subst J
  cases ob with
  |none=>simp[Q.run,nk]
  |map ks K z=>simp[Q.run,nk]
  |cells cs wm bx=>
   by_cases i:wm≤off∧off+m≤cs.length
   ·cases bx with
    |true=>grind [Q.run,afr,Ca,nk]
    |false=>
     have r:(decide (wm≤off)&&decide (off+m≤cs.length))=true:=by simp[i.1,i.2]
     simp only[if_true,r,Bool.false_and,Bool.false_eq_true,if_false,jh]
     rw[if_pos (show True∧(cellsOf v).length=m∧noTup v=true∧wm≤off∧off+m≤cs.length from⟨trivial,D,H,i⟩)]
     show nk lh sh (Option.bind (fzV lh sh false v) _)=_
     cases N:fzV lh sh false v with
     |none=>rfl
     |some p=>
      simp only[Option.bind_some]
      by_cases O:(oM p.2 .L k=true∨noTup p.1=false∨(cellsOf p.1).length≠m)
      ·grind [Q.run,nk]
      simp_all[Bool.false_eq_true,Q.run,nk,Classical.byContradiction]
   grind [Bool.false_eq_true,Q.run,nk]
 grind [Q.run,nk]
theorem arW{k g off m:Nat}{v:T}:stV lh sh (.ptr .L k g off) v m=Fv lh sh k (b7 lh k) g off v m:=by
 by_cases i:(cellsOf v).length=m
 ·cases r:noTup v with
  |false=>
   unfold stV rV
   have:(decide ((cellsOf v).length≠m)|| !noTup v)=true:=by simp[r]
   simp only[this,if_true,Q.run]
   unfold Fv
   grind
  |true=>
   unfold stV rV
   have:(decide ((cellsOf v).length≠m)|| !noTup v)=false:=by simp[i,r]
   simp only[this,Bool.false_eq_true,if_false]
   exact stQ (b7 lh k) i r
 ·unfold stV rV
  have:(decide ((cellsOf v).length≠m)|| !noTup v)=true:=by simp[i]
  simp only[this,if_true,Q.run]
  unfold Fv
  grind
theorem aa0{k g i off m wm:Nat}{cs:List T}{v:T}:Fv lh sh k ⟨i,.cells cs wm true⟩ g off v m=if i=g∧(cellsOf v).length=m∧noTup v=true∧wm≤off∧off+m≤cs.length then some (nG lh k ⟨g,.cells (splice cs off (cellsOf v)) wm true⟩,sh)else none:=rfl
theorem aa1{k g i off m wm:Nat}{cs:List T}{v:T}(r:froz v=true):Fv lh sh k ⟨i,.cells cs wm false⟩ g off v m=if i=g∧(cellsOf v).length=m∧noTup v=true∧wm≤off∧off+m≤cs.length then some (nG lh k ⟨g,.cells (splice cs off (cellsOf v)) wm false⟩,sh)else none:=by
 unfold Fv
 simp only[sH r,Option.bind_some,oM,List.any_nil,Bool.false_eq_true,false_or]
 by_cases h:i=g∧(cellsOf v).length=m∧noTup v=true∧wm≤off∧off+m≤cs.length
 ·rw[if_pos h,if_pos h,if_neg (by rintro(hc|hc) <;> simp_all)]
  rfl
 ·grind
def slC(lh:iw b8)(sh:List b8)(sz:Nat)(x:T):Option (Nat×List T):=(jL sz x).run (St.mk .nil lh sh).get sh.length
theorem MB{sz len:Nat}{cs:List T}{ex:Bool}:slC lh sh sz (.sl cs len ex)=if cs.length=len*sz then some (len,cs)else none:=by
 unfold slC jL;simp only[];split <;> rfl
def Rj(lh:iw b8)(k:Nat)(e:b8)(g off len sz i bytes:Nat)(p:Nat×List T):Option (T×iw b8):=
 match e with
 |⟨r,.cells cs wm false⟩=>if i=sz∧off=0∧(len+p.1)*bytes≤roomy∧r=g∧len*sz=cs.length then some (.isl .L k (g+1) 0 (len+p.1) sz,nG lh k ⟨g+1,.cells (cs++p.2) wm false⟩)else none
 |_=>none
def MC(lh:iw b8)(d sz bytes:Nat)(s:T)(p:Nat×List T):Option (T×iw b8):=
 if p.1=0 then(match s with| .nilsl| .sl .. | .isl .. =>some (s,lh)|_=>none)else
 match s with
 | .nilsl=>if p.1*bytes≤roomy then some (.isl .L d ((b7 lh d).g+1) 0 p.1 sz,nG lh d ⟨(b7 lh d).g+1,.cells p.2 0 false⟩)else none
 | .sl cs len true=>if cs.length=len*sz∧(len+p.1)*bytes≤roomy then some (.isl .L d ((b7 lh d).g+1) 0 (len+p.1) sz,nG lh d ⟨(b7 lh d).g+1,.cells (cs++p.2) 0 false⟩)else none
 | .isl .L k g off len i=>Rj lh k (b7 lh k) g off len sz i bytes p
 |_=>none
def afs(k g off len sz i bytes:Nat)(p:Nat×List T)(e:b8):Q C9:=
     if e.g=g then match e.ob with
      | .cells cs wm false=>if len*sz=cs.length then .ret (.val (.isl .L k (g+1) 0 (len+p.1) sz) [(.L,k,⟨g+1,.cells (cs++p.2) wm false⟩)])else .fail
      |_=> .fail
     else .fail
theorem ayG{k g off len sz i bytes:Nat}{p:Nat×List T}(e:b8)(D:i=sz∧off=0∧(len+p.1)*bytes≤roomy):
  ((qa (Q.run (St.mk .nil lh sh).get sh.length (afs k g off len sz i bytes p e))).bind fun r=>dE E call n os {(St.mk fr lh sh).ups r.2 with fr:=kg fr d r.1})=
    (Rj lh k e g off len sz i bytes p).bind fun q=>dE E call n os ⟨kg fr d q.1,q.2,sh⟩:=by
 obtain⟨H,ob⟩:=e
 unfold afs Rj
 by_cases I:H=g
 ·cases ob with
  |cells cs wm bx=>
   cases bx
   ·by_cases J:len*sz=cs.length
    ·simp only[I,J,if_true,Q.run,qa,D,and_self,Option.bind_some]
     rfl
    ·grind [Q.run,qa]
   ·grind [Q.run,qa]
  |_=>grind [Q.run,qa]
 grind [Q.run,qa]
theorem arX{sz bytes:Nat}{s x:iF}(H:d<n)(hs: ∀k g off len sz,rd fr s≠ .isl .S k g off len sz):dE E call n (⟨some d,.app sz bytes s x false false,none⟩::os) ⟨fr,lh,sh⟩=
  (slC lh sh sz (rd fr x)).bind fun p=>(MC lh d sz bytes (rd fr s) p).bind fun q=>dE E call n os ⟨kg fr d q.1,q.2,sh⟩:=by
 rw[pG (by rfl) (show EZ n (some d)from H)]
 unfold one slC
 simp only[jk,qD,jh,qO]
 cases hx:(jL sz (rd fr x)).run (St.mk .nil lh sh).get sh.length with
 |none=>rfl
 |some p=>
  simp only[Option.bind_some]
  unfold MC
  by_cases D:p.1=0
  ·simp only[if_pos D]
   cases r:rd fr s <;> rfl
  ·simp only[if_neg D]
   cases r:rd fr s <;> try rfl
   ·simp only[]
    split <;> rfl
   ·rename_i cs len ex
    cases ex
    ·rfl
    ·simp only[Bool.and_eq_true,decide_eq_true_eq]
     split <;> rfl
   ·rename_i sp k g off len I
    cases sp
    ·simp only[Bool.and_eq_true,decide_eq_true_eq]
     by_cases i:(I=sz∧off=0)∧(len+p.1)*bytes≤roomy
     ·simp only[if_pos i]
      exact ayG (b7 lh k) ⟨i.1.1,i.1.2,i.2⟩
     ·simp only[if_neg i,Q.run,qa]
      unfold Rj
      grind
    ·grind
def HA(sz:Nat)(x:T)(l h:Nat):Option T:=
 match x with
 | .nilsl=>if l=0∧h=0 then some .nilsl else none
 | .sl cs len ex=>if l≤h∧h≤len∧cs.length=len*sz then some (.sl ((cs.drop (l*sz)).take ((h-l)*sz)) (h-l) (ex&&decide (h=len)))else none
 | .isl sp k g off len i=>if l≤h∧h≤len∧i=sz then some (if l=h then(if sp= .S∧h=0∧off=0 then .isl sp k g 0 0 sz else .sl [] 0 false)else .isl sp k g (off+l*sz) (h-l) sz)else none
 |_=>none
def aa2(fr:Fr)(sz:Nat)(x:T)(l h:Option iF):Option T:=
 (su x).bind fun m=>(kN (rd fr) 0 l).bind fun l=>(kN (rd fr) m h).bind fun h=>HA sz x l h
theorem Rk{sz l h i:Nat}{x:T}{r:Sp→Nat→b8}:(Bh sz x l h).run r i=HA sz x l h:=by
 unfold Bh HA
 cases x <;> try rfl
 ·simp only[Bool.and_eq_true,decide_eq_true_eq];split <;> rfl
 ·simp only[Bool.and_eq_true,decide_eq_true_eq,and_assoc];split <;> rfl
 ·simp only[Bool.and_eq_true,decide_eq_true_eq,and_assoc];split <;> rfl
theorem arY{sz:Nat}{x:iF}{l h:Option iF}(i:d<n):dE E call n (⟨some d,.slV sz x l h none,none⟩::os) ⟨fr,lh,sh⟩=(aa2 fr sz (rd fr x) l h).bind fun v=>dE E call n os ⟨kg fr d v,lh,sh⟩:=by
 refine lv (d:=some d) (by rfl) i ?_
 unfold one aa2
 simp only[jk]
 cases su (rd fr x)with
 |none=>rfl
 |some m=>
  simp only[Option.bind_some]
  cases kN (rd fr) 0 l with
  |none=>rfl
  |some l=>
   cases kN (rd fr) m h with
   |none=>rfl
   |some h=>
    simp only[jh,Rk,Option.bind_some]
    cases HA sz (rd fr x) l h <;> rfl
def lkE(e:b8)(g:Nat)(ek:EK)(k z:T)(i:Bool):Option T:=
 match e with
 |⟨r,.map ks D _⟩=>if r=g then nz ek ks D k z i else none
 |_=>none
def lkV(lh:iw b8)(sh:List b8)(ek:EK)(m k z:T)(i:Bool):Option T:=
 match m with
 | .nilmp=>if isKey ek k=true then some (if i=true then .tup [z,.b false]else z)else none
 | .vm ks r=>nz ek ks r k z i
 | .mp .L kk g=>lkE (b7 lh kk) g ek k z i
 | .mp .S kk g=>lkE (iz sh kk) g ek k z i
 |_=>none
theorem lkQ{h:Sp→Nat→b8}{D g:Nat}{ek:EK}{k z:T}{i:Bool}(e:b8):qa (Q.run h D (if e.g=g then(match e.ob with| .map ks vs _=>val (nz ek ks vs k z i)|_=> .fail)else .fail))=(lkE e g ek k z i).map fun v=>(v,[]):=by
 obtain⟨H,ob⟩:=e
 unfold lkE
 by_cases r:H=g
 ·cases ob <;> simp only[r,if_true] <;> first|rfl|exact po
 ·cases ob <;> simp only[r,if_false] <;> rfl
theorem ayH{ek:EK}{m k:iF}{z:T}{i:Bool}(r:d<n):dE E call n (⟨some d,.lk ek m k z i,none⟩::os) ⟨fr,lh,sh⟩=(lkV lh sh ek (rd fr m) (rd fr k) z i).bind fun v=>dE E call n os ⟨kg fr d v,lh,sh⟩:=by
 refine lv (d:=some d) (by rfl) r ?_
 unfold one lkV
 simp only[jk]
 cases D:rd fr m <;> try rfl
 ·simp only[];split <;> rfl
 ·exact po
 ·rename_i sp kk g
  cases sp
  ·exact lkQ (b7 lh kk)
  ·exact lkQ (iz sh kk)
def muE(lh:iw b8)(kk:Nat)(e:b8)(g:Nat)(ek:EK)(k v:T):Option (iw b8):=
 match e with
 |⟨i,.map ks r false⟩=>if i=g∧isKey ek k=true then(qE ek k v ks r).map fun q=>nG lh kk ⟨g,.map q.1 q.2 false⟩else none
 |_=>none
def aa3(kk g:Nat)(ek:EK)(k v:T)(e:b8):Q C9:=if e.g=g&&isKey ek k then match e.ob with
      | .map ks i false=>(fz false iG v).bind fun p=>match qE ek k p.1 ks i with
        |some q=>if oM p.2 .L kk then .fail else .ret (.val iT (p.2++ [(.L,kk,⟨g,.map q.1 q.2 false⟩)]))
        |none=> .fail
      |_=> .fail
     else .fail
theorem muQ{kk g:Nat}{ek:EK}{k v:T}(e:b8)(H:froz v=true):((qa (Q.run (St.mk fr lh sh).get sh.length (aa3 kk g ek k v e))).bind fun r=>dE E call n os {(St.mk fr lh sh).ups r.2 with fr:=fr})=
  (muE lh kk e g ek k v).bind fun I=>dE E call n os ⟨fr,I,sh⟩:=by
 obtain⟨D,ob⟩:=e
 unfold aa3 muE
 by_cases i:D=g∧isKey ek k=true
 ·have:(decide (D=g)&&isKey ek k)=true:=by simp[i.1,i.2]
  simp only[this,if_true]
  cases ob with
  |none=>rfl
  |cells cs wm bx=>rfl
  |map ks J z=>
   cases z with
   |true=>rfl
   |false=>
    simp only[if_pos i]
    unfold iG
    rw[pq H]
    simp only[Q.bind]
    cases qE ek k v ks J with
    |none=>rfl
    |some q=>simp only[oM,List.any_nil,Bool.false_eq_true,if_false,Q.run,List.nil_append];rfl
 grind [Bool.false_eq_true,Q.run,qa]
theorem arZ{ek:EK}{m k v:iF}{kk g:Nat}(i:rd fr m= .mp .L kk g)(r:froz (rd fr v)=true):dE E call n (⟨none,.mu ek m k v,none⟩::os) ⟨fr,lh,sh⟩=(muE lh kk (b7 lh kk) g ek (rd fr k) (rd fr v)).bind fun D=>dE E call n os ⟨fr,D,sh⟩:=by
 rw[pG (by rfl) (show EZ n none from trivial)]
 unfold one
 simp only[jk,i]
 exact muQ (b7 lh kk) r
def muV(lh:iw b8)(ek:EK)(m k v:T):Option (iw b8):=
 match m with
 | .mp .L kk g=>muE lh kk (b7 lh kk) g ek k v
 |_=>none
theorem ayI{ek:EK}{m k v:iF}(D: ∀kk g,rd fr m≠ .mp .S kk g)(i:froz (rd fr v)=true):dE E call n (⟨none,.mu ek m k v,none⟩::os) ⟨fr,lh,sh⟩=(muV lh ek (rd fr m) (rd fr k) (rd fr v)).bind fun r=>dE E call n os ⟨fr,r,sh⟩:=by
 cases h:rd fr m with
 |mp sp kk g=>
  cases sp with
  |L=>rw[arZ h i];rfl
  |S=>grind
 |_=>
  rw[pG (by rfl) (show EZ n none from trivial)]
  unfold one
  simp only[jk,h]
  rfl
def Rm(z:List T)(len:Nat)(D:List Nat)(r:List T):Option T:=
 if(r.all fun v=>(cellsOf v).length=z.length&&noTup v)=true then(p5 (repl z len) ((D.map fun i=>i*z.length).zip (r.map cellsOf))).map fun cs=> .sl cs len true else none
theorem ar0{z:List T}{len:Nat}{r:List (Nat×iF)}(D:d<n):dE E call n (⟨some d,.bsl z len r,none⟩::os) ⟨fr,lh,sh⟩=
  (B4 lh sh false (r.map fun p=>rd fr p.2)).bind fun q=>(Rm z len (r.map (·.1)) q.1).bind fun v=>dE E call n os {(St.mk fr lh sh).ups q.2 with fr:=kg fr d v}:=by
 rw[pG (by rfl) (show EZ n (some d)from D)]
 unfold one B4 Rm
 simp only[jk,jh,qO]
 cases (ja (fz false iG) (r.map fun p=>rd fr p.2)).run (St.mk .nil lh sh).get sh.length with
 |none=>rfl
 |some q=>
  simp only[Option.bind_some]
  have e:(r.map (·.1)).map (fun i=>i*z.length)=r.map fun p=>p.1*z.length:=by rw[List.map_map];rfl
  rw[e]
  split
  ·cases p5 (repl z len) ((r.map fun p=>p.1*z.length).zip (q.1.map cellsOf)) <;> rfl
  ·rfl
theorem Vn{d:Option Nat}{op:mA}{f:Nat}{args:List T}(hc:jr (rd fr) op=some (some (f,args)))(i:EZ n d):
  dE E call n (⟨d,op,none⟩::os) ⟨fr,lh,sh⟩=(jf E call (d.getD 0) ⟨fr,lh,sh⟩ f args).bind fun r=>dE E call n os ⟨wa fr d r.1,r.2.lh,r.2.sh⟩:=by
 simp only[dE,jd,lj,hc]
 cases jf E call (d.getD 0) ⟨fr,lh,sh⟩ f args with
 |none=>rfl
 |some r=>
  simp only[Option.bind_some]
  cases d with
  |none=>rfl
  |some d=>simp only[na,if_pos (show d<n from i),wa,Option.map_some]
theorem ahW{f:Nat}{as:List iF}(i:d<n):dE E call n (⟨some d,.callf f as,none⟩::os) ⟨fr,lh,sh⟩=(jf E call d ⟨fr,lh,sh⟩ f (as.map (rd fr))).bind fun r=>dE E call n os ⟨kg fr d r.1,r.2.lh,r.2.sh⟩:=
 Vn (d:=some d) rfl i
def yW(E:Env)(call:pU)(d:Nat)(st:St)(f:T)(args:List T):Option (T×St):=
 match f with
 | .fn f a c=>jf E call d st f (a++args++c)
 |_=>none
theorem aa4{f:iF}{as:List iF}(i:d<n):dE E call n (⟨some d,.callv f as,none⟩::os) ⟨fr,lh,sh⟩=(yW E call d ⟨fr,lh,sh⟩ (rd fr f) (as.map (rd fr))).bind fun r=>dE E call n os ⟨kg fr d r.1,r.2.lh,r.2.sh⟩:=by
 unfold yW
 cases D:rd fr f with
 |fn H a c=>exact Vn (d:=some d) (by simp only[jr,D]) i
 |_=>simp_all[dE,jd,lj,jr]
theorem JE{i:Nat}{af:ij}{f:Nat}{args:List T}(D:E.fn f=some af)(H:af.eff=false)(I:af.own=none):jf E call i ⟨fr,lh,sh⟩ f args=
  (B4 lh sh false args).bind fun q=>(call f q.1 []).bind fun r=>some (r.1,if scalar r.1=true then⟨fr,lh,sh⟩else(St.mk fr lh sh).ups q.2):=by
 grind [jf,B4,qO,Bool.false_eq_true]
theorem JD{i:Nat}{af:ij}{f:Nat}{args:List T}(D:E.fn f=some af)(H:af.eff=false)(I:af.own=none)(J:args.all froz=true):jf E call i ⟨fr,lh,sh⟩ f args=
  (call f args []).bind fun r=>some (r.1,⟨fr,lh,sh⟩):=by
 grind [JE,yV,Ca]
theorem Vo{i:Nat}{af:ij}{f j:Nat}{args:List T}(D:E.fn f=some af)(H:af.eff=false)(I:af.own=some j):jf E call i ⟨fr,lh,sh⟩ f args=
  (B4 lh sh false args).bind fun q=>(call f q.1 []).bind fun r=>xb i j r.1 ⟨fr,lh,sh⟩ q.2:=by
 grind [jf,B4,qO,Bool.false_eq_true]
theorem Uf{i:Nat}{af:ij}{f:Nat}{args:List T}(D:E.fn f=some af)(H:af.eff=true):jf E call i ⟨fr,lh,sh⟩ f args=
  (B4 lh sh true args).bind fun q=>(call f q.1 ((St.mk fr lh sh).ups q.2).sh).bind fun r=>some (r.1,{(St.mk fr lh sh).ups q.2 with sh:=r.2}):=by
 unfold jf B4
 simp only[D,H,qO]
 cases (ja (fz true iG) args).run (St.mk .nil lh sh).get sh.length with
 |none=>rfl
 |some q=>
  simp only[if_true,Option.bind_some]
  cases call f q.1 ((St.mk fr lh sh).ups q.2).sh <;> rfl
theorem Vp{i:Nat}{g:List T→Option T}{f:Nat}{args:List T}(D:E.fn f=none)(H:E.ext f=some g):jf E call i ⟨fr,lh,sh⟩ f args=
  (B4 lh sh false args).bind fun q=>(g q.1).bind fun r=>some (r,⟨fr,lh,sh⟩):=by
 unfold jf B4
 simp only[D,H,qO]
 cases (ja (fz false iG) args).run (St.mk .nil lh sh).get sh.length with
 |none=>rfl
 |some q=>
  simp only[Option.bind_some]
  cases g q.1 <;> rfl
theorem Vq{d:Option Nat}{op:mA}{j:Nat}{w:Bool}(h:an fr j= .b w):dE E call n (⟨d,op,some (j,w)⟩::os) ⟨fr,lh,sh⟩=dE E call n (⟨d,op,none⟩::os) ⟨fr,lh,sh⟩:=by
 grind [dE,jd]
theorem MD{d:Option Nat}{op:mA}{j:Nat}{w:Bool}(i:EZ n d)(h:an fr j= .b (!w)):dE E call n (⟨d,op,some (j,w)⟩::os) ⟨fr,lh,sh⟩=dE E call n os ⟨wa fr d iT,lh,sh⟩:=by
 simp only[dE,jd,h]
 rw[if_neg (by cases w <;> simp)]
 cases d with
 |none=>rfl
 |some d=>simp only[na,if_pos (show d<n from i),wa,Option.map_some]
theorem OP{d:Option Nat}{op:mA}{j:Nat}{w:Bool}(i:EZ n d)(h:an fr j=iT):dE E call n (⟨d,op,some (j,w)⟩::os) ⟨fr,lh,sh⟩=dE E call n os ⟨wa fr d iT,lh,sh⟩:=by
 simp only[dE,jd,h,iT]
 cases d with
 |none=>rfl
 |some d=>simp only[na,if_pos (show d<n from i),wa,Option.map_some]
theorem ar1{jJ:List FP}{st:St}:iN E call n [] jJ st=some st:=rfl
end
section
variable{E:Env}{n:Nat}{fr:Fr}{lh:iw b8}{sh:List b8}
def afu(t:T)(x y:Option (Out×St)):Option (Out×St):=match t with| .b c=>if c=true then x else y|_=>none
theorem Vr{c:iF}{a b:fx}:DC E n (.cond c a b) ⟨fr,lh,sh⟩=afu (rd fr c) (DC E n a ⟨fr,lh,sh⟩) (DC E n b ⟨fr,lh,sh⟩):=by
 rw[aaN,lj]
 unfold afu
 grind
theorem andThen_ite{c:Prop}[Decidable c]{x y:Option (Out×St)}{f:St→Option (Out×St)}:andThen (if c then x else y) f=if c then andThen x f else andThen y f:=by split <;> rfl
theorem Rn{c:Prop}[Decidable c]{id:Nat}{x y:Option (Out×St)}:Bx id (if c then x else y)=if c then Bx id x else Bx id y:=by split <;> rfl
theorem aa5{α β:Type}{c:Prop}[Decidable c]{x y:Option α}{f:α→β}:(if c then x else y).map f=if c then x.map f else y.map f:=by split <;> rfl
theorem Vt{α β:Type}{c:Prop}[Decidable c]{x y:Option α}{f:α→Option β}:(if c then x else y).bind f=if c then x.bind f else y.bind f:=by split <;> rfl
def AF(fr:Fr)(lh:iw b8)(sh:List b8):List qe→Option (List T)
 | []=>some []
 | .tmp t::rs=>(AF fr lh sh rs).map fun i=>an fr t::i
 | .cell t m ag::rs=>(ZC lh sh (an fr t) m ag).bind fun v=>(AF fr lh sh rs).map fun i=>v::i
theorem sI: ∀rs,nE ⟨fr,lh,sh⟩ rs=AF fr lh sh rs
 | []=>rfl
 | .tmp t::rs=>by
   rw[nE,AF,sI rs]
   simp only[JM]
   cases AF fr lh sh rs <;> rfl
 | .cell t m ag::rs=>by
   rw[nE,AF,sI rs]
   simp only[JM,OO]
   cases ZC lh sh (an fr t) m ag <;> cases AF fr lh sh rs <;> rfl
def Ro(lh:iw b8)(sh:List b8)(i:Bool)(vs:List T):Option (T×List b8):=
 (fzV lh sh i (match vs with| [v]=>v|vs=> .tup vs)).map fun p=>(p.1,((St.mk .nil lh sh).ups p.2).sh)
theorem AG{i:Bool}{r:List T}:answer i r ⟨fr,lh,sh⟩=Ro lh sh i r:=by
 unfold answer Ro fzV
 grind [qO,qw]
end
theorem AH{fr i:Fr}{n:Nat}{d:Option Nat}{v:T}(h:na fr n d v=some i){s:Nat}(hs:some s≠d):an i s=an fr s:=by
 cases d with
 |none=>grind [na]
 |some d=>
  grind [na,Vj]
theorem By{E:Env}{call:pU}{n:Nat}{o:dy}{st D:St}(h:jd E call n o st=some D){s:Nat}(hs:some s≠o.d):an D.fr s=an st.fr s:=by
 have J: ∀D,(match jr st.rho o.op with
  |some (some I)=>match jf E call (o.d.getD 0) st I.1 I.2 with
   |some r=>(na st.fr n o.d r.1).map fun fr=>{r.2 with fr}
   |none=>none
  |some none=>none
  |none=>match(jk (o.d.getD 0) st.rho o.op).run st.get st.sh.length with
   |some (.val v ups)=>(na st.fr n o.d v).map fun fr=>{st.ups ups with fr}
   |none=>none)=some D→an D.fr s=an st.fr s:=by
  intro D i
  split at i
  ·split at i
   ·simp only[Option.map_eq_some_iff]at i
    obtain⟨fr,H,rfl⟩:=i
    exact AH H hs
   ·cases i
  ·cases i
  ·split at i
   ·simp only[Option.map_eq_some_iff]at i
    obtain⟨fr,H,rfl⟩:=i
    exact AH H hs
   ·cases i
 grind [jd,Option.map_eq_some_iff,AH]
theorem tB{E:Env}{call:pU}{n:Nat}: ∀(os:List dy) {st i:St},dE E call n os st=some i→ ∀s,s∉At os→an i.fr s=an st.fr s
 | [],st,i,h,s,_=>by cases h;rfl
 |o::os,st,i,h,s,hs=>by
  simp only[dE]at h
  cases D:jd E call n o st with
  |none=>grind
  |some K=>
   simp only[D]at h
   have H:s∉At os:=fun r=>hs (by
    unfold At at r ⊢
    rw[List.filterMap_cons]
    split
    ·exact r
    ·exact List.mem_cons_of_mem _ r)
   have I:some s≠o.d:=fun J=>hs (by
    unfold At
    rw[List.filterMap_cons]
    rw[←J]
    exact List.mem_cons_self)
   rw[tB os h s H,By D I]
theorem Bz{E:Env}{call:pU}{n:Nat}: ∀(os:List (List Nat×dy)) {jJ:List FP} {st i:St},iN E call n os jJ st=some i→ ∀s,s∉At (os.map (·.2))→an i.fr s=an st.fr s
 | [],jJ,st,i,h,s,_=>by cases h;rfl
 |(u,o)::os,jJ,st,i,h,s,hs=>by
  simp only[iN]at h
  split at h
  ·cases h
  ·split at h
   ·cases D:jd E call n o st with
    |none=>grind
    |some K=>
     simp only[D]at h
     have H:s∉At (os.map (·.2)):=fun r=>hs (by
      unfold At at r ⊢
      rw[List.map_cons,List.filterMap_cons]
      split
      ·exact r
      ·exact List.mem_cons_of_mem _ r)
     have I:some s≠o.d:=fun J=>hs (by
      unfold At
      rw[List.map_cons,List.filterMap_cons]
      rw[←J]
      exact List.mem_cons_self)
     rw[Bz os h s H,By D I]
   ·cases h
theorem Gq{f:St→Option (Out×St)}{s:Nat}(i: ∀st r,f st=some r→an r.2.fr s=an st.fr s): ∀(k:Nat) {st:St} {r:Out×St},iter f k st=some r→an r.2.fr s=an st.fr s
 |0,st,r,h=>by simp[iter]at h
 |k+1,st,r,h=>by
  simp only[iter]at h
  cases D:f st with
  |none=>grind
  |some p=>
   rw[D]at h
   obtain⟨o,I⟩:=p
   have H:=i _ _ D
   cases o with
   |nrm=>rw[Gq i k h];exact H
   |ext id=>grind
   |ret=>grind
theorem aa6{ks:List Nat}{t u:St}{k:Nat}(h:k∉ks):an (sw ks t u).fr k=an t.fr k:=by
 show an (yo ks t.fr) k=_
 rw[sF,if_neg h]
theorem pI{E:Env}{call:pU}{fl n:Nat}: ∀(code:fx) {st:St} {r:Out×St},mL E call fl n code st=some r→ ∀s,s∉j3 code→an r.2.fr s=an st.fr s
 | .skip,st,r,h,s,_=>by cases h;rfl
 | .region ops,st,r,h,s,hs=>by
   simp only[mL,Option.map_eq_some_iff]at h
   obtain⟨a,i,rfl⟩:=h
   exact tB ops i s hs
 | .draws ops,st,r,h,s,hs=>by
   simp only[mL,Option.map_eq_some_iff]at h
   obtain⟨a,i,rfl⟩:=h
   exact Bz ops i s hs
 | .seq a b,st,r,h,s,hs=>by
   simp only[j3,List.mem_append,not_or]at hs
   simp only[mL]at h
   cases D:mL E call fl n a st with
   |none=>grind
   |some p=>
    rw[D]at h
    obtain⟨o,I⟩:=p
    have i:=pI a D s hs.1
    cases o with
    |nrm=>rw[pI b h s hs.2];exact i
    |ext id=>grind
    |ret=>grind
 | .fork os EY b,st,r,h,s,hs=>by
   simp only[mL]at h
   cases i:dE E call n os st with
   |none=>grind
   |some I=>
    cases J:dE E call n EY st with
    |none=>grind
    |some O=>
     rw[i,J]at h
     simp only[]at h
     obtain⟨o,U⟩:=r
     obtain⟨V,W,K,X,Y,rfl⟩:=xi h
     have H:s∉At os++j3 b:=hs
     rw[aa6 H]
     simp only[List.mem_append,not_or]at H
     rw[pI b K s H.2]
     grind [tB]
 | .cond x a b,st,r,h,s,hs=>by
   simp only[j3,List.mem_append,not_or]at hs
   simp only[mL]at h
   split at h
   ·exact pI a h s hs.1
   ·exact pI b h s hs.2
   ·cases h
 | .block id a,st,r,h,s,hs=>by
   simp only[mL]at h
   cases D:mL E call fl n a st with
   |none=>grind
   |some p=>
    rw[D]at h
    obtain⟨o,I⟩:=p
    have i:=pI a D s hs
    grind
 | .loop a,st,r,h,s,hs=>by
   simp only[mL]at h
   exact Gq (fun st r N=>pI a N s hs) fl h
 | .exit id,st,r,h,s,_=>by cases h;rfl
 | .ret,st,r,h,s,_=>by cases h;rfl
theorem lP{E:Env}{n:Nat}{code:fx}{st i:St}{o:Out}(h:DC E n code st=some (o,i))(s:Nat)(hs:(j3 code).contains s=false):an i.fr s=an st.fr s:=by
 obtain⟨m,r⟩:=kD.1 h
 exact pI code r s (by intro hc;simp[hc]at hs)
end Go.Ev
namespace Go.Ev
open Go
def Q.calm:Q C9→Prop
 | .ret (.val _ i)=>i= []
 | .fail=>True
 | .rd _ _ f=> ∀e,(f e).calm
 | .new _=>False
theorem Q.calm_run{h:Sp→Nat→b8}{r:Nat}: ∀(q:Q C9),q.calm→ ∀{v:T} {i:List Up},q.run h r=some (.val v i)→i= []∧q.asks h r=false
 | .ret (.val _ _),hc,v,i,hr=>by simp[Q.run]at hr;obtain⟨rfl,rfl⟩:=hr;exact⟨hc,rfl⟩
 | .fail,hc,v,i,hr=>by simp[Q.run]at hr
 | .rd sp k f,hc,v,i,hr=>Q.calm_run (f (h sp k)) (hc _) hr
 | .new f,hc,v,i,hr=>hc.elim
theorem nl{o:Option T}:(val o).calm:=by cases o <;> simp[val,Q.calm]
def lM:mA→Bool
 | .mv _| .pick .. | .bin .. | .eq .. | .un .. | .cvi .. | .b2s _| .mkfn .. | .build .. | .slS .. | .fa .. | .fld .. | .ia .. | .iaA .. | .ixS .. | .ixA .. | .ext .. | .lenS _| .lenV _| .lenC _| .mm .. | .nck _| .ld .. | .lk .. | .lenM _=>true
 | .slV _ _ _ _ none=>true
 |_=>false
theorem HC{d:Nat}{ρ:iF→T}{op:mA}(h:lM op=true):(jk d ρ op).calm∧jr ρ op=none:=by
 refine⟨?_,by cases op <;> first|rfl|(simp[lM]at h)⟩
 cases op with
 |mv x=>exact rfl
 |pick c a b=>grind [jk,Q.calm]
 |bin op x y=>exact nl
 |eq neg k x y=>exact nl
 |un op x=>exact nl
 |cvi k x=>grind [jk,Q.calm]
 |b2s x=>simp only[jk];repeat' split
         all_goals trivial
 |mkfn f a c=>exact rfl
 |build z H=>
  simp only[jk]
  by_cases I:(H.all fun p=>decide ((cellsOf (ρ p.2.2)).length=p.2.1)&&noTup (ρ p.2.2))=true
  ·grind [nl]
  ·rw[if_neg I];trivial
 |slS x l h=>
  grind [jk,Q.calm]
 |fa x off=>
  grind [jk,Q.calm]
 |fld x off m ag=>
  simp only[jk]
  split
  ·exact nl
  ·trivial
 |ia x r sz=>
  grind [jk,Q.calm]
 |iaA x r len sz=>
  grind [jk,Q.calm]
 |ixS x r=>
  grind [jk,Q.calm]
 |ixA x r len sz ag=>
  simp only[jk]
  split
  ·split
   ·exact nl
   ·trivial
  ·trivial
 |ext x j=>
  simp only[jk]
  split
  ·exact nl
  ·trivial
 |lenS x=>grind [jk,Q.calm]
 |lenV x=>exact nl
 |lenC m=>exact rfl
 |mm b as=>
  simp only[jk]
  split
  ·exact nl
  ·trivial
 |nck x=>grind [jk,Q.calm]
 |ld x m ag=>
  simp only[jk,G9]
  split
  ·rename_i cs _
   cases part cs 0 m ag <;> simp[Q.of,Q.bind,Q.calm]
  ·rename_i g off _
   intro e
   obtain⟨D,ob⟩:=e
   by_cases i:D=g
   ·cases ob with
    |cells cs wm bx=>
     simp only[i,if_true]
     generalize part cs _ m ag=o
     cases o <;> simp[Q.of,Q.bind,Q.calm]
    |_=>simp only[i,if_true];trivial
   ·simp only[i,if_false];trivial
  ·trivial
 |lk ek m k z K=>
  grind [jk,Q.calm,nl]
 |lenM x=>
  simp only[jk]
  split
  ·exact rfl
  ·exact rfl
  ·rename_i g _
   intro e
   obtain⟨D,ob⟩:=e
   by_cases i:D=g
   ·cases ob with
    |map ks N z=>simp only[i,if_true];exact rfl
    |_=>simp only[i,if_true];trivial
   ·simp only[i,if_false];trivial
  ·trivial
 |slV sz x l h J=>
  cases J with
  |some m=>simp[lM]at h
  |none=>
   simp only[jk]
   split
   ·trivial
   ·split
    ·rename_i O U _ _ _
     unfold Bh
     grind [Q.bind,Q.calm]
    ·grind
    ·trivial
 |_=>simp[lM]at h
def Calm(fp:FP):Prop:=fp.all=false∧fp.w= []
theorem ME{x y:FP}(hx:Calm x)(i:Calm y):apart x y=true:=by
 obtain⟨a,r,w⟩:=x
 obtain⟨D,H,w'⟩:=y
 obtain⟨rfl,rfl⟩:=hx
 obtain⟨rfl,rfl⟩:=i
 simp[apart,mh]
section
variable{E:Env}{call:pU}{n:Nat}
theorem aa7{o:dy}{st D:St}(hc:lM o.op=true)(hr:jd E call n o st=some D): ∃fp,jT E call o st=some fp∧Calm fp:=by
 obtain⟨I,J⟩:=HC (d:=o.d.getD 0) (ρ:=st.rho) hc
 have K: ∀D,(match(jk (o.d.getD 0) st.rho o.op).run st.get st.sh.length with
   |some (.val v ups)=>(na st.fr n o.d v).map fun fr=>{st.ups ups with fr}
   |none=>none)=some D→ ∃fp,(match(jk (o.d.getD 0) st.rho o.op).run st.get st.sh.length with
   |some (.val _ ups)=>if((jk (o.d.getD 0) st.rho o.op).asks st.get st.sh.length||inB st ups)=true then some (⟨(jk (o.d.getD 0) st.rho o.op).asks st.get st.sh.length,(jk (o.d.getD 0) st.rho o.op).log st.get st.sh.length,ki ups⟩:FP)else none
   |none=>none)=some fp∧Calm fp:=by
  intro D h
  cases H:(jk (o.d.getD 0) st.rho o.op).run st.get st.sh.length with
  |none=>rw[H]at h;cases h
  |some r=>
   obtain⟨v,ups⟩:=r
   obtain⟨rfl,N⟩:=Q.calm_run _ I H
   refine⟨⟨false,(jk (o.d.getD 0) st.rho o.op).log st.get st.sh.length,[]⟩, ?_,rfl,rfl⟩
   simp only[N,inB,List.all_nil,Bool.or_true,if_true,ki,List.map_nil]
 unfold jd at hr
 unfold jT
 simp only[J]at hr ⊢
 cases O:o.gd with
 |none=>grind
 |some p=>
  obtain⟨j,i⟩:=p
  simp only[O]at hr ⊢
  split at hr
  ·rename_i x hx
   simp only[hx]
   by_cases U:x=i
   ·grind
   ·rw[if_neg U];exact⟨qf,rfl,rfl,rfl⟩
  ·cases hr
  ·split
   ·grind
   ·exact⟨qf,rfl,rfl,rfl⟩
theorem Gr: ∀(ds:List (List Nat×dy)) (jJ:List FP) (st:St),(ds.all fun p=>lM p.2.op&&p.1.all fun i=>decide (i<jJ.length+ds.length))=true→(∀fp∈jJ,Calm fp)→
  (∀(k:Nat) (u:List Nat) (o:dy),ds[k]? =some (u,o)→ ∀i∈u,i<jJ.length+k)→
  iN E call n ds jJ st=dE E call n (ds.map (·.2)) st
 | [],jJ,st,_,_,_=>rfl
 |(u,o)::ds,jJ,st,h,N,hi=>by
  simp only[List.all_cons,Bool.and_eq_true]at h
  simp only[iN,List.map_cons,dE]
  cases D:jd E call n o st with
  |none=>
   grind
  |some s=>
   obtain⟨fp,H,O⟩:=aa7 h.1.1 D
   simp only[H]
   have I:(u.all fun i=>apart (iE ⟨true,[],[]⟩ jJ i) fp)=true:=by
    rw[List.all_eq_true]
    intro i r
    have:=hi 0 u o rfl i r
    have U:iE ⟨true,[],[]⟩ jJ i∈jJ:=by
     have: ∀(l:List FP) (j:Nat),j<l.length→iE ⟨true,[],[]⟩ l j∈l:=by
      intro l
      induction l with
      |nil=>grind
      |cons x xs ih=>
       intro j J
       cases j with
       |zero=>exact List.mem_cons_self
       |succ j=>exact List.mem_cons_of_mem _ (ih j (by simpa using J))
     grind
    grind [ME]
   simp only[I,if_true]
   refine Gr ds (jJ++ [fp]) s ?_ ?_ ?_
   ·grind
   ·grind
   ·intro k K o' hk i r
    have:=hi (k+1) K o' hk i r
    grind
def Gs:Nat→List (List Nat×dy)→Bool
 |_,[]=>true
 |k,(u,o)::ds=>lM o.op&&(u.all fun i=>decide (i<k))&&Gs (k+1) ds
theorem Gt: ∀(ds:List (List Nat×dy)) (m:Nat),Gs m ds=true→(∀(k:Nat) (u:List Nat) (o:dy),ds[k]? =some (u,o)→lM o.op=true∧ ∀i∈u,i<m+k)
 | [],m,_,k,u,o,hk=>by simp at hk
 |(r,D)::ds,m,h,k,u,o,hk=>by
  simp only[Gs,Bool.and_eq_true]at h
  cases k with
  |zero=>
   grind
  |succ k=>
   obtain⟨H,I⟩:=Gt ds (m+1) h.2 k u o (by simpa using hk)
   grind
theorem aa8{E:Env}{n:Nat}{ds:List (List Nat×dy)}{st:St}(h:Gs 0 ds=true):DC E n (.draws ds) st=(dE E (be E) n (ds.map (·.2)) st).map fun D=>(.nrm,D):=by
 rw[Kf]
 congr 1
 have r:=Gt ds 0 h
 refine Gr ds [] st ?_ (by simp) (fun k u o hk i hi=>by have:=(r k u o hk).2 i hi;simpa using this)
 rw[List.all_eq_true]
 intro p H
 obtain⟨k,hk,I⟩:=List.getElem_of_mem H
 obtain⟨u,o⟩:=p
 obtain⟨J,K⟩:=r k u o (by rw[List.getElem?_eq_getElem hk,I])
 grind
end
end Go.Ev
namespace Go.Ev
open Go
def kv(F:St→Option St)(fr:Fr)(lh:iw b8)(sh:List b8)(d:Nat)(v:Option T):Option St:=v.bind fun v=>F ⟨kg fr d v,lh,sh⟩
def kn(F:St→Option St)(st:St)(v:Option T):Option St:=v.bind fun _=>F st
def ks(F:St→Option St)(fr:Fr)(r:Option (iw b8×List b8)):Option St:=r.bind fun r=>F ⟨fr,r.1,r.2⟩
def ka(F:St→Option St)(fr:Fr)(sh:List b8)(d:Nat)(r:Option (T×iw b8)):Option St:=r.bind fun q=>F ⟨kg fr d q.1,q.2,sh⟩
def kc(F:St→Option St)(fr:Fr)(d:Option Nat)(r:Option (T×St)):Option St:=r.bind fun r=>F ⟨wa fr d r.1,r.2.lh,r.2.sh⟩
section
variable{F:St→Option St}{fr:Fr}{lh:iw b8}{sh:List b8}{d:Nat}{v:T}
theorem aa9:kv F fr lh sh d (some v)=F ⟨kg fr d v,lh,sh⟩:=rfl
theorem aba:kv F fr lh sh d none=none:=rfl
theorem ahX{c:Prop}[Decidable c]{x y:Option T}:kv F fr lh sh d (if c then x else y)=if c then kv F fr lh sh d x else kv F fr lh sh d y:=by split <;> rfl
theorem abb{r:iw b8×List b8}:ks F fr (some r)=F ⟨fr,r.1,r.2⟩:=rfl
theorem abc:ks F fr none=none:=rfl
theorem ahY{c:Prop}[Decidable c]{x y:Option (iw b8×List b8)}:ks F fr (if c then x else y)=if c then ks F fr x else ks F fr y:=by split <;> rfl
theorem abd{q:T×iw b8}:ka F fr sh d (some q)=F ⟨kg fr d q.1,q.2,sh⟩:=rfl
theorem abe{i:Option Nat}{r:T×St}:kc F fr i (some r)=F ⟨wa fr i r.1,r.2.lh,r.2.sh⟩:=rfl
theorem ahZ{c:Prop}[Decidable c]{i:Option Nat}{x y:Option (T×St)}:kc F fr i (if c then x else y)=if c then kc F fr i x else kc F fr i y:=by split <;> rfl
end
def isB:T→Bool
 | .b _=>true
 |_=>false
def isT:T→Bool
 | .b x=>x
 |_=>false
theorem ar2{x:Bool}:isB (.b x)=true:=nr rfl
theorem ar3{x:Bool}:isT (.b x)=x:=nr rfl
theorem abf{t:T}(h:isB t=true):t= .b (isT t):=by cases t <;> first|rfl|(simp[isB]at h)
section
variable{E:Env}{call:pU}{n:Nat}{fr:Fr}{lh:iw b8}{sh:List b8}{os:List dy}{d:Nat}
theorem ah0{c a b:iF}(i:d<n):dE E call n (⟨some d,.pick c a b,none⟩::os) ⟨fr,lh,sh⟩=kv (dE E call n os) fr lh sh d (OM (rd fr c) (rd fr a) (rd fr b)):=ahP i
theorem ar4{op:BinOp}{x y:iF}(i:d<n):dE E call n (⟨some d,.bin op x y,none⟩::os) ⟨fr,lh,sh⟩=kv (dE E call n os) fr lh sh d (Ev.bin op (rd fr x) (rd fr y)):=arJ i
theorem ayL{neg:Bool}{k:EK}{x y:iF}(i:d<n):dE E call n (⟨some d,.eq neg k x y,none⟩::os) ⟨fr,lh,sh⟩=kv (dE E call n os) fr lh sh d ((vz k (rd fr x) (rd fr y)).map fun r=>T.b (r != neg)):=ayz i
theorem ayM{op:UnOp}{x:iF}(i:d<n):dE E call n (⟨some d,.un op x,none⟩::os) ⟨fr,lh,sh⟩=kv (dE E call n os) fr lh sh d (Ev.un op (rd fr x)):=ayA i
theorem ar5{k:IntKind}{x:iF}(i:d<n):dE E call n (⟨some d,.cvi k x,none⟩::os) ⟨fr,lh,sh⟩=kv (dE E call n os) fr lh sh d (aaP k (rd fr x)):=arK i
theorem BA{x:iF}(i:d<n):dE E call n (⟨some d,.b2s x,none⟩::os) ⟨fr,lh,sh⟩=kv (dE E call n os) fr lh sh d (aaQ (rd fr x)):=arL i
theorem abg{z:List T}{i:List (Nat×Nat×iF)}(r:d<n):dE E call n (⟨some d,.build z i,none⟩::os) ⟨fr,lh,sh⟩=kv (dE E call n os) fr lh sh d (Hx fr z i):=aaR r
theorem ar6{x:iF}{l h:Option iF}(i:d<n):dE E call n (⟨some d,.slS x l h,none⟩::os) ⟨fr,lh,sh⟩=kv (dE E call n os) fr lh sh d (DN fr (rd fr x) l h):=arM i
theorem ayN{x:iF}{off:Nat}(i:d<n):dE E call n (⟨some d,.fa x off,none⟩::os) ⟨fr,lh,sh⟩=kv (dE E call n os) fr lh sh d (faV (rd fr x) off):=ayB i
theorem ayO{x i:iF}{sz:Nat}(r:d<n):dE E call n (⟨some d,.ia x i sz,none⟩::os) ⟨fr,lh,sh⟩=kv (dE E call n os) fr lh sh d (lR (rd fr x) (rd fr i) sz):=ayC r
theorem ar7{x i:iF}{len sz:Nat}(r:d<n):dE E call n (⟨some d,.iaA x i len sz,none⟩::os) ⟨fr,lh,sh⟩=kv (dE E call n os) fr lh sh d (kZ (rd fr x) (rd fr i) len sz):=arO r
theorem ar8{x i:iF}(r:d<n):dE E call n (⟨some d,.ixS x i,none⟩::os) ⟨fr,lh,sh⟩=kv (dE E call n os) fr lh sh d (My (rd fr x) (rd fr i)):=arP r
theorem ar9{x i:iF}{len sz:Nat}{ag:Bool}(r:d<n):dE E call n (⟨some d,.ixA x i len sz ag,none⟩::os) ⟨fr,lh,sh⟩=kv (dE E call n os) fr lh sh d (aaS (rd fr x) (rd fr i) len sz ag):=arQ r
theorem asa{x:iF}{j:Nat}(i:d<n):dE E call n (⟨some d,.ext x j,none⟩::os) ⟨fr,lh,sh⟩=kv (dE E call n os) fr lh sh d (aaT (rd fr x) j):=arR i
theorem ah1{x:iF}(i:d<n):dE E call n (⟨some d,.lenS x,none⟩::os) ⟨fr,lh,sh⟩=kv (dE E call n os) fr lh sh d (ON (rd fr x)):=ahR i
def lenI(x:T):Option T:=match su x with|some m=>some (.i .i64 ((m:Nat):Int))|none=>none
theorem abh{x:T}{m:Nat}(h:su x=some m):lenI x=some (.i .i64 (m:Int)):=by unfold lenI;rw[h]
theorem ah2{x:iF}(i:d<n):dE E call n (⟨some d,.lenV x,none⟩::os) ⟨fr,lh,sh⟩=kv (dE E call n os) fr lh sh d (lenI (rd fr x)):=by
 grind [kv,lenI,ahS]
theorem ayP{i:Bool}{args:List iF}(r:d<n):dE E call n (⟨some d,.mm i args,none⟩::os) ⟨fr,lh,sh⟩=kv (dE E call n os) fr lh sh d (mmV i (args.map (rd fr))):=ayD r
theorem asb{x:iF}(i:d<n):dE E call n (⟨some d,.nck x,none⟩::os) ⟨fr,lh,sh⟩=kv (dE E call n os) fr lh sh d (Rf (rd fr x)):=arS i
theorem ayQ{x:iF}{m:Nat}{ag:Bool}(i:d<n):dE E call n (⟨some d,.ld x m ag,none⟩::os) ⟨fr,lh,sh⟩=kv (dE E call n os) fr lh sh d (ZC lh sh (rd fr x) m ag):=ayE i
theorem asc{sz:Nat}{x:iF}{l h:Option iF}(i:d<n):dE E call n (⟨some d,.slV sz x l h none,none⟩::os) ⟨fr,lh,sh⟩=kv (dE E call n os) fr lh sh d (aa2 fr sz (rd fr x) l h):=arY i
theorem ayR{ek:EK}{m k:iF}{z:T}{i:Bool}(r:d<n):dE E call n (⟨some d,.lk ek m k z i,none⟩::os) ⟨fr,lh,sh⟩=kv (dE E call n os) fr lh sh d (lkV lh sh ek (rd fr m) (rd fr k) z i):=ayH r
theorem asd{k:IntKind}{n:Int}:UD [.i k n]=false:=nr rfl
theorem ase{x:Bool}:UD [.b x]=false:=nr rfl
theorem abi:UD [.nilsl]=true:=nr rfl
theorem Vu{a b:T}{l:List T}:UD (a::b::l)=false:=by cases a <;> rfl
def Vv(lh:iw b8)(d:Nat)(z:List T)(x:T)(bytes:Nat):Option (T×iw b8):=
 (Mz x bytes).map fun m=>(.isl .L d ((b7 lh d).g+1) 0 m z.length,nG lh d ⟨(b7 lh d).g+1,.cells (repl z m) 0 (UD z)⟩)
theorem ah3{z:List T}{bytes:Nat}{x:iF}(i:d<n):dE E call n (⟨some d,.mksl z bytes x false,none⟩::os) ⟨fr,lh,sh⟩=ka (dE E call n os) fr sh d (Vv lh d z (rd fr x) bytes):=by
 rw[ahU i];unfold Vv ka;cases Mz (rd fr x) bytes <;> rfl
theorem ayS{x v:iF}{m:Nat}:dE E call n (⟨none,.st x v m,none⟩::os) ⟨fr,lh,sh⟩=ks (dE E call n os) fr (stV lh sh (rd fr x) (rd fr v) m):=ayF
def appW(lh:iw b8)(sh:List b8)(d sz bytes:Nat)(s x:T):Option (T×iw b8):=(slC lh sh sz x).bind (MC lh d sz bytes s)
def notS:T→Bool
 | .isl .S .. =>false
 | .mp .S .. =>false
 |_=>true
theorem asf{sz bytes:Nat}{s x:iF}(i:d<n)(hs:notS (rd fr s)=true):dE E call n (⟨some d,.app sz bytes s x false false,none⟩::os) ⟨fr,lh,sh⟩=ka (dE E call n os) fr sh d (appW lh sh d sz bytes (rd fr s) (rd fr x)):=by
 rw[arX i (fun k g off len sz r=>by rw[r]at hs;simp[notS]at hs)]
 grind [appW,ka]
theorem ayT{ek:EK}{m k v:iF}(i:notS (rd fr m)=true)(r:froz (rd fr v)=true):dE E call n (⟨none,.mu ek m k v,none⟩::os) ⟨fr,lh,sh⟩=ks (dE E call n os) fr ((muV lh ek (rd fr m) (rd fr k) (rd fr v)).map fun D=>(D,sh)):=by
 rw[ayI (fun kk g H=>by rw[H]at i;simp[notS]at i) r]
 unfold ks
 cases muV lh ek (rd fr m) (rd fr k) (rd fr v) <;> rfl
def Vw(lh:iw b8)(sh:List b8)(z:List T)(len:Nat)(i:List Nat)(r:List T):Option (T×St):=
 (B4 lh sh false r).bind fun q=>(Rm z len i q.1).map fun v=>(v,(St.mk .nil lh sh).ups q.2)
theorem asg{z:List T}{len:Nat}{i:List (Nat×iF)}(r:d<n):dE E call n (⟨some d,.bsl z len i,none⟩::os) ⟨fr,lh,sh⟩=kc (dE E call n os) fr (some d) (Vw lh sh z len (i.map (·.1)) (i.map fun p=>rd fr p.2)):=by
 rw[ar0 r]
 unfold kc Vw
 cases B4 lh sh false (i.map fun p=>rd fr p.2)with
 |none=>rfl
 |some q=>
  simp only[Option.bind_some]
  cases Rm z len (i.map (·.1)) q.1 with
  |none=>rfl
  |some v=>grind [wa,qw]
theorem Rp{z:List T}{len:Nat}{r:List Nat}{i:List T}(h:i.all froz=true):Vw lh sh z len r i=(Rm z len r i).map fun v=>(v,⟨.nil,lh,sh⟩):=by
 unfold Vw
 rw[yV h];rfl
theorem ah4{f:Nat}{as:List iF}(i:d<n):dE E call n (⟨some d,.callf f as,none⟩::os) ⟨fr,lh,sh⟩=kc (dE E call n os) fr (some d) (jf E call d ⟨fr,lh,sh⟩ f (as.map (rd fr))):=ahW i
theorem abj{f:iF}{as:List iF}(i:d<n):dE E call n (⟨some d,.callv f as,none⟩::os) ⟨fr,lh,sh⟩=kc (dE E call n os) fr (some d) (yW E call d ⟨fr,lh,sh⟩ (rd fr f) (as.map (rd fr))):=aa4 i
theorem abk{i:Option Nat}{op:mA}{j:Nat}(h:an fr j= .b true):dE E call n (⟨i,op,some (j,true)⟩::os) ⟨fr,lh,sh⟩=dE E call n (⟨i,op,none⟩::os) ⟨fr,lh,sh⟩:=Vq h
theorem abl{i:Option Nat}{op:mA}{j:Nat}(h:an fr j= .b false):dE E call n (⟨i,op,some (j,false)⟩::os) ⟨fr,lh,sh⟩=dE E call n (⟨i,op,none⟩::os) ⟨fr,lh,sh⟩:=Vq h
theorem abm{op:mA}{j:Nat}(i:d<n)(h:an fr j= .b false):dE E call n (⟨some d,op,some (j,true)⟩::os) ⟨fr,lh,sh⟩=dE E call n os ⟨kg fr d iT,lh,sh⟩:=MD (d:=some d) i h
theorem abn{op:mA}{j:Nat}(i:d<n)(h:an fr j= .b true):dE E call n (⟨some d,op,some (j,false)⟩::os) ⟨fr,lh,sh⟩=dE E call n os ⟨kg fr d iT,lh,sh⟩:=MD (d:=some d) i h
theorem Vx{op:mA}{j:Nat}{w:Bool}(i:d<n)(h:an fr j=iT):dE E call n (⟨some d,op,some (j,w)⟩::os) ⟨fr,lh,sh⟩=dE E call n os ⟨kg fr d iT,lh,sh⟩:=OP (d:=some d) i h
end
section
variable{E:Env}{n:Nat}{fr:Fr}{lh:iw b8}{sh:List b8}
theorem ah5{c:iF}{a b:fx}(h:isB (rd fr c)=true):DC E n (.cond c a b) ⟨fr,lh,sh⟩=if isT (rd fr c)=true then DC E n a ⟨fr,lh,sh⟩else DC E n b ⟨fr,lh,sh⟩:=by
 rw[Vr,abf h];rfl
def AI(i:List qe)(r:Bool)(x:Option (Out×St)):Option (T×List b8):=
 match x with
 |some (.ext _,_)=>none
 |some (_,st)=>(nE st i).bind fun D=>answer r D st
 |none=>none
theorem il{f:Nat}{af:ij}{args:List T}{sh:List b8}(i:E.fn f=some af)(r:(af.n<args.length)=False)(D:af.own=none:=by rfl):
  be E f args sh=AI af.res af.eff (DC E af.n af.code {fr:=pT args,lh:= .nil,sh}):=by
 rw[Ki i (Nat.le_of_not_lt (of_eq_false r))]
 generalize DC E af.n af.code {fr:=pT args,lh:= .nil,sh}=x
 unfold Vh AI
 rw[D]
 cases x with
 |none=>rfl
 |some p=>
  obtain⟨o,st⟩:=p
  cases o with
  |ext id=>rfl
  |nrm=>simp only[];cases nE st af.res <;> rfl
  |ret=>simp only[];cases nE st af.res <;> rfl
def abo(i:List qe)(j:Nat)(x:Option (Out×St)):Option (T×List b8):=
 match x with
 |some (.ext _,_)=>none
 |some (_,st)=>(nE st i).bind fun r=>rq j r st
 |none=>none
theorem ah6{f:Nat}{af:ij}{args:List T}{sh:List b8}{j:Nat}(i:E.fn f=some af)(r:(af.n<args.length)=False)(D:af.own=some j:=by rfl)(H:af.eff=false:=by rfl):
  be E f args sh=abo af.res j (DC E af.n af.code {fr:=pT args,lh:= .nil,sh}):=by
 rw[Ki i (Nat.le_of_not_lt (of_eq_false r))]
 generalize DC E af.n af.code {fr:=pT args,lh:= .nil,sh}=x
 unfold Vh abo
 grind [tf,Bool.false_eq_true]
def Rq(lh:iw b8)(sh:List b8)(j:Nat)(i:List T):Option (T×List b8):=rq j i ⟨.nil,lh,sh⟩
theorem MF{j:Nat}{i:List T}:rq j i ⟨fr,lh,sh⟩=Rq lh sh j i:=by
 unfold Rq rq
 simp only[AG,qO]
 split
 ·rfl
 ·split
  ·rename_i p _
   rw[qw p.2 lh sh]
   rfl
  ·rfl
 ·rfl
theorem Vy{i:List qe}{j:Nat}:abo i j (some (.ret,⟨fr,lh,sh⟩))=(AF fr lh sh i).bind (Rq lh sh j):=by
 simp_all[abo,sI,MF]
theorem Vz{i:List qe}{r:Bool}:AI i r (some (.ret,⟨fr,lh,sh⟩))=(AF fr lh sh i).bind (Ro lh sh r):=by
 simp_all[AI,sI,AG]
theorem VA{i:List qe}{r:Bool}:AI i r (some (.nrm,⟨fr,lh,sh⟩))=(AF fr lh sh i).bind (Ro lh sh r):=by
 simp_all[AI,sI,AG]
theorem VB{c:Prop}[Decidable c]{i:List qe}{r:Bool}{x y:Option (Out×St)}:AI i r (if c then x else y)=if c then AI i r x else AI i r y:=by split <;> rfl
end
section
variable{k:IntKind}{a b:Int}{x y:Bool}{s t:List Nat}
theorem abp:Ev.bin .add (.i k a) (.i k b)=some (.i k (wr k (a+b))):=by simp[Ev.bin,sr]
theorem abq:Ev.bin .sub (.i k a) (.i k b)=some (.i k (wr k (a-b))):=by simp[Ev.bin,sr]
theorem abr:Ev.bin .mul (.i k a) (.i k b)=some (.i k (wr k (a*b))):=by simp[Ev.bin,sr]
theorem abt:Ev.bin .quo (.i k a) (.i k b)=if b=0 then none else some (.i k (wr k (a.tdiv b))):=by simp[Ev.bin,sr]
theorem abu:Ev.bin .rem (.i k a) (.i k b)=if b=0 then none else some (.i k (a.tmod b)):=by simp[Ev.bin,sr]
theorem OQ:Ev.bin .eql (.i k a) (.i k b)=some (.b (decide (a=b))):=by simp[Ev.bin,sr];exact Bool.beq_eq_decide_eq a b
theorem OR:Ev.bin .neq (.i k a) (.i k b)=some (.b (!decide (a=b))):=by simp[Ev.bin,sr];rw[bne,Bool.beq_eq_decide_eq]
theorem OS:Ev.bin .lss (.i k a) (.i k b)=some (.b (decide (a<b))):=by simp[Ev.bin,sr]
theorem OT:Ev.bin .leq (.i k a) (.i k b)=some (.b (decide (a≤b))):=by simp[Ev.bin,sr]
theorem OU:Ev.bin .gtr (.i k a) (.i k b)=some (.b (decide (b<a))):=by simp[Ev.bin,sr]
theorem OV:Ev.bin .geq (.i k a) (.i k b)=some (.b (decide (b≤a))):=by simp[Ev.bin,sr]
theorem Kj:Ev.bin .eql (.s s) (.s t)=some (.b (decide (s=t))):=by simp[Ev.bin,L9];exact Bool.beq_eq_decide_eq s t
theorem Kk:Ev.bin .neq (.s s) (.s t)=some (.b (!decide (s=t))):=by simp[Ev.bin,L9];rw[bne,Bool.beq_eq_decide_eq]
theorem VC:Ev.bin .lss (.s s) (.s t)=some (.b (wv s t)):=by simp[Ev.bin,L9]
theorem VD:Ev.bin .add (.s s) (.s t)=if s.length+t.length≤1099511627776 then some (.s (s++t))else none:=by simp[Ev.bin,L9]
theorem ah7:Ev.un .not (.b x)=some (.b (!x)):=rfl
theorem ah8:Ev.un .neg (.i k a)=some (.i k (wr k (0-a))):=rfl
theorem ah9{cs:List T}{off m:Nat}:Ev.part cs off m false=cs[off]? :=rfl
theorem aia{cs:List T}{off m:Nat}:Ev.part cs off m true=if off+m≤cs.length then some (.agg ((cs.drop off).take m))else none:=rfl
theorem jw{n:Int}(h: -9223372036854775808≤n∧n≤9223372036854775807):wr .i64 n=n:=by grind [wr,lo,hi]
theorem oc{cs:List T}{len sz:Nat}{ex:Bool}{kk:IntKind}{j:Int}:lR (.sl cs len ex) (.i kk j) sz=if 0≤j∧j.toNat<len∧(j.toNat+1)*sz≤cs.length then some (.vp (cs.drop (j.toNat*sz)))else none:=by
 unfold lR asNat
 grind
theorem abv{sp:Sp}{i g off len sz r:Nat}{kk:IntKind}{j:Int}:lR (.isl sp i g off len r) (.i kk j) sz=if 0≤j∧j.toNat<len∧r=sz then some (.ptr sp i g (off+j.toNat*sz))else none:=by
 unfold lR asNat
 grind
theorem MG{r:List Nat}{kk:IntKind}{j:Int}:My (.s r) (.i kk j)=if 0≤j then r[j.toNat]?.map fun c=>T.i .u8 c else none:=by
 unfold My asNat
 grind
theorem HD{kk:IntKind}{j:Int}:asNat (.i kk j)=if 0≤j then some j.toNat else none:=rfl
end
end Go.Ev
