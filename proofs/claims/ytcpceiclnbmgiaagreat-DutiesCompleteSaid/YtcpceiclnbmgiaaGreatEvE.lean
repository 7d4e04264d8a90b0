/- A tree evaluator over the model, proved against it (part E): where it answers, the call returns that answer. Conditions: none beyond its theorems' own. -/
import Derived.Test.YtcpceiclnbmgiaaGreatEvD
set_option linter.unusedSimpArgs false
set_option linter.unusedVariables false
namespace Go.Ev
open Go
section
variable{E:Env}{call:qa}{fl n:Nat}
end
end Go.Ev
namespace Go.Ev
open Go
def ze(c i:qa):Prop:= ∀f a sh r,c f a sh=some r→i f a sh=some r
section
variable{E:Env}
theorem BG{c i:qa}(h:ze c i){D:Nat}{st:St}{f:Nat}{args:List T}{r:T×St}(hr:je E c D st f args=some r):je E i D st f args=some r:=by
 unfold je at hr ⊢
 cases I:E.fn f with
 |none=>grind
 |some af=>
  simp only[I]at hr ⊢
  cases J:(ja (fz af.eff iG) args).run st.get st.sh.length with
  |none=>grind
  |some q=>
   simp only[J]at hr ⊢
   cases H:af.eff with
   |true=>
    simp only[H,if_true,Option.map_eq_some_iff]at hr ⊢
    obtain⟨a,K,N⟩:=hr
    exact⟨a,h _ _ _ _ K,N⟩
   |false=>
    simp only[H]at hr ⊢
    cases hc:c f q.1 []with
    |none=>grind
    |some a=>
     simp only[hc]at hr
     simp only[h _ _ _ _ hc]
     exact hr
theorem rL{c I:qa}(h:ze c I){n:Nat}{o:dy}{st D:St}(hr:jd E c n o st=some D):jd E I n o st=some D:=by
 unfold jd at hr ⊢
 have K: ∀D,(match jr st.rho o.op with
  |some (some i)=>match je E c (o.d.getD 0) st i.1 i.2 with
   |some r=>(nn st.fr n o.d r.1).map fun fr=>{r.2 with fr}
   |none=>none
  |some none=>none
  |none=>match(jk (o.d.getD 0) st.rho o.op).run st.get st.sh.length with
   |some (.val v ups)=>(nn st.fr n o.d v).map fun fr=>{st.ups ups with fr}
   |none=>none)=some D→(match jr st.rho o.op with
  |some (some i)=>match je E I (o.d.getD 0) st i.1 i.2 with
   |some r=>(nn st.fr n o.d r.1).map fun fr=>{r.2 with fr}
   |none=>none
  |some none=>none
  |none=>match(jk (o.d.getD 0) st.rho o.op).run st.get st.sh.length with
   |some (.val v ups)=>(nn st.fr n o.d v).map fun fr=>{st.ups ups with fr}
   |none=>none)=some D:=by
  intro D hs
  cases hc:jr st.rho o.op with
  |none=>simp only[hc]at hs ⊢; exact hs
  |some x=>
   cases x with
   |none=>simp only[hc]at hs;cases hs
   |some i=>
    simp only[hc]at hs ⊢
    cases J:je E c (o.d.getD 0) st i.1 i.2 with
    |none=>simp only[J]at hs;cases hs
    |some r=>
     simp only[J]at hs
     simp only[BG h J]
     exact hs
 cases N:o.gd with
 |none=>grind
 |some p=>
  obtain⟨j,H⟩:=p
  simp only[N]at hr ⊢
  split at hr
  ·rename_i x hx
   by_cases O:x=H
   ·grind
   ·grind
  ·cases hr
  ·exact hr
theorem mU{c r:qa}(h:ze c r){n:Nat}: ∀(os:List dy) {st i:St},eb E c n os st=some i→eb E r n os st=some i
 | [],st,i,hr=>hr
 |o::os,st,i,hr=>by
  simp only[eb]at hr ⊢
  cases D:jd E c n o st with
  |none=>grind
  |some s=>
   simp only[D]at hr
   simp only[rL h D]
   exact mU h os hr
theorem BH{c i:qa}(h:ze c i){D:Nat}{st:St}{f:Nat}{args:List T}{r:FP}(hr:lV E c D st f args=some r):lV E i D st f args=some r:=by
 unfold lV at hr ⊢
 cases H:E.fn f with
 |none=>grind
 |some af=>
  simp only[H]at hr ⊢
  cases I:(ja (fz af.eff iG) args).run st.get st.sh.length with
  |none=>grind
  |some q=>
   simp only[I]at hr ⊢
   by_cases hi:(!inB st q.2)=true
   ·grind
   ·rw[if_neg hi]at hr ⊢
    cases J:af.eff with
    |true=>grind
    |false=>
     simp only[J]at hr ⊢
     cases hc:c f q.1 []with
     |none=>simp[hc]at hr
     |some a=>
      simp only[hc]at hr
      simp only[h _ _ _ _ hc]
      exact hr
theorem BI{c H:qa}(h:ze c H){o:dy}{st:St}{r:FP}(hr:jT E c o st=some r):jT E H o st=some r:=by
 unfold jT at hr ⊢
 have I: ∀r,(match jr st.rho o.op with
  |some (some D)=>lV E c (o.d.getD 0) st D.1 D.2
  |some none=>none
  |none=>
   let q:=jk (o.d.getD 0) st.rho o.op
   match q.run st.get st.sh.length with
   |some (.val _ i)=>if q.asks st.get st.sh.length||inB st i then some ⟨q.asks st.get st.sh.length,q.log st.get st.sh.length,ki i⟩else none
   |none=>none)=some r→(match jr st.rho o.op with
  |some (some D)=>lV E H (o.d.getD 0) st D.1 D.2
  |some none=>none
  |none=>
   let q:=jk (o.d.getD 0) st.rho o.op
   match q.run st.get st.sh.length with
   |some (.val _ i)=>if q.asks st.get st.sh.length||inB st i then some ⟨q.asks st.get st.sh.length,q.log st.get st.sh.length,ki i⟩else none
   |none=>none)=some r:=by
  intro r hs
  cases hc:jr st.rho o.op with
  |none=>simp only[hc]at hs ⊢; exact hs
  |some x=>
   cases x with
   |none=>simp only[hc]at hs;cases hs
   |some D=>simp only[hc]at hs ⊢; exact BH h hs
 cases J:o.gd with
 |none=>grind
 |some p=>
  grind
theorem rM{c r:qa}(h:ze c r){n:Nat}: ∀(os:List (List Nat×dy)) {jN:List FP} {st i:St},iP E c n os jN st=some i→iP E r n os jN st=some i
 | [],jN,st,i,hr=>hr
 |(u,o)::os,jN,st,i,hr=>by
  simp only[iP]at hr ⊢
  cases D:jT E c o st with
  |none=>grind
  |some fp=>
   simp only[D]at hr
   simp only[BI h D]
   split at hr
   ·rename_i I
    rw[if_pos I]
    cases H:jd E c n o st with
    |none=>grind
    |some s=>
     simp only[H]at hr
     simp only[rL h H]
     exact rM h os hr
   ·cases hr
theorem vX{f g:St→Option (Out×St)}(h: ∀st r,f st=some r→g st=some r): ∀{k k':Nat},k≤k'→ ∀{st:St} {r:Out×St},iter f k st=some r→iter g k' st=some r
 |0,_,_,st,r,hr=>by simp[iter]at hr
 |k+1,0,hk,_,_,_=>by omega
 |k+1,k'+1,hk,st,r,hr=>by
  simp only[iter]at hr ⊢
  cases i:f st with
  |none=>grind
  |some p=>
   rw[h _ _ i]
   rw[i]at hr
   obtain⟨o,s⟩:=p
   cases o with
   |nrm=>exact vX h (by omega) hr
   |ext id=>exact hr
   |ret=>exact hr
theorem kz{c K:qa}(h:ze c K){n:Nat}{fl I:Nat}(i:fl≤I): ∀(code:dE) {st:St} {r:Out×St},mO E c fl n code st=some r→mO E K I n code st=some r
 | .skip,st,r,hr=>hr
 | .region ops,st,r,hr=>by
   simp only[mO,Option.map_eq_some_iff]at hr ⊢
   obtain⟨a,D,H⟩:=hr
   exact⟨a,mU h ops D,H⟩
 | .draws ops,st,r,hr=>by
   simp only[mO,Option.map_eq_some_iff]at hr ⊢
   obtain⟨a,D,H⟩:=hr
   exact⟨a,rM h ops D,H⟩
 | .seq a b,st,r,hr=>by
   simp only[mO]at hr ⊢
   cases J:mO E c fl n a st with
   |none=>grind
   |some p=>
    rw[kz h i a J]
    rw[J]at hr
    obtain⟨o,s⟩:=p
    cases o with
    |nrm=>exact kz h i b hr
    |ext id=>exact hr
    |ret=>exact hr
 | .fork os Fb b,st,r,hr=>by
   simp only[mO]at hr ⊢
   cases D:eb E c n os st with
   |none=>grind
   |some V=>
    cases H:eb E c n Fb st with
    |none=>grind
    |some W=>
     rw[mU h os D,mU h Fb H]
     rw[D,H]at hr
     simp only[]at hr ⊢
     obtain⟨o,s⟩:=r
     obtain⟨X,Y,N,O,Z,rfl⟩:=xu hr
     rw[N,O]at hr
     rw[kz h i b N,kz h i b O]
     exact hr
 | .cond x a b,st,r,hr=>by
   simp only[mO]at hr ⊢
   split at hr
   ·exact kz h i a hr
   ·exact kz h i b hr
   ·cases hr
 | .block id a,st,r,hr=>by
   simp only[mO]at hr ⊢
   cases J:mO E c fl n a st with
   |none=>grind
   |some p=>
    rw[kz h i a J]
    grind
 | .loop a,st,r,hr=>by
   simp only[mO]at hr ⊢
   exact vX (fun st r U=>kz h i a U) i hr
 | .exit id,st,r,hr=>hr
 | .ret,st,r,hr=>hr
theorem jC: ∀{m i:Nat},m≤i→ze (j4 E m) (j4 E i)
 |0,i,_=>fun f a sh r h=>by simp[j4]at h
 |m+1,0,h=>by omega
 |m+1,i+1,h=>fun f a sh r hr=>by
  simp only[j4]at hr ⊢
  cases D:E.fn f with
  |none=>grind
  |some af=>
   simp only[D]at hr ⊢
   split at hr
   ·cases hr
   ·rename_i H
    rw[if_neg H]
    cases hc:mO E (j4 E m) m af.n af.code {fr:=p6 a,lh:= .nil,sh}with
    |none=>grind
    |some p=>
     rw[kz (jC (Nat.le_of_succ_le_succ h)) (Nat.le_of_succ_le_succ h) af.code hc]
     grind
end
noncomputable def lim{α:Type}(F:Nat→Option α):Option α:=
 open Classical in if h: ∃m,(F m).isSome=true then F (Classical.choose h)else none
def ar0{α:Type}(F:Nat→Option α):Prop:= ∀m i r,m≤i→F m=some r→F i=some r
theorem O5{α:Type}{F:Nat→Option α}(D:ar0 F)(r:α):lim F=some r↔ ∃m,F m=some r:=by
 unfold lim
 constructor
 ·intro h
  split at h
  ·grind
  ·cases h
 ·rintro⟨m,H⟩
  have i: ∃m,(F m).isSome=true:=⟨m,by rw[H];rfl⟩
  rw[dif_pos i]
  have hs:=Classical.choose_spec i
  generalize Classical.choose i=k at hs
  cases hk:F k with
  |none=>grind
  |some a=>
   have I:=D k (max k m) a (Nat.le_max_left _ _) hk
   have J:=D m (max k m) r (Nat.le_max_right _ _) H
   grind
section
variable(E:Env)
noncomputable def be:qa:=fun f a sh=>lim fun m=>j4 E m f a sh
noncomputable def DC(n:Nat)(code:dE)(st:St):Option (Out×St):=lim fun m=>mO E (j4 E m) m n code st
end
section
variable{E:Env}
theorem DCall_iff{f:Nat}{a:List T}{sh:List b8}{r:T×List b8}:be E f a sh=some r↔ ∃m,j4 E m f a sh=some r:=
 O5 (fun m i r h hr=>jC h _ _ _ _ hr) r
theorem kF{n:Nat}{code:dE}{st:St}{r:Out×St}:DC E n code st=some r↔ ∃m,mO E (j4 E m) m n code st=some r:=
 O5 (fun m i r h hr=>kz (jC h) h code hr) r
theorem tK(m:Nat):ze (j4 E m) (be E):=fun f a sh r h=>DCall_iff.2 ⟨m,h⟩
theorem MT{i:Nat}{st:St}{f:Nat}{args:List T}{r:T×St}(hr:je E (be E) i st f args=some r): ∃m,je E (j4 E m) i st f args=some r:=by
 unfold je at hr
 cases D:E.fn f with
 |none=>refine⟨0, ?_⟩;unfold je;cases hx:E.ext f <;> simp only[D,hx]at hr ⊢ <;> exact hr
 |some af=>
  simp only[D]at hr
  grind [je,Option.map_eq_some_iff,DCall_iff.1]
theorem MU{i:Nat}{st:St}{f:Nat}{args:List T}{r:FP}(hr:lV E (be E) i st f args=some r): ∃m,lV E (j4 E m) i st f args=some r:=by
 unfold lV at hr
 cases D:E.fn f with
 |none=>refine⟨0, ?_⟩;unfold lV;cases hx:E.ext f <;> simp only[D,hx]at hr ⊢ <;> exact hr
 |some af=>
  simp only[D]at hr
  cases H:(ja (fz af.eff iG) args).run st.get st.sh.length with
  |none=>grind
  |some q=>
   simp only[H]at hr
   by_cases hi:(!inB st q.2)=true
   ·grind
   ·rw[if_neg hi]at hr
    cases I:af.eff with
    |true=>
     simp_all[lV]
    |false=>
     grind [lV,DCall_iff.1]
theorem D3{n:Nat}{o:dy}{st D:St}(hr:jd E (be E) n o st=some D): ∃m,jd E (j4 E m) n o st=some D:=by
 cases hc:jr st.rho o.op with
 |none=>
  simp_all[jd]
 |some x=>
  cases x with
  |none=>
   simp_all[jd]
  |some i=>
   cases H:je E (be E) (o.d.getD 0) st i.1 i.2 with
   |none=>
    refine⟨0, ?_⟩
    have I:je E (j4 E 0) (o.d.getD 0) st i.1 i.2=none:=by
     cases I:je E (j4 E 0) (o.d.getD 0) st i.1 i.2 with
     |none=>rfl
     |some r=>rw[BG (tK 0) I]at H;cases H
    grind [jd]
   |some r=>
    grind [jd,MT]
theorem MV{o:dy}{st:St}{r:FP}(hr:jT E (be E) o st=some r): ∃m,jT E (j4 E m) o st=some r:=by
 cases hc:jr st.rho o.op with
 |none=>
  simp_all[jT]
 |some x=>
  cases x with
  |none=>
   simp_all[jT]
  |some i=>
   cases D:lV E (be E) (o.d.getD 0) st i.1 i.2 with
   |none=>
    refine⟨0, ?_⟩
    have H:lV E (j4 E 0) (o.d.getD 0) st i.1 i.2=none:=by
     cases H:lV E (j4 E 0) (o.d.getD 0) st i.1 i.2 with
     |none=>rfl
     |some r=>rw[BH (tK 0) H]at D;cases D
    grind [jT]
   |some r=>
    grind [jT,MU]
theorem vY{n:Nat}: ∀(os:List dy) {st i:St},eb E (be E) n os st=some i→ ∃m,eb E (j4 E m) n os st=some i
 | [],st,i,hr=>⟨0,hr⟩
 |o::os,st,i,hr=>by
  simp only[eb]at hr
  cases H:jd E (be E) n o st with
  |none=>grind
  |some s=>
   simp only[H]at hr
   obtain⟨r,I⟩:=D3 H
   obtain⟨D,J⟩:=vY os hr
   refine⟨max r D, ?_⟩
   simp only[eb,rL (jC (Nat.le_max_left r D)) I]
   exact mU (jC (Nat.le_max_right r D)) os J
theorem D4{n:Nat}: ∀(os:List (List Nat×dy)) {jN:List FP} {st H:St},iP E (be E) n os jN st=some H→ ∃m,iP E (j4 E m) n os jN st=some H
 | [],jN,st,H,hr=>⟨0,hr⟩
 |(u,o)::os,jN,st,H,hr=>by
  simp only[iP]at hr
  cases I:jT E (be E) o st with
  |none=>grind
  |some fp=>
   simp only[I]at hr
   split at hr
   ·rename_i K
    cases J:jd E (be E) n o st with
    |none=>grind
    |some s=>
     simp only[J]at hr
     obtain⟨i,N⟩:=D3 J
     obtain⟨r,O⟩:=D4 os hr
     obtain⟨D,U⟩:=MV I
     refine⟨max D (max i r), ?_⟩
     have V:i≤max D (max i r):=by omega
     have W:r≤max D (max i r):=by omega
     have X:D≤max D (max i r):=by omega
     simp only[iP,BI (jC X) U,rL (jC V) N]
     rw[if_pos K]
     exact rM (jC W) os O
   ·cases hr
theorem tL{α:Type}{x y:Option α}(h: ∀r,x=some r↔y=some r):x=y:=Option.ext h
theorem aaY{n:Nat}{st:St}:DC E n .skip st=some (.nrm,st):=kF.2 ⟨0,rfl⟩
theorem aaZ{n id:Nat}{st:St}:DC E n (.exit id) st=some (.ext id,st):=kF.2 ⟨0,rfl⟩
theorem aii{n:Nat}{st:St}:DC E n .ret st=some (.ret,st):=kF.2 ⟨0,rfl⟩
theorem Gx{n:Nat}{ops:List dy}{st:St}:DC E n (.region ops) st=(eb E (be E) n ops st).map fun i=>(.nrm,i):=by
 refine tL fun r=> ?_
 rw[kF,Option.map_eq_some_iff]
 constructor
 ·rintro⟨m,h⟩
  simp only[mO,Option.map_eq_some_iff]at h
  obtain⟨a,D,H⟩:=h
  exact⟨a,mU (tK m) ops D,H⟩
 grind [mO,Option.map_eq_some_iff,vY]
theorem Ku{n:Nat}{ops:List (List Nat×dy)}{st:St}:DC E n (.draws ops) st=(iP E (be E) n ops [] st).map fun i=>(.nrm,i):=by
 refine tL fun r=> ?_
 rw[kF,Option.map_eq_some_iff]
 constructor
 ·rintro⟨m,h⟩
  simp only[mO,Option.map_eq_some_iff]at h
  obtain⟨a,D,H⟩:=h
  exact⟨a,rM (tK m) ops D,H⟩
 grind [mO,Option.map_eq_some_iff,D4]
def andThen(x:Option (Out×St))(f:St→Option (Out×St)):Option (Out×St):=
 match x with
 |some (.nrm,i)=>f i
 |r=>r
theorem nX{st:St}{f:St→Option (Out×St)}:andThen (some (.nrm,st)) f=f st:=rfl
theorem Kv{id:Nat}{st:St}{f:St→Option (Out×St)}:andThen (some (.ext id,st)) f=some (.ext id,st):=rfl
theorem Kw{st:St}{f:St→Option (Out×St)}:andThen (some (.ret,st)) f=some (.ret,st):=rfl
theorem HG{f:St→Option (Out×St)}:andThen none f=none:=rfl
theorem AO{n:Nat}{a b:dE}{st:St}:DC E n (.seq a b) st=andThen (DC E n a st) (DC E n b):=by
 refine tL fun r=> ?_
 rw[kF]
 constructor
 ·rintro⟨m,h⟩
  simp only[mO]at h
  cases i:mO E (j4 E m) m n a st with
  |none=>grind
  |some p=>
   rw[i]at h
   rw[kF.2 ⟨m,i⟩]
   obtain⟨o,s⟩:=p
   cases o with
   |nrm=>exact kF.2 ⟨m,h⟩
   |ext id=>exact h
   |ret=>exact h
 ·intro h
  cases i:DC E n a st with
  |none=>rw[i]at h;cases h
  |some p=>
   rw[i]at h
   obtain⟨D,H⟩:=kF.1 i
   obtain⟨o,s⟩:=p
   cases o with
   |nrm=>
    obtain⟨I,N⟩:=kF.1 h
    refine⟨max D I, ?_⟩
    have J:=Nat.le_max_left D I
    have K:=Nat.le_max_right D I
    simp only[mO,kz (jC J) J a H]
    exact kz (jC K) K b N
   |ext id=>refine⟨D, ?_⟩;simp only[mO,H];exact h
   |ret=>refine⟨D, ?_⟩;simp only[mO,H];exact h
theorem aa0{n:Nat}{c:iF}{a b:dE}{st:St}:DC E n (.cond c a b) st=match st.rho c with| .b true=>DC E n a st| .b false=>DC E n b st|_=>none:=by
 refine tL fun r=> ?_
 grind [kF,mO,kF.2,kF.1]
def BJ(id:Nat)(x:Option (Out×St)):Option (Out×St):=
 match x with
 |some (.ext Re,i)=>if Re=id then some (.nrm,i)else some (.ext Re,i)
 |r=>r
theorem Rv{id:Nat}{st:St}:BJ id (some (.nrm,st))=some (.nrm,st):=rfl
theorem Rw{id:Nat}{st:St}:BJ id (some (.ret,st))=some (.ret,st):=rfl
theorem Rx{id Re:Nat}{st:St}:BJ id (some (.ext Re,st))=if Re=id then some (.nrm,st)else some (.ext Re,st):=rfl
theorem MW{id:Nat}:BJ id none=none:=rfl
theorem VH{n id:Nat}{a:dE}{st:St}:DC E n (.block id a) st=BJ id (DC E n a st):=by
 refine tL fun r=> ?_
 rw[kF]
 constructor
 ·rintro⟨m,h⟩
  simp only[mO]at h
  cases i:mO E (j4 E m) m n a st with
  |none=>grind
  |some p=>
   rw[i]at h
   rw[kF.2 ⟨m,i⟩]
   exact h
 ·intro h
  cases i:DC E n a st with
  |none=>rw[i]at h;cases h
  |some p=>
   rw[i]at h
   obtain⟨D,H⟩:=kF.1 i
   refine⟨D, ?_⟩
   simp only[mO,H]
   exact h
theorem Cw{n:Nat}{a:dE}{st:St}:DC E n (.loop a) st=andThen (DC E n a st) (DC E n (.loop a)):=by
 refine tL fun r=> ?_
 rw[kF]
 constructor
 ·rintro⟨m,h⟩
  simp only[mO]at h
  cases m with
  |zero=>simp[iter]at h
  |succ m=>
   rw[iter]at h
   cases D:mO E (j4 E (m+1)) (m+1) n a st with
   |none=>grind
   |some p=>
    rw[D]at h
    rw[kF.2 ⟨m+1,D⟩]
    obtain⟨o,s⟩:=p
    cases o with
    |nrm=>
     refine kF.2 ⟨m+1, ?_⟩
     simp only[mO]
     exact vX (fun _ _ h=>h) (Nat.le_succ m) h
    |ext id=>exact h
    |ret=>exact h
 ·intro h
  cases D:DC E n a st with
  |none=>rw[D]at h;cases h
  |some p=>
   rw[D]at h
   obtain⟨i,I⟩:=kF.1 D
   obtain⟨o,s⟩:=p
   cases o with
   |nrm=>
    obtain⟨H,J⟩:=kF.1 h
    refine⟨max i H+1, ?_⟩
    have K:i≤max i H+1:=by omega
    have N:H≤max i H+1:=by omega
    have O:H≤max i H:=by omega
    simp only[mO]at J
    simp only[mO]
    rw[iter,kz (jC K) K a I]
    exact vX (fun st r U=>kz (jC N) N a U) O J
   |ext id=>
    refine⟨i+1, ?_⟩
    simp only[mO]
    rw[iter,kz (jC (Nat.le_succ i)) (Nat.le_succ i) a I]
    exact h
   |ret=>
    refine⟨i+1, ?_⟩
    simp only[mO]
    rw[iter,kz (jC (Nat.le_succ i)) (Nat.le_succ i) a I]
    exact h
def VI(af:ib)(x:Option (Out×St)):Option (T×List b8):=
 match x with
 |some (.ext _,_)=>none
 |some (_,st)=>match nL st af.res with
  |some i=>tw af.own af.eff i st
  |none=>none
 |none=>none
theorem Kx{f:Nat}{af:ib}{args:List T}{sh:List b8}(i:E.fn f=some af)(D:args.length≤af.n):
  be E f args sh=VI af (DC E af.n af.code {fr:=p6 args,lh:= .nil,sh}):=by
 refine tL fun r=> ?_
 rw[DCall_iff]
 constructor
 ·rintro⟨m,h⟩
  cases m with
  |zero=>simp[j4]at h
  |succ m=>
   simp only[j4,i,if_neg (Nat.not_lt.2 D)]at h
   cases hc:mO E (j4 E m) m af.n af.code {fr:=p6 args,lh:= .nil,sh}with
   |none=>grind
   |some p=>rw[hc]at h;rw[kF.2 ⟨m,hc⟩];exact h
 ·intro h
  cases hc:DC E af.n af.code {fr:=p6 args,lh:= .nil,sh}with
  |none=>rw[hc]at h;cases h
  |some p=>
   rw[hc]at h
   obtain⟨m,H⟩:=kF.1 hc
   refine⟨m+1, ?_⟩
   simp only[j4,i,if_neg (Nat.not_lt.2 D),H]
   exact h
end
end Go.Ev
namespace Go.Ev
open Go
theorem nr{α:Sort _}{a b:α}(h:a=b):a=b:=h
def rd(fr:Fr):iF→T
 | .t k=>an fr k
 | .c v=>v
theorem ayW(fr:Fr)(k:Nat):rd fr (.t k)=an fr k:=nr rfl
theorem ayX(fr:Fr)(v:T):rd fr (.c v)=v:=nr rfl
theorem lp(fr:Fr)(lh:iq b8)(sh:List b8):(St.mk fr lh sh).rho=rd fr:=by funext x;cases x <;> rfl
theorem VJ(fr:Fr)(d:Nat)(v:T):an (kg fr d v) d=v:=by rw[qD,if_pos rfl]
theorem VK(fr:Fr){d m:Nat}(v:T)(h:m≠d):an (kg fr d v) m=an fr m:=by rw[qD,if_neg h]
def b7(lh:iq b8)(k:Nat):b8:=iq.get l0 lh k
def nN(lh:iq b8)(k:Nat)(e:b8):iq b8:=iq.set l0 lh k e
theorem vZ(lh:iq b8)(k:Nat)(e:b8):b7 (nN lh k e) k=e:=by grind [b7,nN,iq.get_set]
theorem jz(lh:iq b8){k m:Nat}(e:b8)(h:m≠k):b7 (nN lh k e) m=b7 lh m:=by grind [b7,nN,iq.get_set]
theorem VL(k:Nat):b7 .nil k=l0:=by unfold b7;exact iq.get_nil _ _
theorem O6(fr:Fr)(lh:iq b8)(sh:List b8)(k:Nat):(St.mk fr lh sh).get .L k=b7 lh k:=rfl
theorem Cx(st:St):st.ups []=st:=rfl
theorem afP(fr:Fr)(lh:iq b8)(sh:List b8)(k:Nat)(e:b8)(us:List Up):(St.mk fr lh sh).ups ((.L,k,e)::us)=(St.mk fr (nN lh k e) sh).ups us:=rfl
def ql:Option Dq→Option (T×List Up)
 |some (.val v i)=>some (v,i)
 |none=>none
def one(fr:Fr)(lh:iq b8)(sh:List b8)(d:Nat)(op:mH):Option (T×List Up):=
 ql ((jk d (rd fr) op).run (St.mk fr lh sh).get sh.length)
def wv(fr:Fr):Option Nat→T→Fr
 |some d,v=>kg fr d v
 |none,_=>fr
def Fe(n:Nat):Option Nat→Prop
 |some d=>d<n
 |none=>True
section
variable{E:Env}{call:qa}{n:Nat}{fr:Fr}{lh:iq b8}{sh:List b8}{os:List dy}
theorem ar1{st:St}:eb E call n [] st=some st:=rfl
theorem pL{d:Option Nat}{op:mH}(hc:jr (rd fr) op=none)(i:Fe n d):
  eb E call n (⟨d,op,none⟩::os) ⟨fr,lh,sh⟩=(one fr lh sh (d.getD 0) op).bind fun r=>eb E call n os {(St.mk fr lh sh).ups r.2 with fr:=wv fr d r.1}:=by
 simp only[eb,jd,lp,hc]
 unfold one
 cases h:(jk (d.getD 0) (rd fr) op).run (St.mk fr lh sh).get sh.length with
 |none=>rfl
 |some r=>
  obtain⟨v,ups⟩:=r
  simp only[Option.bind_some,ql]
  cases d with
  |none=>rfl
  |some d=>simp only[nn,if_pos (show d<n from i),wv,Option.map_some]
theorem lD{d:Option Nat}{op:mH}(hc:jr (rd fr) op=none)(i:Fe n d){v:Option T}(r:one fr lh sh (d.getD 0) op=v.map fun v=>(v,[])):
  eb E call n (⟨d,op,none⟩::os) ⟨fr,lh,sh⟩=v.bind fun v=>eb E call n os ⟨wv fr d v,lh,sh⟩:=by
 rw[pL hc i,r]
 cases v <;> rfl
theorem pw{o:Option T}{h:Sp→Nat→b8}{i:Nat}:ql ((val o).run h i)=o.map fun v=>(v,([]:List Up)):=by
 cases o <;> rfl
variable{d:Nat}
theorem ayY{x:iF}(i:d<n):eb E call n (⟨some d,.mv x,none⟩::os) ⟨fr,lh,sh⟩=eb E call n os ⟨kg fr d (rd fr x),lh,sh⟩:=
 lD (d:=some d) (v:=some (rd fr x)) (by rfl) i rfl
def O7(c a b:T):Option T:=match c with| .b x=>some (if x=true then a else b)|_=>none
theorem aa1(x:Bool)(a b:T):O7 (.b x) a b=some (if x=true then a else b):=rfl
theorem aij{c a b:iF}(i:d<n):eb E call n (⟨some d,.pick c a b,none⟩::os) ⟨fr,lh,sh⟩=(O7 (rd fr c) (rd fr a) (rd fr b)).bind fun v=>eb E call n os ⟨kg fr d v,lh,sh⟩:=by
 refine lD (d:=some d) (by rfl) i ?_
 unfold one O7
 simp only[jk]
 cases h:rd fr c <;> try rfl
 rename_i x
 cases x <;> rfl
theorem ar2{op:BinOp}{x y:iF}(i:d<n):eb E call n (⟨some d,.bin op x y,none⟩::os) ⟨fr,lh,sh⟩=(Ev.bin op (rd fr x) (rd fr y)).bind fun v=>eb E call n os ⟨kg fr d v,lh,sh⟩:=
 lD (d:=some d) (by rfl) i pw
theorem ayZ{neg:Bool}{k:EK}{x y:iF}(i:d<n):eb E call n (⟨some d,.eq neg k x y,none⟩::os) ⟨fr,lh,sh⟩=((uP k (rd fr x) (rd fr y)).map fun r=>T.b (r != neg)).bind fun v=>eb E call n os ⟨kg fr d v,lh,sh⟩:=
 lD (d:=some d) (by rfl) i pw
theorem ay0{op:UnOp}{x:iF}(i:d<n):eb E call n (⟨some d,.un op x,none⟩::os) ⟨fr,lh,sh⟩=(Ev.un op (rd fr x)).bind fun v=>eb E call n os ⟨kg fr d v,lh,sh⟩:=
 lD (d:=some d) (by rfl) i pw
def aa2(k:IntKind):T→Option T
 | .i _ n=>some (.i k (wr k n))
 |_=>none
theorem ar3{k:IntKind}{x:iF}(i:d<n):eb E call n (⟨some d,.cvi k x,none⟩::os) ⟨fr,lh,sh⟩=(aa2 k (rd fr x)).bind fun v=>eb E call n os ⟨kg fr d v,lh,sh⟩:=by
 refine lD (d:=some d) (by rfl) i ?_
 unfold one aa2
 simp only[jk]
 cases h:rd fr x <;> rfl
def aa3:T→Option T
 | .sl [.i .u8 (.ofNat k)] 1 _=>if k<256 then some (.s [k])else none
 |_=>none
theorem ar4{x:iF}(i:d<n):eb E call n (⟨some d,.b2s x,none⟩::os) ⟨fr,lh,sh⟩=(aa3 (rd fr x)).bind fun v=>eb E call n os ⟨kg fr d v,lh,sh⟩:=by
 refine lD (d:=some d) (by rfl) i ?_
 unfold one aa3
 simp only[jk]
 generalize rd fr x=y
 split
 ·rename_i k ex
  by_cases hk:k<256
  ·rw[if_pos hk];simp only[hk,if_true];rfl
  ·rw[if_neg hk];simp only[hk,if_false];rfl
 ·rename_i h
  split
  ·rename_i k ex;exact absurd rfl (h k ex)
  ·rfl
theorem aik{f:Nat}{a c:List iF}(i:d<n):eb E call n (⟨some d,.mkfn f a c,none⟩::os) ⟨fr,lh,sh⟩=eb E call n os ⟨kg fr d (.fn f (a.map (rd fr)) (c.map (rd fr))),lh,sh⟩:=
 lD (d:=some d) (v:=some _) (by rfl) i rfl
def HH(fr:Fr)(z:List T)(i:List (Nat×Nat×iF)):Option T:=
 if(i.all fun p=>(cellsOf (rd fr p.2.2)).length=p.2.1&&noTup (rd fr p.2.2))=true then(qh z (i.map fun p=>(p.1,cellsOf (rd fr p.2.2)))).map .agg else none
theorem aa4{z:List T}{i:List (Nat×Nat×iF)}(r:d<n):eb E call n (⟨some d,.build z i,none⟩::os) ⟨fr,lh,sh⟩=(HH fr z i).bind fun v=>eb E call n os ⟨kg fr d v,lh,sh⟩:=by
 refine lD (d:=some d) (by rfl) r ?_
 unfold one HH
 simp only[jk]
 split
 ·exact pw
 ·rfl
def D5(fr:Fr)(x:T)(l h:Option iF):Option T:=
 match x with
 | .s i=>match kN (rd fr) 0 l,kN (rd fr) i.length h with
   |some l,some h=>if l≤h∧h≤i.length then some (.s ((i.drop l).take (h-l)))else none
   |_,_=>none
 |_=>none
theorem ar5{x:iF}{l h:Option iF}(D:d<n):eb E call n (⟨some d,.slS x l h,none⟩::os) ⟨fr,lh,sh⟩=(D5 fr (rd fr x) l h).bind fun v=>eb E call n os ⟨kg fr d v,lh,sh⟩:=by
 refine lD (d:=some d) (by rfl) D ?_
 unfold one D5
 simp only[jk]
 cases hx:rd fr x <;> try rfl
 rename_i i
 simp only[]
 cases H:kN (rd fr) 0 l <;> cases I:kN (rd fr) i.length h <;> try rfl
 rename_i a b
 simp only[Bool.and_eq_true,decide_eq_true_eq]
 by_cases r:a≤b∧b≤i.length
 ·simp only[if_pos r];rfl
 ·simp only[if_neg r];rfl
def faV(x:T)(off:Nat):Option T:=
 match x with
 | .vp cs=>if off≤cs.length then some (.vp (cs.drop off))else none
 | .ptr sp k g o=>some (.ptr sp k g (o+off))
 |_=>none
theorem ay1{x:iF}{off:Nat}(i:d<n):eb E call n (⟨some d,.fa x off,none⟩::os) ⟨fr,lh,sh⟩=(faV (rd fr x) off).bind fun v=>eb E call n os ⟨kg fr d v,lh,sh⟩:=by
 refine lD (d:=some d) (by rfl) i ?_
 unfold one faV
 simp only[jk]
 cases hx:rd fr x <;> try rfl
 rename_i cs
 simp only[]
 split <;> rfl
def lY(x i:T)(sz:Nat):Option T:=
 match asNat i,x with
 |some j,.sl cs len _=>if j<len∧(j+1)*sz≤cs.length then some (.vp (cs.drop (j*sz)))else none
 |some j,.isl sp k g off len r=>if j<len∧r=sz then some (.ptr sp k g (off+j*sz))else none
 |_,_=>none
theorem ay2{x i:iF}{sz:Nat}(r:d<n):eb E call n (⟨some d,.ia x i sz,none⟩::os) ⟨fr,lh,sh⟩=(lY (rd fr x) (rd fr i) sz).bind fun v=>eb E call n os ⟨kg fr d v,lh,sh⟩:=by
 refine lD (d:=some d) (by rfl) r ?_
 unfold one lY
 simp only[jk]
 cases D:asNat (rd fr i)with
 |none=>rfl
 |some j=>
  cases hx:rd fr x <;> try rfl
  ·simp only[Bool.and_eq_true,decide_eq_true_eq];split <;> rfl
  ·simp only[Bool.and_eq_true,decide_eq_true_eq];split <;> rfl
def k9(x i:T)(len sz:Nat):Option T:=
 match asNat i,x with
 |some j,.vp cs=>if j<len∧(j+1)*sz≤cs.length then some (.vp (cs.drop (j*sz)))else none
 |some j,.ptr sp k g off=>if j<len then some (.ptr sp k g (off+j*sz))else none
 |_,_=>none
theorem ar7{x i:iF}{len sz:Nat}(r:d<n):eb E call n (⟨some d,.iaA x i len sz,none⟩::os) ⟨fr,lh,sh⟩=(k9 (rd fr x) (rd fr i) len sz).bind fun v=>eb E call n os ⟨kg fr d v,lh,sh⟩:=by
 refine lD (d:=some d) (by rfl) r ?_
 unfold one k9
 simp only[jk]
 cases D:asNat (rd fr i)with
 |none=>rfl
 |some j=>
  cases hx:rd fr x <;> try rfl
  ·simp only[Bool.and_eq_true,decide_eq_true_eq];split <;> rfl
  ·simp only[];split <;> rfl
def MX(x r:T):Option T:=
 match asNat r,x with
 |some j,.s D=>D[j]?.map fun c=> .i .u8 c
 |_,_=>none
theorem ar8{x i:iF}(r:d<n):eb E call n (⟨some d,.ixS x i,none⟩::os) ⟨fr,lh,sh⟩=(MX (rd fr x) (rd fr i)).bind fun v=>eb E call n os ⟨kg fr d v,lh,sh⟩:=by
 refine lD (d:=some d) (by rfl) r ?_
 unfold one MX
 simp only[jk]
 cases H:asNat (rd fr i)with
 |none=>rfl
 |some j=>
  cases hx:rd fr x <;> try rfl
  rename_i D
  simp only[]
  cases I:D[j]? <;> rfl
def aa5(x i:T)(len sz:Nat)(ag:Bool):Option T:=
 match asNat i,x with
 |some j,.agg cs=>if j<len then part cs (j*sz) sz ag else none
 |_,_=>none
theorem ar9{x i:iF}{len sz:Nat}{ag:Bool}(r:d<n):eb E call n (⟨some d,.ixA x i len sz ag,none⟩::os) ⟨fr,lh,sh⟩=(aa5 (rd fr x) (rd fr i) len sz ag).bind fun v=>eb E call n os ⟨kg fr d v,lh,sh⟩:=by
 refine lD (d:=some d) (by rfl) r ?_
 unfold one aa5
 simp only[jk]
 cases D:asNat (rd fr i)with
 |none=>rfl
 |some j=>
  cases hx:rd fr x <;> try rfl
  simp only[]
  split
  ·exact pw
  ·rfl
def aa6(x:T)(j:Nat):Option T:=match x with| .tup vs=>vs[j]? |_=>none
theorem asa{x:iF}{j:Nat}(i:d<n):eb E call n (⟨some d,.ext x j,none⟩::os) ⟨fr,lh,sh⟩=(aa6 (rd fr x) j).bind fun v=>eb E call n os ⟨kg fr d v,lh,sh⟩:=by
 refine lD (d:=some d) (by rfl) i ?_
 unfold one aa6
 simp only[jk]
 cases hx:rd fr x <;> try rfl
 exact pw
def O8(x:T):Option T:=match x with| .s bs=>some (.i .i64 bs.length)|_=>none
theorem ail{x:iF}(i:d<n):eb E call n (⟨some d,.lenS x,none⟩::os) ⟨fr,lh,sh⟩=(O8 (rd fr x)).bind fun v=>eb E call n os ⟨kg fr d v,lh,sh⟩:=by
 refine lD (d:=some d) (by rfl) i ?_
 unfold one O8
 simp only[jk]
 cases hx:rd fr x <;> rfl
theorem aim{x:iF}(r:d<n):eb E call n (⟨some d,.lenV x,none⟩::os) ⟨fr,lh,sh⟩=((sF (rd fr x)).map fun m=>T.i .i64 m).bind fun v=>eb E call n os ⟨kg fr d v,lh,sh⟩:=
 lD (d:=some d) (by rfl) r pw
def mmV(i:Bool)(l:List T):Option T:=match l with|x::rest=>nJ i x rest| []=>none
theorem ay3{i:Bool}{args:List iF}(D:d<n):eb E call n (⟨some d,.mm i args,none⟩::os) ⟨fr,lh,sh⟩=(mmV i (args.map (rd fr))).bind fun v=>eb E call n os ⟨kg fr d v,lh,sh⟩:=by
 refine lD (d:=some d) (by rfl) D ?_
 unfold one mmV
 simp only[jk]
 cases hx:args.map (rd fr)with
 |nil=>rfl
 |cons x r=>exact pw
def Ry(x:T):Option T:=match x with| .vp cs=>some (.vp cs)| .ptr sp k g off=>some (.ptr sp k g off)| .fn f a c=>some (.fn f a c)|_=>none
theorem aa7{x:iF}:one fr lh sh d (.nck x)=(Ry (rd fr x)).map fun v=>(v,[]):=by
 unfold one Ry
 simp only[jk]
 cases hx:rd fr x <;> rfl
theorem asb{x:iF}(i:d<n):eb E call n (⟨some d,.nck x,none⟩::os) ⟨fr,lh,sh⟩=(Ry (rd fr x)).bind fun v=>eb E call n os ⟨kg fr d v,lh,sh⟩:=
 lD (d:=some d) (by rfl) i aa7
def ldE(e:b8)(g off m:Nat)(ag:Bool):Option T:=
 match e with
 |⟨i,.cells cs _ _⟩=>if i=g then part cs off m ag else none
 |_=>none
theorem Rz{g i off m wm:Nat}{ag bx:Bool}{cs:List T}:ldE ⟨i,.cells cs wm bx⟩ g off m ag=if i=g then part cs off m ag else none:=rfl
def ZS(lh:iq b8)(sh:List b8)(x:T)(m:Nat)(ag:Bool):Option T:=
 match x with
 | .vp cs=>part cs 0 m ag
 | .ptr .L k g off=>ldE (b7 lh k) g off m ag
 | .ptr .S k g off=>ldE (iz sh k) g off m ag
 |_=>none
theorem VM{α:Type}{o:Option α}{h:Sp→Nat→b8}{i:Nat}:(Q.of o).run h i=o:=by cases o <;> rfl
theorem ldQ{h:Sp→Nat→b8}{r g off m:Nat}{ag:Bool}(e:b8):Q.run h r (if e.g=g then(match e.ob with| .cells cs _ _=>Q.of (part cs off m ag)|_=> .fail)else .fail)=ldE e g off m ag:=by
 obtain⟨D,ob⟩:=e
 unfold ldE
 by_cases i:D=g
 ·cases ob <;> simp only[i,if_true] <;> first|rfl|exact VM
 ·cases ob <;> simp only[i,if_false] <;> rfl
theorem O9{x:T}{m:Nat}{ag:Bool}:(Hj x m ag).run (St.mk fr lh sh).get sh.length=ZS lh sh x m ag:=by
 unfold Hj ZS
 cases x <;> try rfl
 ·exact VM
 ·rename_i sp k g off
  cases sp
  ·exact ldQ (b7 lh k)
  ·exact ldQ (iz sh k)
theorem jh{α β:Type}{h:Sp→Nat→b8}{i:Nat}{f:α→Q β}: ∀(q:Q α),(q.bind f).run h i=(q.run h i).bind fun a=>(f a).run h i
 | .ret a=>rfl
 | .fail=>rfl
 | .rd sp k g=>jh (g (h sp k))
 | .new g=>jh (g i)
theorem ay4{x:iF}{m:Nat}{ag:Bool}(i:d<n):eb E call n (⟨some d,.ld x m ag,none⟩::os) ⟨fr,lh,sh⟩=(ZS lh sh (rd fr x) m ag).bind fun v=>eb E call n os ⟨kg fr d v,lh,sh⟩:=by
 refine lD (d:=some d) (by rfl) i ?_
 unfold one
 simp only[jk,jh,O9]
 cases ZS lh sh (rd fr x) m ag <;> rfl
theorem aa8{z:List T}(i:d<n):eb E call n (⟨some d,.alloc z false,none⟩::os) ⟨fr,lh,sh⟩=eb E call n os ⟨kg fr d (.ptr .L d ((b7 lh d).g+1) 0),nN lh d ⟨(b7 lh d).g+1,.cells z 0 true⟩,sh⟩:=by
 rw[pL (by rfl) (show Fe n (some d)from i)];rfl
theorem asc{x:iF}(i:d<n)(r:noTup (rd fr x)=true):eb E call n (⟨some d,.box x false,none⟩::os) ⟨fr,lh,sh⟩=eb E call n os ⟨kg fr d (.ptr .L d ((b7 lh d).g+1) 0),nN lh d ⟨(b7 lh d).g+1,.cells (cellsOf (rd fr x)) 0 true⟩,sh⟩:=by
 rw[pL (by rfl) (show Fe n (some d)from i)]
 unfold one
 simp only[jk,r]
 rfl
theorem aa9(i:d<n):eb E call n (⟨some d,.mkmap false,none⟩::os) ⟨fr,lh,sh⟩=eb E call n os ⟨kg fr d (.mp .L d ((b7 lh d).g+1)),nN lh d ⟨(b7 lh d).g+1,.map [] [] false⟩,sh⟩:=by
 rw[pL (by rfl) (show Fe n (some d)from i)];rfl
def MY(x:T)(bytes:Nat):Option Nat:=match asNat x with|some m=>if m*bytes≤roomy∧m≤roomy then some m else none|none=>none
theorem aio{z:List T}{bytes:Nat}{x:iF}(i:d<n):eb E call n (⟨some d,.mksl z bytes x false,none⟩::os) ⟨fr,lh,sh⟩=
  (MY (rd fr x) bytes).bind fun m=>eb E call n os ⟨kg fr d (.isl .L d ((b7 lh d).g+1) 0 m z.length),nN lh d ⟨(b7 lh d).g+1,.cells (repl z m) 0 (U4 z)⟩,sh⟩:=by
 rw[pL (by rfl) (show Fe n (some d)from i)]
 unfold one MY
 simp only[jk]
 cases asNat (rd fr x)with
 |none=>rfl
 |some m=>
  simp only[Bool.and_eq_true,decide_eq_true_eq]
  split <;> rfl
end
end Go.Ev
namespace Go.Ev
open Go
def froz1:T→Bool
 | .b _| .i .. | .s _| .nilsl| .sl .. | .nilptr| .vp _| .nilmp| .vm .. | .nilfn=>true
 |_=>false
def froz:T→Bool
 | .agg cs=>cs.all froz1
 | .tup cs=>cs.all froz1
 | .fn _ a c=>a.all froz1&&c.all froz1
 |t=>froz1 t
theorem pM{keep:Bool}{n:Nat}{t:T}(h:froz1 t=true):fz keep (n+1) t= .ret (t,[]):=by
 cases t <;> first|rfl|(simp[froz1]at h)
theorem nO{keep:Bool}{n:Nat}: ∀(ts:List T),ts.all froz1=true→ja (fz keep (n+1)) ts= .ret (ts,[])
 | [],_=>rfl
 |t::ts,h=>by
  simp_all[List.all_cons,Bool.and_eq_true,ja,pM,nO,Q.bind,List.append_nil]
theorem HI{keep:Bool}{n:Nat}{cs:List T}:fz keep (n+1) (.agg cs)=(ja (fz keep n) cs).bind fun q=> .ret (.agg q.1,q.2):=rfl
theorem MZ{keep:Bool}{n:Nat}{cs:List T}:fz keep (n+1) (.tup cs)=(ja (fz keep n) cs).bind fun q=> .ret (.tup q.1,q.2):=rfl
theorem VN{keep:Bool}{n f:Nat}{a c:List T}:fz keep (n+1) (.fn f a c)=(ja (fz keep n) a).bind fun p=>(ja (fz keep n) c).bind fun q=> .ret (.fn f p.1 q.1,p.2++q.2):=rfl
theorem px{keep:Bool}{n:Nat}{t:T}(h:froz t=true):fz keep (n+2) t= .ret (t,[]):=by
 cases t with
 |agg cs=>simp only[froz]at h;rw[HI,nO cs h];rfl
 |tup cs=>simp only[froz]at h;rw[MZ,nO cs h];rfl
 |fn f a c=>simp only[froz,Bool.and_eq_true]at h;rw[VN,nO a h.1,nO c h.2];rfl
 |_=>exact pM h
def fzV(lh:iq b8)(sh:List b8)(keep:Bool)(v:T):Option (T×List Up):=(fz keep iG v).run (St.mk .nil lh sh).get sh.length
def Cl(lh:iq b8)(sh:List b8)(keep:Bool)(i:List T):Option (List T×List Up):=(ja (fz keep iG) i).run (St.mk .nil lh sh).get sh.length
section
variable{lh:iq b8}{sh:List b8}{keep:Bool}
theorem sQ{v:T}(h:froz v=true):fzV lh sh keep v=some (v,[]):=by
 unfold fzV iG;rw[px h];rfl
theorem Cy:Cl lh sh keep []=some ([],[]):=rfl
theorem qV{v:T}{i:List T}:Cl lh sh keep (v::i)=(fzV lh sh keep v).bind fun p=>(Cl lh sh keep i).bind fun q=>some (p.1::q.1,p.2++q.2):=by
 unfold Cl fzV
 rw[ja,jh]
 congr 1
 funext p
 rw[jh]
 rfl
theorem zg{i:List T}(h:i.all froz=true):Cl lh sh keep i=some (i,[]):=by
 induction i with
 |nil=>rfl
 |cons v i ih=>
  simp_all[List.all_cons,Bool.and_eq_true,qV,sQ]
def RA(m:Nat)(lh:iq b8)(sh:List b8)(k:Nat)(e:b8)(g off len sz:Nat):Option (T×List Up):=
 match e with
 |⟨i,.cells cs _ false⟩=>if i=g∧off+len*sz≤cs.length then some (.sl ((cs.drop off).take (len*sz)) len false,[(.L,k,⟨g,.cells cs cs.length false⟩)])else none
 |⟨i,.cells cs _ true⟩=>if i=g∧off+len*sz≤cs.length then((ja (fz false m) ((cs.drop off).take (len*sz))).run (St.mk .nil lh sh).get sh.length).map fun q=>(.sl q.1 len false,q.2++ [(.L,k,⟨g,.cells cs cs.length true⟩)])else none
 |_=>none
theorem asd{m k g off len sz:Nat}(e:b8):Q.run (St.mk .nil lh sh).get sh.length (if e.g=g then(match e.ob with
        | .cells cs _ false=>if off+len*sz≤cs.length then .ret (T.sl ((cs.drop off).take (len*sz)) len false,[(Sp.L,k,(⟨g,.cells cs cs.length false⟩:b8))])else .fail
        | .cells cs _ true=>if off+len*sz≤cs.length then(ja (fz false m) ((cs.drop off).take (len*sz))).bind fun q=> .ret (T.sl q.1 len false,q.2++ [(Sp.L,k,(⟨g,.cells cs cs.length true⟩:b8))])else .fail
        |_=> .fail)else .fail)=RA m lh sh k e g off len sz:=by
 obtain⟨D,ob⟩:=e
 unfold RA
 by_cases i:D=g
 ·cases ob with
  |cells cs wm bx=>
   cases bx
   ·grind [Q.run]
   ·by_cases r:off+len*sz≤cs.length
    ·simp only[i,r,if_true,and_self,jh]
     cases (ja (fz false m) ((cs.drop off).take (len*sz))).run (St.mk .nil lh sh).get sh.length <;> rfl
    ·simp[i,r,Q.run]
  |_=>simp[i,Q.run]
 grind [Q.run]
theorem HJ{k g off len sz:Nat}:fzV lh sh keep (.isl .L k g off len sz)=RA 7 lh sh k (b7 lh k) g off len sz:=by
 cases keep <;> exact asd (b7 lh k)
def mpV(k:Nat)(e:b8)(g:Nat):Option (T×List Up):=
 match e with
 |⟨r,.map ks i _⟩=>if r=g then some (.vm ks i,[(.L,k,⟨g,.map ks i true⟩)])else none
 |_=>none
theorem mpQ{h:Sp→Nat→b8}{r k g:Nat}(e:b8):Q.run h r (if e.g=g then(match e.ob with
        | .map ks i _=> .ret (T.vm ks i,[(Sp.L,k,(⟨g,.map ks i true⟩:b8))])
        |_=> .fail)else .fail)=mpV k e g:=by
 obtain⟨D,ob⟩:=e
 unfold mpV
 grind [Q.run]
theorem aip{k g:Nat}:fzV lh sh keep (.mp .L k g)=mpV k (b7 lh k) g:=by
 cases keep <;> exact mpQ (b7 lh k)
theorem RB{k g off:Nat}:fzV lh sh true (.ptr .S k g off)=some (.ptr .S k g off,[]):=rfl
theorem aba{cs:List T}:fzV lh sh keep (.agg cs)=((ja (fz keep 7) cs).run (St.mk .nil lh sh).get sh.length).map fun q=>(.agg q.1,q.2):=by
 unfold fzV iG
 rw[HI,jh]
 cases (ja (fz keep 7) cs).run (St.mk .nil lh sh).get sh.length <;> rfl
theorem abb{cs:List T}:fzV lh sh keep (.tup cs)=((ja (fz keep 7) cs).run (St.mk .nil lh sh).get sh.length).map fun q=>(.tup q.1,q.2):=by
 unfold fzV iG
 rw[MZ,jh]
 cases (ja (fz keep 7) cs).run (St.mk .nil lh sh).get sh.length <;> rfl
end
section
variable{E:Env}{call:qa}{n:Nat}{fr:Fr}{lh:iq b8}{sh:List b8}{os:List dy}{d:Nat}
theorem qW:(St.mk fr lh sh).get=(St.mk .nil lh sh).get:=by funext sp k;cases sp <;> rfl
theorem qH: ∀(us:List Up) (lh:iq b8) (sh:List b8),(St.mk fr lh sh).ups us={(St.mk .nil lh sh).ups us with fr:=fr}
 | [],lh,sh=>rfl
 |(.L,k,e)::us,lh,sh=>qH us (nN lh k e) sh
 |(.S,k,e)::us,lh,sh=>qH us lh (iH sh k e)
def stV(lh:iq b8)(sh:List b8)(x v:T)(m:Nat):Option (iq b8×List b8):=
 match(sd x v m).run (St.mk .nil lh sh).get sh.length with
 |some (.val _ us)=>some (((St.mk .nil lh sh).ups us).lh,((St.mk .nil lh sh).ups us).sh)
 |none=>none
theorem ay5{x v:iF}{m:Nat}:eb E call n (⟨none,.st x v m,none⟩::os) ⟨fr,lh,sh⟩=(stV lh sh (rd fr x) (rd fr v) m).bind fun r=>eb E call n os ⟨fr,r.1,r.2⟩:=by
 rw[pL (by rfl) (show Fe n none from trivial)]
 grind [one,stV,jk,qW,wv,ql,qH]
def FI(lh:iq b8)(sh:List b8)(k:Nat)(e:b8)(g off:Nat)(v:T)(m:Nat):Option (iq b8×List b8):=
 match e with
 |⟨i,.cells cs wm true⟩=>if i=g∧(cellsOf v).length=m∧noTup v=true∧wm≤off∧off+m≤cs.length then some (nN lh k ⟨g,.cells (splice cs off (cellsOf v)) wm true⟩,sh)else none
 |⟨i,.cells cs wm false⟩=>if i=g∧(cellsOf v).length=m∧noTup v=true∧wm≤off∧off+m≤cs.length then
    (fzV lh sh false v).bind fun p=>if oS p.2 .L k=true∨noTup p.1=false∨(cellsOf p.1).length≠m then none else some (((St.mk .nil lh sh).ups (p.2++ [(.L,k,⟨g,.cells (splice cs off (cellsOf p.1)) wm false⟩)])).lh,((St.mk .nil lh sh).ups (p.2++ [(.L,k,⟨g,.cells (splice cs off (cellsOf p.1)) wm false⟩)])).sh)
  else none
 |_=>none
def ny(lh:iq b8)(sh:List b8):Option Dq→Option (iq b8×List b8)
 |some (.val _ us)=>some (((St.mk .nil lh sh).ups us).lh,((St.mk .nil lh sh).ups us).sh)
 |none=>none
def abc(k g off m:Nat)(v:T)(e:b8):Q Dq:=if e.g=g then match e.ob with
     | .cells cs wm bx=>if wm≤off&&off+m≤cs.length then
         (if bx&&Sp.L== .L then .ret (.val iW [(Sp.L,k,⟨g,.cells (splice cs off (cellsOf v)) wm bx⟩)])
         else(fz (bx&&Sp.L== .S) iG v).bind fun p=>if oS p.2 .L k|| !noTup p.1||(cellsOf p.1).length≠m then .fail else .ret (.val iW (p.2++ [(Sp.L,k,⟨g,.cells (splice cs off (cellsOf p.1)) wm bx⟩)])))
       else .fail
     |_=> .fail
    else .fail
theorem stQ{k g off m:Nat}{v:T}(e:b8)(D:(cellsOf v).length=m)(H:noTup v=true):ny lh sh (Q.run (St.mk .nil lh sh).get sh.length (abc k g off m v e))=FI lh sh k e g off v m:=by
 obtain⟨I,ob⟩:=e
 unfold FI abc
 by_cases J:I=g
 ·subst J
  cases ob with
  |none=>simp[Q.run,ny]
  |map ks K z=>simp[Q.run,ny]
  |cells cs wm bx=>
   by_cases i:wm≤off∧off+m≤cs.length
   ·cases bx with
    |true=>grind [Q.run,afP,Cx,ny]
    |false=>
     have r:(decide (wm≤off)&&decide (off+m≤cs.length))=true:=by simp[i.1,i.2]
     simp only[if_true,r,Bool.false_and,Bool.false_eq_true,if_false,jh]
     rw[if_pos (show True∧(cellsOf v).length=m∧noTup v=true∧wm≤off∧off+m≤cs.length from⟨trivial,D,H,i⟩)]
     show ny lh sh (Option.bind (fzV lh sh false v) _)=_
     cases N:fzV lh sh false v with
     |none=>rfl
     |some p=>
      simp only[Option.bind_some]
      by_cases O:(oS p.2 .L k=true∨noTup p.1=false∨(cellsOf p.1).length≠m)
      ·grind [Q.run,ny]
      simp_all[Bool.false_eq_true,Q.run,ny,Classical.byContradiction]
   grind [Bool.false_eq_true,Q.run,ny]
 grind [Q.run,ny]
theorem asf{k g off m:Nat}{v:T}:stV lh sh (.ptr .L k g off) v m=FI lh sh k (b7 lh k) g off v m:=by
 by_cases i:(cellsOf v).length=m
 ·cases r:noTup v with
  |false=>
   unfold stV sd
   have:(decide ((cellsOf v).length≠m)|| !noTup v)=true:=by simp[r]
   simp only[this,if_true,Q.run]
   unfold FI
   grind
  |true=>
   unfold stV sd
   have:(decide ((cellsOf v).length≠m)|| !noTup v)=false:=by simp[i,r]
   simp only[this,Bool.false_eq_true,if_false]
   exact stQ (b7 lh k) i r
 ·unfold stV sd
  have:(decide ((cellsOf v).length≠m)|| !noTup v)=true:=by simp[i]
  simp only[this,if_true,Q.run]
  unfold FI
  grind
theorem abd{k g i off m wm:Nat}{cs:List T}{v:T}:FI lh sh k ⟨i,.cells cs wm true⟩ g off v m=if i=g∧(cellsOf v).length=m∧noTup v=true∧wm≤off∧off+m≤cs.length then some (nN lh k ⟨g,.cells (splice cs off (cellsOf v)) wm true⟩,sh)else none:=rfl
theorem abe{k g i off m wm:Nat}{cs:List T}{v:T}(r:froz v=true):FI lh sh k ⟨i,.cells cs wm false⟩ g off v m=if i=g∧(cellsOf v).length=m∧noTup v=true∧wm≤off∧off+m≤cs.length then some (nN lh k ⟨g,.cells (splice cs off (cellsOf v)) wm false⟩,sh)else none:=by
 unfold FI
 simp only[sQ r,Option.bind_some,oS,List.any_nil,Bool.false_eq_true,false_or]
 by_cases h:i=g∧(cellsOf v).length=m∧noTup v=true∧wm≤off∧off+m≤cs.length
 ·rw[if_pos h,if_pos h,if_neg (by rintro(hc|hc) <;> simp_all)]
  rfl
 ·grind
def slC(lh:iq b8)(sh:List b8)(sz:Nat)(x:T):Option (Nat×List T):=(jL sz x).run (St.mk .nil lh sh).get sh.length
theorem M0{sz len:Nat}{cs:List T}{ex:Bool}:slC lh sh sz (.sl cs len ex)=if cs.length=len*sz then some (len,cs)else none:=by
 unfold slC jL;simp only[];split <;> rfl
def RC(lh:iq b8)(k:Nat)(e:b8)(g off len sz i bytes:Nat)(p:Nat×List T):Option (T×iq b8):=
 match e with
 |⟨r,.cells cs wm false⟩=>if i=sz∧off=0∧(len+p.1)*bytes≤roomy∧r=g∧len*sz=cs.length then some (.isl .L k (g+1) 0 (len+p.1) sz,nN lh k ⟨g+1,.cells (cs++p.2) wm false⟩)else none
 |_=>none
def M4(lh:iq b8)(d sz bytes:Nat)(s:T)(p:Nat×List T):Option (T×iq b8):=
 if p.1=0 then(match s with| .nilsl| .sl .. | .isl .. =>some (s,lh)|_=>none)else
 match s with
 | .nilsl=>if p.1*bytes≤roomy then some (.isl .L d ((b7 lh d).g+1) 0 p.1 sz,nN lh d ⟨(b7 lh d).g+1,.cells p.2 0 false⟩)else none
 | .sl cs len true=>if cs.length=len*sz∧(len+p.1)*bytes≤roomy then some (.isl .L d ((b7 lh d).g+1) 0 (len+p.1) sz,nN lh d ⟨(b7 lh d).g+1,.cells (cs++p.2) 0 false⟩)else none
 | .isl .L k g off len i=>RC lh k (b7 lh k) g off len sz i bytes p
 |_=>none
def afQ(k g off len sz i bytes:Nat)(p:Nat×List T)(e:b8):Q Dq:=
     if e.g=g then match e.ob with
      | .cells cs wm false=>if len*sz=cs.length then .ret (.val (.isl .L k (g+1) 0 (len+p.1) sz) [(.L,k,⟨g+1,.cells (cs++p.2) wm false⟩)])else .fail
      |_=> .fail
     else .fail
theorem ay6{k g off len sz i bytes:Nat}{p:Nat×List T}(e:b8)(D:i=sz∧off=0∧(len+p.1)*bytes≤roomy):
  ((ql (Q.run (St.mk .nil lh sh).get sh.length (afQ k g off len sz i bytes p e))).bind fun r=>eb E call n os {(St.mk fr lh sh).ups r.2 with fr:=kg fr d r.1})=
    (RC lh k e g off len sz i bytes p).bind fun q=>eb E call n os ⟨kg fr d q.1,q.2,sh⟩:=by
 obtain⟨H,ob⟩:=e
 unfold afQ RC
 by_cases I:H=g
 ·cases ob with
  |cells cs wm bx=>
   cases bx
   ·by_cases J:len*sz=cs.length
    ·simp only[I,J,if_true,Q.run,ql,D,and_self,Option.bind_some]
     rfl
    ·grind [Q.run,ql]
   ·grind [Q.run,ql]
  |_=>grind [Q.run,ql]
 grind [Q.run,ql]
theorem asg{sz bytes:Nat}{s x:iF}(H:d<n)(hs: ∀k g off len sz,rd fr s≠ .isl .S k g off len sz):eb E call n (⟨some d,.app sz bytes s x false false,none⟩::os) ⟨fr,lh,sh⟩=
  (slC lh sh sz (rd fr x)).bind fun p=>(M4 lh d sz bytes (rd fr s) p).bind fun q=>eb E call n os ⟨kg fr d q.1,q.2,sh⟩:=by
 rw[pL (by rfl) (show Fe n (some d)from H)]
 unfold one slC
 simp only[jk,qM,jh,qW]
 cases hx:(jL sz (rd fr x)).run (St.mk .nil lh sh).get sh.length with
 |none=>rfl
 |some p=>
  simp only[Option.bind_some]
  unfold M4
  by_cases D:p.1=0
  ·simp only[if_pos D]
   cases r:rd fr s <;> rfl
  ·simp only[if_neg D]
   cases r:rd fr s <;> try rfl
   ·simp only[]
    split <;> rfl
   ·rename_i cs len ex
    cases ex
    ·rfl
    ·simp only[Bool.and_eq_true,decide_eq_true_eq]
     split <;> rfl
   ·rename_i sp k g off len I
    cases sp
    ·simp only[Bool.and_eq_true,decide_eq_true_eq]
     by_cases i:(I=sz∧off=0)∧(len+p.1)*bytes≤roomy
     ·simp only[if_pos i]
      exact ay6 (b7 lh k) ⟨i.1.1,i.1.2,i.2⟩
     ·simp only[if_neg i,Q.run,ql]
      unfold RC
      grind
    ·grind
def HK(sz:Nat)(x:T)(l h:Nat):Option T:=
 match x with
 | .nilsl=>if l=0∧h=0 then some .nilsl else none
 | .sl cs len ex=>if l≤h∧h≤len∧cs.length=len*sz then some (.sl ((cs.drop (l*sz)).take ((h-l)*sz)) (h-l) (ex&&decide (h=len)))else none
 | .isl sp k g off len i=>if l≤h∧h≤len∧i=sz then some (if l=h then(if sp= .S∧h=0∧off=0 then .isl sp k g 0 0 sz else .sl [] 0 false)else .isl sp k g (off+l*sz) (h-l) sz)else none
 |_=>none
def abf(fr:Fr)(sz:Nat)(x:T)(l h:Option iF):Option T:=
 (sF x).bind fun m=>(kN (rd fr) 0 l).bind fun l=>(kN (rd fr) m h).bind fun h=>HK sz x l h
theorem RD{sz l h i:Nat}{x:T}{r:Sp→Nat→b8}:(Bt sz x l h).run r i=HK sz x l h:=by
 unfold Bt HK
 cases x <;> try rfl
 ·simp only[Bool.and_eq_true,decide_eq_true_eq];split <;> rfl
 ·simp only[Bool.and_eq_true,decide_eq_true_eq,and_assoc];split <;> rfl
 ·simp only[Bool.and_eq_true,decide_eq_true_eq,and_assoc];split <;> rfl
theorem ash{sz:Nat}{x:iF}{l h:Option iF}(i:d<n):eb E call n (⟨some d,.slV sz x l h none,none⟩::os) ⟨fr,lh,sh⟩=(abf fr sz (rd fr x) l h).bind fun v=>eb E call n os ⟨kg fr d v,lh,sh⟩:=by
 refine lD (d:=some d) (by rfl) i ?_
 unfold one abf
 simp only[jk]
 cases sF (rd fr x)with
 |none=>rfl
 |some m=>
  simp only[Option.bind_some]
  cases kN (rd fr) 0 l with
  |none=>rfl
  |some l=>
   cases kN (rd fr) m h with
   |none=>rfl
   |some h=>
    simp only[jh,RD,Option.bind_some]
    cases HK sz (rd fr x) l h <;> rfl
def lkE(e:b8)(g:Nat)(ek:EK)(k z:T)(i:Bool):Option T:=
 match e with
 |⟨r,.map ks D _⟩=>if r=g then nI ek ks D k z i else none
 |_=>none
def lkV(lh:iq b8)(sh:List b8)(ek:EK)(m k z:T)(i:Bool):Option T:=
 match m with
 | .nilmp=>if isKey ek k=true then some (if i=true then .tup [z,.b false]else z)else none
 | .vm ks r=>nI ek ks r k z i
 | .mp .L kk g=>lkE (b7 lh kk) g ek k z i
 | .mp .S kk g=>lkE (iz sh kk) g ek k z i
 |_=>none
theorem lkQ{h:Sp→Nat→b8}{D g:Nat}{ek:EK}{k z:T}{i:Bool}(e:b8):ql (Q.run h D (if e.g=g then(match e.ob with| .map ks vs _=>val (nI ek ks vs k z i)|_=> .fail)else .fail))=(lkE e g ek k z i).map fun v=>(v,[]):=by
 obtain⟨H,ob⟩:=e
 unfold lkE
 by_cases r:H=g
 ·cases ob <;> simp only[r,if_true] <;> first|rfl|exact pw
 ·cases ob <;> simp only[r,if_false] <;> rfl
theorem ay7{ek:EK}{m k:iF}{z:T}{i:Bool}(r:d<n):eb E call n (⟨some d,.lk ek m k z i,none⟩::os) ⟨fr,lh,sh⟩=(lkV lh sh ek (rd fr m) (rd fr k) z i).bind fun v=>eb E call n os ⟨kg fr d v,lh,sh⟩:=by
 refine lD (d:=some d) (by rfl) r ?_
 unfold one lkV
 simp only[jk]
 cases D:rd fr m <;> try rfl
 ·simp only[];split <;> rfl
 ·exact pw
 ·rename_i sp kk g
  cases sp
  ·exact lkQ (b7 lh kk)
  ·exact lkQ (iz sh kk)
def muE(lh:iq b8)(kk:Nat)(e:b8)(g:Nat)(ek:EK)(k v:T):Option (iq b8):=
 match e with
 |⟨i,.map ks r false⟩=>if i=g∧isKey ek k=true then(qN ek k v ks r).map fun q=>nN lh kk ⟨g,.map q.1 q.2 false⟩else none
 |_=>none
def abg(kk g:Nat)(ek:EK)(k v:T)(e:b8):Q Dq:=if e.g=g&&isKey ek k then match e.ob with
      | .map ks i false=>(fz false iG v).bind fun p=>match qN ek k p.1 ks i with
        |some q=>if oS p.2 .L kk then .fail else .ret (.val iW (p.2++ [(.L,kk,⟨g,.map q.1 q.2 false⟩)]))
        |none=> .fail
      |_=> .fail
     else .fail
theorem muQ{kk g:Nat}{ek:EK}{k v:T}(e:b8)(H:froz v=true):((ql (Q.run (St.mk fr lh sh).get sh.length (abg kk g ek k v e))).bind fun r=>eb E call n os {(St.mk fr lh sh).ups r.2 with fr:=fr})=
  (muE lh kk e g ek k v).bind fun I=>eb E call n os ⟨fr,I,sh⟩:=by
 obtain⟨D,ob⟩:=e
 unfold abg muE
 by_cases i:D=g∧isKey ek k=true
 ·have:(decide (D=g)&&isKey ek k)=true:=by simp[i.1,i.2]
  simp only[this,if_true]
  cases ob with
  |none=>rfl
  |cells cs wm bx=>rfl
  |map ks J z=>
   cases z with
   |true=>rfl
   |false=>
    simp only[if_pos i]
    unfold iG
    rw[px H]
    simp only[Q.bind]
    cases qN ek k v ks J with
    |none=>rfl
    |some q=>simp only[oS,List.any_nil,Bool.false_eq_true,if_false,Q.run,List.nil_append];rfl
 grind [Bool.false_eq_true,Q.run,ql]
theorem asi{ek:EK}{m k v:iF}{kk g:Nat}(i:rd fr m= .mp .L kk g)(r:froz (rd fr v)=true):eb E call n (⟨none,.mu ek m k v,none⟩::os) ⟨fr,lh,sh⟩=(muE lh kk (b7 lh kk) g ek (rd fr k) (rd fr v)).bind fun D=>eb E call n os ⟨fr,D,sh⟩:=by
 rw[pL (by rfl) (show Fe n none from trivial)]
 unfold one
 simp only[jk,i]
 exact muQ (b7 lh kk) r
def muV(lh:iq b8)(ek:EK)(m k v:T):Option (iq b8):=
 match m with
 | .mp .L kk g=>muE lh kk (b7 lh kk) g ek k v
 |_=>none
theorem ay8{ek:EK}{m k v:iF}(D: ∀kk g,rd fr m≠ .mp .S kk g)(i:froz (rd fr v)=true):eb E call n (⟨none,.mu ek m k v,none⟩::os) ⟨fr,lh,sh⟩=(muV lh ek (rd fr m) (rd fr k) (rd fr v)).bind fun r=>eb E call n os ⟨fr,r,sh⟩:=by
 cases h:rd fr m with
 |mp sp kk g=>
  cases sp with
  |L=>rw[asi h i];rfl
  |S=>grind
 |_=>
  rw[pL (by rfl) (show Fe n none from trivial)]
  unfold one
  simp only[jk,h]
  rfl
def RE(z:List T)(len:Nat)(D:List Nat)(r:List T):Option T:=
 if(r.all fun v=>(cellsOf v).length=z.length&&noTup v)=true then(qh (repl z len) ((D.map fun i=>i*z.length).zip (r.map cellsOf))).map fun cs=> .sl cs len true else none
theorem asj{z:List T}{len:Nat}{r:List (Nat×iF)}(D:d<n):eb E call n (⟨some d,.bsl z len r,none⟩::os) ⟨fr,lh,sh⟩=
  (Cl lh sh false (r.map fun p=>rd fr p.2)).bind fun q=>(RE z len (r.map (·.1)) q.1).bind fun v=>eb E call n os {(St.mk fr lh sh).ups q.2 with fr:=kg fr d v}:=by
 rw[pL (by rfl) (show Fe n (some d)from D)]
 unfold one Cl RE
 simp only[jk,jh,qW]
 cases (ja (fz false iG) (r.map fun p=>rd fr p.2)).run (St.mk .nil lh sh).get sh.length with
 |none=>rfl
 |some q=>
  simp only[Option.bind_some]
  have e:(r.map (·.1)).map (fun i=>i*z.length)=r.map fun p=>p.1*z.length:=by rw[List.map_map];rfl
  rw[e]
  split
  ·cases qh (repl z len) ((r.map fun p=>p.1*z.length).zip (q.1.map cellsOf)) <;> rfl
  ·rfl
theorem VO{d:Option Nat}{op:mH}{f:Nat}{args:List T}(hc:jr (rd fr) op=some (some (f,args)))(i:Fe n d):
  eb E call n (⟨d,op,none⟩::os) ⟨fr,lh,sh⟩=(je E call (d.getD 0) ⟨fr,lh,sh⟩ f args).bind fun r=>eb E call n os ⟨wv fr d r.1,r.2.lh,r.2.sh⟩:=by
 simp only[eb,jd,lp,hc]
 cases je E call (d.getD 0) ⟨fr,lh,sh⟩ f args with
 |none=>rfl
 |some r=>
  simp only[Option.bind_some]
  cases d with
  |none=>rfl
  |some d=>simp only[nn,if_pos (show d<n from i),wv,Option.map_some]
theorem aiq{f:Nat}{as:List iF}(i:d<n):eb E call n (⟨some d,.callf f as,none⟩::os) ⟨fr,lh,sh⟩=(je E call d ⟨fr,lh,sh⟩ f (as.map (rd fr))).bind fun r=>eb E call n os ⟨kg fr d r.1,r.2.lh,r.2.sh⟩:=
 VO (d:=some d) rfl i
def zh(E:Env)(call:qa)(d:Nat)(st:St)(f:T)(args:List T):Option (T×St):=
 match f with
 | .fn f a c=>je E call d st f (a++args++c)
 |_=>none
theorem abh{f:iF}{as:List iF}(i:d<n):eb E call n (⟨some d,.callv f as,none⟩::os) ⟨fr,lh,sh⟩=(zh E call d ⟨fr,lh,sh⟩ (rd fr f) (as.map (rd fr))).bind fun r=>eb E call n os ⟨kg fr d r.1,r.2.lh,r.2.sh⟩:=by
 unfold zh
 cases D:rd fr f with
 |fn H a c=>exact VO (d:=some d) (by simp only[jr,D]) i
 |_=>simp_all[eb,jd,lp,jr]
theorem JS{i:Nat}{af:ib}{f:Nat}{args:List T}(D:E.fn f=some af)(H:af.eff=false)(I:af.own=none):je E call i ⟨fr,lh,sh⟩ f args=
  (Cl lh sh false args).bind fun q=>(call f q.1 []).bind fun r=>some (r.1,if scalar r.1=true then⟨fr,lh,sh⟩else(St.mk fr lh sh).ups q.2):=by
 grind [je,Cl,qW,Bool.false_eq_true]
theorem JR{i:Nat}{af:ib}{f:Nat}{args:List T}(D:E.fn f=some af)(H:af.eff=false)(I:af.own=none)(J:args.all froz=true):je E call i ⟨fr,lh,sh⟩ f args=
  (call f args []).bind fun r=>some (r.1,⟨fr,lh,sh⟩):=by
 grind [JS,zg,Cx]
theorem VP{i:Nat}{af:ib}{f j:Nat}{args:List T}(D:E.fn f=some af)(H:af.eff=false)(I:af.own=some j):je E call i ⟨fr,lh,sh⟩ f args=
  (Cl lh sh false args).bind fun q=>(call f q.1 []).bind fun r=>xl i j r.1 ⟨fr,lh,sh⟩ q.2:=by
 grind [je,Cl,qW,Bool.false_eq_true]
theorem UG{i:Nat}{af:ib}{f:Nat}{args:List T}(D:E.fn f=some af)(H:af.eff=true):je E call i ⟨fr,lh,sh⟩ f args=
  (Cl lh sh true args).bind fun q=>(call f q.1 ((St.mk fr lh sh).ups q.2).sh).bind fun r=>some (r.1,{(St.mk fr lh sh).ups q.2 with sh:=r.2}):=by
 unfold je Cl
 simp only[D,H,qW]
 cases (ja (fz true iG) args).run (St.mk .nil lh sh).get sh.length with
 |none=>rfl
 |some q=>
  simp only[if_true,Option.bind_some]
  cases call f q.1 ((St.mk fr lh sh).ups q.2).sh <;> rfl
theorem VQ{i:Nat}{g:List T→Option T}{f:Nat}{args:List T}(D:E.fn f=none)(H:E.ext f=some g):je E call i ⟨fr,lh,sh⟩ f args=
  (Cl lh sh false args).bind fun q=>(g q.1).bind fun r=>some (r,⟨fr,lh,sh⟩):=by
 unfold je Cl
 simp only[D,H,qW]
 cases (ja (fz false iG) args).run (St.mk .nil lh sh).get sh.length with
 |none=>rfl
 |some q=>
  simp only[Option.bind_some]
  cases g q.1 <;> rfl
theorem VR{d:Option Nat}{op:mH}{j:Nat}{w:Bool}(h:an fr j= .b w):eb E call n (⟨d,op,some (j,w)⟩::os) ⟨fr,lh,sh⟩=eb E call n (⟨d,op,none⟩::os) ⟨fr,lh,sh⟩:=by
 grind [eb,jd]
theorem M5{d:Option Nat}{op:mH}{j:Nat}{w:Bool}(i:Fe n d)(h:an fr j= .b (!w)):eb E call n (⟨d,op,some (j,w)⟩::os) ⟨fr,lh,sh⟩=eb E call n os ⟨wv fr d iW,lh,sh⟩:=by
 simp only[eb,jd,h]
 rw[if_neg (by cases w <;> simp)]
 cases d with
 |none=>rfl
 |some d=>simp only[nn,if_pos (show d<n from i),wv,Option.map_some]
theorem Pa{d:Option Nat}{op:mH}{j:Nat}{w:Bool}(i:Fe n d)(h:an fr j=iW):eb E call n (⟨d,op,some (j,w)⟩::os) ⟨fr,lh,sh⟩=eb E call n os ⟨wv fr d iW,lh,sh⟩:=by
 simp only[eb,jd,h,iW]
 cases d with
 |none=>rfl
 |some d=>simp only[nn,if_pos (show d<n from i),wv,Option.map_some]
theorem asl{jN:List FP}{st:St}:iP E call n [] jN st=some st:=rfl
end
section
variable{E:Env}{n:Nat}{fr:Fr}{lh:iq b8}{sh:List b8}
def afR(t:T)(x y:Option (Out×St)):Option (Out×St):=match t with| .b c=>if c=true then x else y|_=>none
theorem VS{c:iF}{a b:dE}:DC E n (.cond c a b) ⟨fr,lh,sh⟩=afR (rd fr c) (DC E n a ⟨fr,lh,sh⟩) (DC E n b ⟨fr,lh,sh⟩):=by
 rw[aa0,lp]
 unfold afR
 grind
theorem andThen_ite{c:Prop}[Decidable c]{x y:Option (Out×St)}{f:St→Option (Out×St)}:andThen (if c then x else y) f=if c then andThen x f else andThen y f:=by split <;> rfl
theorem RF{c:Prop}[Decidable c]{id:Nat}{x y:Option (Out×St)}:BJ id (if c then x else y)=if c then BJ id x else BJ id y:=by split <;> rfl
theorem abi{α β:Type}{c:Prop}[Decidable c]{x y:Option α}{f:α→β}:(if c then x else y).map f=if c then x.map f else y.map f:=by split <;> rfl
theorem VT{α β:Type}{c:Prop}[Decidable c]{x y:Option α}{f:α→Option β}:(if c then x else y).bind f=if c then x.bind f else y.bind f:=by split <;> rfl
def AP(fr:Fr)(lh:iq b8)(sh:List b8):List p5→Option (List T)
 | []=>some []
 | .tmp t::rs=>(AP fr lh sh rs).map fun i=>an fr t::i
 | .cell t m ag::rs=>(ZS lh sh (an fr t) m ag).bind fun v=>(AP fr lh sh rs).map fun i=>v::i
theorem sR: ∀rs,nL ⟨fr,lh,sh⟩ rs=AP fr lh sh rs
 | []=>rfl
 | .tmp t::rs=>by
   rw[nL,AP,sR rs]
   simp only[J0]
   cases AP fr lh sh rs <;> rfl
 | .cell t m ag::rs=>by
   rw[nL,AP,sR rs]
   simp only[J0,O9]
   cases ZS lh sh (an fr t) m ag <;> cases AP fr lh sh rs <;> rfl
def RG(lh:iq b8)(sh:List b8)(i:Bool)(vs:List T):Option (T×List b8):=
 (fzV lh sh i (match vs with| [v]=>v|vs=> .tup vs)).map fun p=>(p.1,((St.mk .nil lh sh).ups p.2).sh)
theorem AQ{i:Bool}{r:List T}:answer i r ⟨fr,lh,sh⟩=RG lh sh i r:=by
 unfold answer RG fzV
 grind [qW,qH]
end
theorem AR{fr i:Fr}{n:Nat}{d:Option Nat}{v:T}(h:nn fr n d v=some i){s:Nat}(hs:some s≠d):an i s=an fr s:=by
 cases d with
 |none=>grind [nn]
 |some d=>
  grind [nn,VK]
theorem BK{E:Env}{call:qa}{n:Nat}{o:dy}{st D:St}(h:jd E call n o st=some D){s:Nat}(hs:some s≠o.d):an D.fr s=an st.fr s:=by
 have J: ∀D,(match jr st.rho o.op with
  |some (some I)=>match je E call (o.d.getD 0) st I.1 I.2 with
   |some r=>(nn st.fr n o.d r.1).map fun fr=>{r.2 with fr}
   |none=>none
  |some none=>none
  |none=>match(jk (o.d.getD 0) st.rho o.op).run st.get st.sh.length with
   |some (.val v ups)=>(nn st.fr n o.d v).map fun fr=>{st.ups ups with fr}
   |none=>none)=some D→an D.fr s=an st.fr s:=by
  intro D i
  split at i
  ·split at i
   ·simp only[Option.map_eq_some_iff]at i
    obtain⟨fr,H,rfl⟩:=i
    exact AR H hs
   ·cases i
  ·cases i
  ·split at i
   ·simp only[Option.map_eq_some_iff]at i
    obtain⟨fr,H,rfl⟩:=i
    exact AR H hs
   ·cases i
 grind [jd,Option.map_eq_some_iff,AR]
theorem tM{E:Env}{call:qa}{n:Nat}: ∀(os:List dy) {st i:St},eb E call n os st=some i→ ∀s,s∉AF os→an i.fr s=an st.fr s
 | [],st,i,h,s,_=>by cases h;rfl
 |o::os,st,i,h,s,hs=>by
  simp only[eb]at h
  cases D:jd E call n o st with
  |none=>grind
  |some K=>
   simp only[D]at h
   have H:s∉AF os:=fun r=>hs (by
    unfold AF at r ⊢
    rw[List.filterMap_cons]
    split
    ·exact r
    ·exact List.mem_cons_of_mem _ r)
   have I:some s≠o.d:=fun J=>hs (by
    unfold AF
    rw[List.filterMap_cons]
    rw[←J]
    exact List.mem_cons_self)
   rw[tM os h s H,BK D I]
theorem BL{E:Env}{call:qa}{n:Nat}: ∀(os:List (List Nat×dy)) {jN:List FP} {st i:St},iP E call n os jN st=some i→ ∀s,s∉AF (os.map (·.2))→an i.fr s=an st.fr s
 | [],jN,st,i,h,s,_=>by cases h;rfl
 |(u,o)::os,jN,st,i,h,s,hs=>by
  simp only[iP]at h
  split at h
  ·cases h
  ·split at h
   ·cases D:jd E call n o st with
    |none=>grind
    |some K=>
     simp only[D]at h
     have H:s∉AF (os.map (·.2)):=fun r=>hs (by
      unfold AF at r ⊢
      rw[List.map_cons,List.filterMap_cons]
      split
      ·exact r
      ·exact List.mem_cons_of_mem _ r)
     have I:some s≠o.d:=fun J=>hs (by
      unfold AF
      rw[List.map_cons,List.filterMap_cons]
      rw[←J]
      exact List.mem_cons_self)
     rw[BL os h s H,BK D I]
   ·cases h
theorem Gy{f:St→Option (Out×St)}{s:Nat}(i: ∀st r,f st=some r→an r.2.fr s=an st.fr s): ∀(k:Nat) {st:St} {r:Out×St},iter f k st=some r→an r.2.fr s=an st.fr s
 |0,st,r,h=>by simp[iter]at h
 |k+1,st,r,h=>by
  simp only[iter]at h
  cases D:f st with
  |none=>grind
  |some p=>
   rw[D]at h
   obtain⟨o,I⟩:=p
   have H:=i _ _ D
   cases o with
   |nrm=>rw[Gy i k h];exact H
   |ext id=>grind
   |ret=>grind
theorem abj{ks:List Nat}{t u:St}{k:Nat}(h:k∉ks):an (sG ks t u).fr k=an t.fr k:=by
 show an (yy ks t.fr) k=_
 rw[sO,if_neg h]
theorem pN{E:Env}{call:qa}{fl n:Nat}: ∀(code:dE) {st:St} {r:Out×St},mO E call fl n code st=some r→ ∀s,s∉j2 code→an r.2.fr s=an st.fr s
 | .skip,st,r,h,s,_=>by cases h;rfl
 | .region ops,st,r,h,s,hs=>by
   simp only[mO,Option.map_eq_some_iff]at h
   obtain⟨a,i,rfl⟩:=h
   exact tM ops i s hs
 | .draws ops,st,r,h,s,hs=>by
   simp only[mO,Option.map_eq_some_iff]at h
   obtain⟨a,i,rfl⟩:=h
   exact BL ops i s hs
 | .seq a b,st,r,h,s,hs=>by
   simp only[j2,List.mem_append,not_or]at hs
   simp only[mO]at h
   cases D:mO E call fl n a st with
   |none=>grind
   |some p=>
    rw[D]at h
    obtain⟨o,I⟩:=p
    have i:=pN a D s hs.1
    cases o with
    |nrm=>rw[pN b h s hs.2];exact i
    |ext id=>grind
    |ret=>grind
 | .fork os Fb b,st,r,h,s,hs=>by
   simp only[mO]at h
   cases i:eb E call n os st with
   |none=>grind
   |some I=>
    cases J:eb E call n Fb st with
    |none=>grind
    |some O=>
     rw[i,J]at h
     simp only[]at h
     obtain⟨o,U⟩:=r
     obtain⟨V,W,K,X,Y,rfl⟩:=xu h
     have H:s∉AF os++j2 b:=hs
     rw[abj H]
     simp only[List.mem_append,not_or]at H
     rw[pN b K s H.2]
     grind [tM]
 | .cond x a b,st,r,h,s,hs=>by
   simp only[j2,List.mem_append,not_or]at hs
   simp only[mO]at h
   split at h
   ·exact pN a h s hs.1
   ·exact pN b h s hs.2
   ·cases h
 | .block id a,st,r,h,s,hs=>by
   simp only[mO]at h
   cases D:mO E call fl n a st with
   |none=>grind
   |some p=>
    rw[D]at h
    obtain⟨o,I⟩:=p
    have i:=pN a D s hs
    grind
 | .loop a,st,r,h,s,hs=>by
   simp only[mO]at h
   exact Gy (fun st r N=>pN a N s hs) fl h
 | .exit id,st,r,h,s,_=>by cases h;rfl
 | .ret,st,r,h,s,_=>by cases h;rfl
theorem lS{E:Env}{n:Nat}{code:dE}{st i:St}{o:Out}(h:DC E n code st=some (o,i))(s:Nat)(hs:(j2 code).contains s=false):an i.fr s=an st.fr s:=by
 obtain⟨m,r⟩:=kF.1 h
 exact pN code r s (by intro hc;simp[hc]at hs)
end Go.Ev
namespace Go.Ev
open Go
def Q.calm:Q Dq→Prop
 | .ret (.val _ i)=>i= []
 | .fail=>True
 | .rd _ _ f=> ∀e,(f e).calm
 | .new _=>False
theorem Q.calm_run{h:Sp→Nat→b8}{r:Nat}: ∀(q:Q Dq),q.calm→ ∀{v:T} {i:List Up},q.run h r=some (.val v i)→i= []∧q.asks h r=false
 | .ret (.val _ _),hc,v,i,hr=>by simp[Q.run]at hr;obtain⟨rfl,rfl⟩:=hr;exact⟨hc,rfl⟩
 | .fail,hc,v,i,hr=>by simp[Q.run]at hr
 | .rd sp k f,hc,v,i,hr=>Q.calm_run (f (h sp k)) (hc _) hr
 | .new f,hc,v,i,hr=>hc.elim
theorem nz{o:Option T}:(val o).calm:=by cases o <;> simp[val,Q.calm]
def lP:mH→Bool
 | .mv _| .pick .. | .bin .. | .eq .. | .un .. | .cvi .. | .b2s _| .mkfn .. | .build .. | .slS .. | .fa .. | .fld .. | .ia .. | .iaA .. | .ixS .. | .ixA .. | .ext .. | .lenS _| .lenV _| .lenC _| .mm .. | .nck _| .ld .. | .lk .. | .lenM _=>true
 | .slV _ _ _ _ none=>true
 |_=>false
theorem HL{d:Nat}{ρ:iF→T}{op:mH}(h:lP op=true):(jk d ρ op).calm∧jr ρ op=none:=by
 refine⟨?_,by cases op <;> first|rfl|(simp[lP]at h)⟩
 cases op with
 |mv x=>exact rfl
 |pick c a b=>grind [jk,Q.calm]
 |bin op x y=>exact nz
 |eq neg k x y=>exact nz
 |un op x=>exact nz
 |cvi k x=>grind [jk,Q.calm]
 |b2s x=>simp only[jk];repeat' split
         all_goals trivial
 |mkfn f a c=>exact rfl
 |build z H=>
  simp only[jk]
  by_cases I:(H.all fun p=>decide ((cellsOf (ρ p.2.2)).length=p.2.1)&&noTup (ρ p.2.2))=true
  ·grind [nz]
  ·rw[if_neg I];trivial
 |slS x l h=>
  grind [jk,Q.calm]
 |fa x off=>
  grind [jk,Q.calm]
 |fld x off m ag=>
  simp only[jk]
  split
  ·exact nz
  ·trivial
 |ia x r sz=>
  grind [jk,Q.calm]
 |iaA x r len sz=>
  grind [jk,Q.calm]
 |ixS x r=>
  grind [jk,Q.calm]
 |ixA x r len sz ag=>
  simp only[jk]
  split
  ·split
   ·exact nz
   ·trivial
  ·trivial
 |ext x j=>
  simp only[jk]
  split
  ·exact nz
  ·trivial
 |lenS x=>grind [jk,Q.calm]
 |lenV x=>exact nz
 |lenC m=>exact rfl
 |mm b as=>
  simp only[jk]
  split
  ·exact nz
  ·trivial
 |nck x=>grind [jk,Q.calm]
 |ld x m ag=>
  simp only[jk,Hj]
  split
  ·rename_i cs _
   cases part cs 0 m ag <;> simp[Q.of,Q.bind,Q.calm]
  ·rename_i g off _
   intro e
   obtain⟨D,ob⟩:=e
   by_cases i:D=g
   ·cases ob with
    |cells cs wm bx=>
     simp only[i,if_true]
     generalize part cs _ m ag=o
     cases o <;> simp[Q.of,Q.bind,Q.calm]
    |_=>simp only[i,if_true];trivial
   ·simp only[i,if_false];trivial
  ·trivial
 |lk ek m k z K=>
  grind [jk,Q.calm,nz]
 |lenM x=>
  simp only[jk]
  split
  ·exact rfl
  ·exact rfl
  ·rename_i g _
   intro e
   obtain⟨D,ob⟩:=e
   by_cases i:D=g
   ·cases ob with
    |map ks N z=>simp only[i,if_true];exact rfl
    |_=>simp only[i,if_true];trivial
   ·simp only[i,if_false];trivial
  ·trivial
 |slV sz x l h J=>
  cases J with
  |some m=>simp[lP]at h
  |none=>
   simp only[jk]
   split
   ·trivial
   ·split
    ·rename_i O U _ _ _
     unfold Bt
     grind [Q.bind,Q.calm]
    ·grind
    ·trivial
 |_=>simp[lP]at h
def Calm(fp:FP):Prop:=fp.all=false∧fp.w= []
theorem M6{x y:FP}(hx:Calm x)(i:Calm y):apart x y=true:=by
 obtain⟨a,r,w⟩:=x
 obtain⟨D,H,w'⟩:=y
 obtain⟨rfl,rfl⟩:=hx
 obtain⟨rfl,rfl⟩:=i
 simp[apart,ml]
section
variable{E:Env}{call:qa}{n:Nat}
theorem abk{o:dy}{st D:St}(hc:lP o.op=true)(hr:jd E call n o st=some D): ∃fp,jT E call o st=some fp∧Calm fp:=by
 obtain⟨I,J⟩:=HL (d:=o.d.getD 0) (ρ:=st.rho) hc
 have K: ∀D,(match(jk (o.d.getD 0) st.rho o.op).run st.get st.sh.length with
   |some (.val v ups)=>(nn st.fr n o.d v).map fun fr=>{st.ups ups with fr}
   |none=>none)=some D→ ∃fp,(match(jk (o.d.getD 0) st.rho o.op).run st.get st.sh.length with
   |some (.val _ ups)=>if((jk (o.d.getD 0) st.rho o.op).asks st.get st.sh.length||inB st ups)=true then some (⟨(jk (o.d.getD 0) st.rho o.op).asks st.get st.sh.length,(jk (o.d.getD 0) st.rho o.op).log st.get st.sh.length,ki ups⟩:FP)else none
   |none=>none)=some fp∧Calm fp:=by
  intro D h
  cases H:(jk (o.d.getD 0) st.rho o.op).run st.get st.sh.length with
  |none=>rw[H]at h;cases h
  |some r=>
   obtain⟨v,ups⟩:=r
   obtain⟨rfl,N⟩:=Q.calm_run _ I H
   refine⟨⟨false,(jk (o.d.getD 0) st.rho o.op).log st.get st.sh.length,[]⟩, ?_,rfl,rfl⟩
   simp only[N,inB,List.all_nil,Bool.or_true,if_true,ki,List.map_nil]
 unfold jd at hr
 unfold jT
 simp only[J]at hr ⊢
 cases O:o.gd with
 |none=>grind
 |some p=>
  obtain⟨j,i⟩:=p
  simp only[O]at hr ⊢
  split at hr
  ·rename_i x hx
   simp only[hx]
   by_cases U:x=i
   ·grind
   ·rw[if_neg U];exact⟨qp,rfl,rfl,rfl⟩
  ·cases hr
  ·split
   ·grind
   ·exact⟨qp,rfl,rfl,rfl⟩
theorem Gz: ∀(ds:List (List Nat×dy)) (jN:List FP) (st:St),(ds.all fun p=>lP p.2.op&&p.1.all fun i=>decide (i<jN.length+ds.length))=true→(∀fp∈jN,Calm fp)→
  (∀(k:Nat) (u:List Nat) (o:dy),ds[k]? =some (u,o)→ ∀i∈u,i<jN.length+k)→
  iP E call n ds jN st=eb E call n (ds.map (·.2)) st
 | [],jN,st,_,_,_=>rfl
 |(u,o)::ds,jN,st,h,N,hi=>by
  simp only[List.all_cons,Bool.and_eq_true]at h
  simp only[iP,List.map_cons,eb]
  cases D:jd E call n o st with
  |none=>
   grind
  |some s=>
   obtain⟨fp,H,O⟩:=abk h.1.1 D
   simp only[H]
   have I:(u.all fun i=>apart (iE ⟨true,[],[]⟩ jN i) fp)=true:=by
    rw[List.all_eq_true]
    intro i r
    have:=hi 0 u o rfl i r
    have U:iE ⟨true,[],[]⟩ jN i∈jN:=by
     have: ∀(l:List FP) (j:Nat),j<l.length→iE ⟨true,[],[]⟩ l j∈l:=by
      intro l
      induction l with
      |nil=>grind
      |cons x xs ih=>
       intro j J
       cases j with
       |zero=>exact List.mem_cons_self
       |succ j=>exact List.mem_cons_of_mem _ (ih j (by simpa using J))
     grind
    grind [M6]
   simp only[I,if_true]
   refine Gz ds (jN++ [fp]) s ?_ ?_ ?_
   ·grind
   ·grind
   ·intro k K o' hk i r
    have:=hi (k+1) K o' hk i r
    grind
def GA:Nat→List (List Nat×dy)→Bool
 |_,[]=>true
 |k,(u,o)::ds=>lP o.op&&(u.all fun i=>decide (i<k))&&GA (k+1) ds
theorem GB: ∀(ds:List (List Nat×dy)) (m:Nat),GA m ds=true→(∀(k:Nat) (u:List Nat) (o:dy),ds[k]? =some (u,o)→lP o.op=true∧ ∀i∈u,i<m+k)
 | [],m,_,k,u,o,hk=>by simp at hk
 |(r,D)::ds,m,h,k,u,o,hk=>by
  simp only[GA,Bool.and_eq_true]at h
  cases k with
  |zero=>
   grind
  |succ k=>
   obtain⟨H,I⟩:=GB ds (m+1) h.2 k u o (by simpa using hk)
   grind
theorem abl{E:Env}{n:Nat}{ds:List (List Nat×dy)}{st:St}(h:GA 0 ds=true):DC E n (.draws ds) st=(eb E (be E) n (ds.map (·.2)) st).map fun D=>(.nrm,D):=by
 rw[Ku]
 congr 1
 have r:=GB ds 0 h
 refine Gz ds [] st ?_ (by simp) (fun k u o hk i hi=>by have:=(r k u o hk).2 i hi;simpa using this)
 rw[List.all_eq_true]
 intro p H
 obtain⟨k,hk,I⟩:=List.getElem_of_mem H
 obtain⟨u,o⟩:=p
 obtain⟨J,K⟩:=r k u o (by rw[List.getElem?_eq_getElem hk,I])
 grind
end
end Go.Ev
namespace Go.Ev
open Go
def kv(F:St→Option St)(fr:Fr)(lh:iq b8)(sh:List b8)(d:Nat)(v:Option T):Option St:=v.bind fun v=>F ⟨kg fr d v,lh,sh⟩
def kn(F:St→Option St)(st:St)(v:Option T):Option St:=v.bind fun _=>F st
def ks(F:St→Option St)(fr:Fr)(r:Option (iq b8×List b8)):Option St:=r.bind fun r=>F ⟨fr,r.1,r.2⟩
def ka(F:St→Option St)(fr:Fr)(sh:List b8)(d:Nat)(r:Option (T×iq b8)):Option St:=r.bind fun q=>F ⟨kg fr d q.1,q.2,sh⟩
def kc(F:St→Option St)(fr:Fr)(d:Option Nat)(r:Option (T×St)):Option St:=r.bind fun r=>F ⟨wv fr d r.1,r.2.lh,r.2.sh⟩
section
variable{F:St→Option St}{fr:Fr}{lh:iq b8}{sh:List b8}{d:Nat}{v:T}
theorem abm:kv F fr lh sh d (some v)=F ⟨kg fr d v,lh,sh⟩:=rfl
theorem abn:kv F fr lh sh d none=none:=rfl
theorem air{c:Prop}[Decidable c]{x y:Option T}:kv F fr lh sh d (if c then x else y)=if c then kv F fr lh sh d x else kv F fr lh sh d y:=by split <;> rfl
theorem abo{r:iq b8×List b8}:ks F fr (some r)=F ⟨fr,r.1,r.2⟩:=rfl
theorem abp:ks F fr none=none:=rfl
theorem ais{c:Prop}[Decidable c]{x y:Option (iq b8×List b8)}:ks F fr (if c then x else y)=if c then ks F fr x else ks F fr y:=by split <;> rfl
theorem abq{q:T×iq b8}:ka F fr sh d (some q)=F ⟨kg fr d q.1,q.2,sh⟩:=rfl
theorem abr{i:Option Nat}{r:T×St}:kc F fr i (some r)=F ⟨wv fr i r.1,r.2.lh,r.2.sh⟩:=rfl
theorem ait{c:Prop}[Decidable c]{i:Option Nat}{x y:Option (T×St)}:kc F fr i (if c then x else y)=if c then kc F fr i x else kc F fr i y:=by split <;> rfl
end
def isB:T→Bool
 | .b _=>true
 |_=>false
def isT:T→Bool
 | .b x=>x
 |_=>false
theorem asm{x:Bool}:isB (.b x)=true:=nr rfl
theorem asn{x:Bool}:isT (.b x)=x:=nr rfl
theorem abt{t:T}(h:isB t=true):t= .b (isT t):=by cases t <;> first|rfl|(simp[isB]at h)
section
variable{E:Env}{call:qa}{n:Nat}{fr:Fr}{lh:iq b8}{sh:List b8}{os:List dy}{d:Nat}
theorem aiu{c a b:iF}(i:d<n):eb E call n (⟨some d,.pick c a b,none⟩::os) ⟨fr,lh,sh⟩=kv (eb E call n os) fr lh sh d (O7 (rd fr c) (rd fr a) (rd fr b)):=aij i
theorem aso{op:BinOp}{x y:iF}(i:d<n):eb E call n (⟨some d,.bin op x y,none⟩::os) ⟨fr,lh,sh⟩=kv (eb E call n os) fr lh sh d (Ev.bin op (rd fr x) (rd fr y)):=ar2 i
theorem azb{neg:Bool}{k:EK}{x y:iF}(i:d<n):eb E call n (⟨some d,.eq neg k x y,none⟩::os) ⟨fr,lh,sh⟩=kv (eb E call n os) fr lh sh d ((uP k (rd fr x) (rd fr y)).map fun r=>T.b (r != neg)):=ayZ i
theorem azc{op:UnOp}{x:iF}(i:d<n):eb E call n (⟨some d,.un op x,none⟩::os) ⟨fr,lh,sh⟩=kv (eb E call n os) fr lh sh d (Ev.un op (rd fr x)):=ay0 i
theorem asp{k:IntKind}{x:iF}(i:d<n):eb E call n (⟨some d,.cvi k x,none⟩::os) ⟨fr,lh,sh⟩=kv (eb E call n os) fr lh sh d (aa2 k (rd fr x)):=ar3 i
theorem BM{x:iF}(i:d<n):eb E call n (⟨some d,.b2s x,none⟩::os) ⟨fr,lh,sh⟩=kv (eb E call n os) fr lh sh d (aa3 (rd fr x)):=ar4 i
theorem abu{z:List T}{i:List (Nat×Nat×iF)}(r:d<n):eb E call n (⟨some d,.build z i,none⟩::os) ⟨fr,lh,sh⟩=kv (eb E call n os) fr lh sh d (HH fr z i):=aa4 r
theorem asq{x:iF}{l h:Option iF}(i:d<n):eb E call n (⟨some d,.slS x l h,none⟩::os) ⟨fr,lh,sh⟩=kv (eb E call n os) fr lh sh d (D5 fr (rd fr x) l h):=ar5 i
theorem azd{x:iF}{off:Nat}(i:d<n):eb E call n (⟨some d,.fa x off,none⟩::os) ⟨fr,lh,sh⟩=kv (eb E call n os) fr lh sh d (faV (rd fr x) off):=ay1 i
theorem aze{x i:iF}{sz:Nat}(r:d<n):eb E call n (⟨some d,.ia x i sz,none⟩::os) ⟨fr,lh,sh⟩=kv (eb E call n os) fr lh sh d (lY (rd fr x) (rd fr i) sz):=ay2 r
theorem asr{x i:iF}{len sz:Nat}(r:d<n):eb E call n (⟨some d,.iaA x i len sz,none⟩::os) ⟨fr,lh,sh⟩=kv (eb E call n os) fr lh sh d (k9 (rd fr x) (rd fr i) len sz):=ar7 r
theorem ass{x i:iF}(r:d<n):eb E call n (⟨some d,.ixS x i,none⟩::os) ⟨fr,lh,sh⟩=kv (eb E call n os) fr lh sh d (MX (rd fr x) (rd fr i)):=ar8 r
theorem ast{x i:iF}{len sz:Nat}{ag:Bool}(r:d<n):eb E call n (⟨some d,.ixA x i len sz ag,none⟩::os) ⟨fr,lh,sh⟩=kv (eb E call n os) fr lh sh d (aa5 (rd fr x) (rd fr i) len sz ag):=ar9 r
theorem asu{x:iF}{j:Nat}(i:d<n):eb E call n (⟨some d,.ext x j,none⟩::os) ⟨fr,lh,sh⟩=kv (eb E call n os) fr lh sh d (aa6 (rd fr x) j):=asa i
theorem aiv{x:iF}(i:d<n):eb E call n (⟨some d,.lenS x,none⟩::os) ⟨fr,lh,sh⟩=kv (eb E call n os) fr lh sh d (O8 (rd fr x)):=ail i
def lenI(x:T):Option T:=match sF x with|some m=>some (.i .i64 ((m:Nat):Int))|none=>none
theorem abv{x:T}{m:Nat}(h:sF x=some m):lenI x=some (.i .i64 (m:Int)):=by unfold lenI;rw[h]
theorem aiw{x:iF}(i:d<n):eb E call n (⟨some d,.lenV x,none⟩::os) ⟨fr,lh,sh⟩=kv (eb E call n os) fr lh sh d (lenI (rd fr x)):=by
 grind [kv,lenI,aim]
theorem azf{i:Bool}{args:List iF}(r:d<n):eb E call n (⟨some d,.mm i args,none⟩::os) ⟨fr,lh,sh⟩=kv (eb E call n os) fr lh sh d (mmV i (args.map (rd fr))):=ay3 r
theorem asv{x:iF}(i:d<n):eb E call n (⟨some d,.nck x,none⟩::os) ⟨fr,lh,sh⟩=kv (eb E call n os) fr lh sh d (Ry (rd fr x)):=asb i
theorem azg{x:iF}{m:Nat}{ag:Bool}(i:d<n):eb E call n (⟨some d,.ld x m ag,none⟩::os) ⟨fr,lh,sh⟩=kv (eb E call n os) fr lh sh d (ZS lh sh (rd fr x) m ag):=ay4 i
theorem asw{sz:Nat}{x:iF}{l h:Option iF}(i:d<n):eb E call n (⟨some d,.slV sz x l h none,none⟩::os) ⟨fr,lh,sh⟩=kv (eb E call n os) fr lh sh d (abf fr sz (rd fr x) l h):=ash i
theorem azh{ek:EK}{m k:iF}{z:T}{i:Bool}(r:d<n):eb E call n (⟨some d,.lk ek m k z i,none⟩::os) ⟨fr,lh,sh⟩=kv (eb E call n os) fr lh sh d (lkV lh sh ek (rd fr m) (rd fr k) z i):=ay7 r
theorem asx{k:IntKind}{n:Int}:U4 [.i k n]=false:=nr rfl
theorem asy{x:Bool}:U4 [.b x]=false:=nr rfl
theorem abw:U4 [.nilsl]=true:=nr rfl
theorem VU{a b:T}{l:List T}:U4 (a::b::l)=false:=by cases a <;> rfl
def VV(lh:iq b8)(d:Nat)(z:List T)(x:T)(bytes:Nat):Option (T×iq b8):=
 (MY x bytes).map fun m=>(.isl .L d ((b7 lh d).g+1) 0 m z.length,nN lh d ⟨(b7 lh d).g+1,.cells (repl z m) 0 (U4 z)⟩)
theorem aix{z:List T}{bytes:Nat}{x:iF}(i:d<n):eb E call n (⟨some d,.mksl z bytes x false,none⟩::os) ⟨fr,lh,sh⟩=ka (eb E call n os) fr sh d (VV lh d z (rd fr x) bytes):=by
 rw[aio i];unfold VV ka;cases MY (rd fr x) bytes <;> rfl
theorem azi{x v:iF}{m:Nat}:eb E call n (⟨none,.st x v m,none⟩::os) ⟨fr,lh,sh⟩=ks (eb E call n os) fr (stV lh sh (rd fr x) (rd fr v) m):=ay5
def appW(lh:iq b8)(sh:List b8)(d sz bytes:Nat)(s x:T):Option (T×iq b8):=(slC lh sh sz x).bind (M4 lh d sz bytes s)
def notS:T→Bool
 | .isl .S .. =>false
 | .mp .S .. =>false
 |_=>true
theorem asz{sz bytes:Nat}{s x:iF}(i:d<n)(hs:notS (rd fr s)=true):eb E call n (⟨some d,.app sz bytes s x false false,none⟩::os) ⟨fr,lh,sh⟩=ka (eb E call n os) fr sh d (appW lh sh d sz bytes (rd fr s) (rd fr x)):=by
 rw[asg i (fun k g off len sz r=>by rw[r]at hs;simp[notS]at hs)]
 grind [appW,ka]
theorem azj{ek:EK}{m k v:iF}(i:notS (rd fr m)=true)(r:froz (rd fr v)=true):eb E call n (⟨none,.mu ek m k v,none⟩::os) ⟨fr,lh,sh⟩=ks (eb E call n os) fr ((muV lh ek (rd fr m) (rd fr k) (rd fr v)).map fun D=>(D,sh)):=by
 rw[ay8 (fun kk g H=>by rw[H]at i;simp[notS]at i) r]
 unfold ks
 cases muV lh ek (rd fr m) (rd fr k) (rd fr v) <;> rfl
def VW(lh:iq b8)(sh:List b8)(z:List T)(len:Nat)(i:List Nat)(r:List T):Option (T×St):=
 (Cl lh sh false r).bind fun q=>(RE z len i q.1).map fun v=>(v,(St.mk .nil lh sh).ups q.2)
theorem asA{z:List T}{len:Nat}{i:List (Nat×iF)}(r:d<n):eb E call n (⟨some d,.bsl z len i,none⟩::os) ⟨fr,lh,sh⟩=kc (eb E call n os) fr (some d) (VW lh sh z len (i.map (·.1)) (i.map fun p=>rd fr p.2)):=by
 rw[asj r]
 unfold kc VW
 cases Cl lh sh false (i.map fun p=>rd fr p.2)with
 |none=>rfl
 |some q=>
  simp only[Option.bind_some]
  cases RE z len (i.map (·.1)) q.1 with
  |none=>rfl
  |some v=>grind [wv,qH]
theorem RH{z:List T}{len:Nat}{r:List Nat}{i:List T}(h:i.all froz=true):VW lh sh z len r i=(RE z len r i).map fun v=>(v,⟨.nil,lh,sh⟩):=by
 unfold VW
 rw[zg h];rfl
theorem aiy{f:Nat}{as:List iF}(i:d<n):eb E call n (⟨some d,.callf f as,none⟩::os) ⟨fr,lh,sh⟩=kc (eb E call n os) fr (some d) (je E call d ⟨fr,lh,sh⟩ f (as.map (rd fr))):=aiq i
theorem abx{f:iF}{as:List iF}(i:d<n):eb E call n (⟨some d,.callv f as,none⟩::os) ⟨fr,lh,sh⟩=kc (eb E call n os) fr (some d) (zh E call d ⟨fr,lh,sh⟩ (rd fr f) (as.map (rd fr))):=abh i
theorem aby{i:Option Nat}{op:mH}{j:Nat}(h:an fr j= .b true):eb E call n (⟨i,op,some (j,true)⟩::os) ⟨fr,lh,sh⟩=eb E call n (⟨i,op,none⟩::os) ⟨fr,lh,sh⟩:=VR h
theorem abz{i:Option Nat}{op:mH}{j:Nat}(h:an fr j= .b false):eb E call n (⟨i,op,some (j,false)⟩::os) ⟨fr,lh,sh⟩=eb E call n (⟨i,op,none⟩::os) ⟨fr,lh,sh⟩:=VR h
theorem abA{op:mH}{j:Nat}(i:d<n)(h:an fr j= .b false):eb E call n (⟨some d,op,some (j,true)⟩::os) ⟨fr,lh,sh⟩=eb E call n os ⟨kg fr d iW,lh,sh⟩:=M5 (d:=some d) i h
theorem abB{op:mH}{j:Nat}(i:d<n)(h:an fr j= .b true):eb E call n (⟨some d,op,some (j,false)⟩::os) ⟨fr,lh,sh⟩=eb E call n os ⟨kg fr d iW,lh,sh⟩:=M5 (d:=some d) i h
theorem VY{op:mH}{j:Nat}{w:Bool}(i:d<n)(h:an fr j=iW):eb E call n (⟨some d,op,some (j,w)⟩::os) ⟨fr,lh,sh⟩=eb E call n os ⟨kg fr d iW,lh,sh⟩:=Pa (d:=some d) i h
end
section
variable{E:Env}{n:Nat}{fr:Fr}{lh:iq b8}{sh:List b8}
theorem aiz{c:iF}{a b:dE}(h:isB (rd fr c)=true):DC E n (.cond c a b) ⟨fr,lh,sh⟩=if isT (rd fr c)=true then DC E n a ⟨fr,lh,sh⟩else DC E n b ⟨fr,lh,sh⟩:=by
 rw[VS,abt h];rfl
def AS(i:List p5)(r:Bool)(x:Option (Out×St)):Option (T×List b8):=
 match x with
 |some (.ext _,_)=>none
 |some (_,st)=>(nL st i).bind fun D=>answer r D st
 |none=>none
theorem il{f:Nat}{af:ib}{args:List T}{sh:List b8}(i:E.fn f=some af)(r:(af.n<args.length)=False)(D:af.own=none:=by rfl):
  be E f args sh=AS af.res af.eff (DC E af.n af.code {fr:=p6 args,lh:= .nil,sh}):=by
 rw[Kx i (Nat.le_of_not_lt (of_eq_false r))]
 generalize DC E af.n af.code {fr:=p6 args,lh:= .nil,sh}=x
 unfold VI AS
 rw[D]
 cases x with
 |none=>rfl
 |some p=>
  obtain⟨o,st⟩:=p
  cases o with
  |ext id=>rfl
  |nrm=>simp only[];cases nL st af.res <;> rfl
  |ret=>simp only[];cases nL st af.res <;> rfl
def abC(i:List p5)(j:Nat)(x:Option (Out×St)):Option (T×List b8):=
 match x with
 |some (.ext _,_)=>none
 |some (_,st)=>(nL st i).bind fun r=>rF j r st
 |none=>none
theorem aiA{f:Nat}{af:ib}{args:List T}{sh:List b8}{j:Nat}(i:E.fn f=some af)(r:(af.n<args.length)=False)(D:af.own=some j:=by rfl)(H:af.eff=false:=by rfl):
  be E f args sh=abC af.res j (DC E af.n af.code {fr:=p6 args,lh:= .nil,sh}):=by
 rw[Kx i (Nat.le_of_not_lt (of_eq_false r))]
 generalize DC E af.n af.code {fr:=p6 args,lh:= .nil,sh}=x
 unfold VI abC
 grind [tw,Bool.false_eq_true]
def RI(lh:iq b8)(sh:List b8)(j:Nat)(i:List T):Option (T×List b8):=rF j i ⟨.nil,lh,sh⟩
theorem M7{j:Nat}{i:List T}:rF j i ⟨fr,lh,sh⟩=RI lh sh j i:=by
 unfold RI rF
 simp only[AQ,qW]
 split
 ·rfl
 ·split
  ·rename_i p _
   rw[qH p.2 lh sh]
   rfl
  ·rfl
 ·rfl
theorem VZ{i:List p5}{j:Nat}:abC i j (some (.ret,⟨fr,lh,sh⟩))=(AP fr lh sh i).bind (RI lh sh j):=by
 simp_all[abC,sR,M7]
theorem V0{i:List p5}{r:Bool}:AS i r (some (.ret,⟨fr,lh,sh⟩))=(AP fr lh sh i).bind (RG lh sh r):=by
 simp_all[AS,sR,AQ]
theorem V1{i:List p5}{r:Bool}:AS i r (some (.nrm,⟨fr,lh,sh⟩))=(AP fr lh sh i).bind (RG lh sh r):=by
 simp_all[AS,sR,AQ]
theorem V2{c:Prop}[Decidable c]{i:List p5}{r:Bool}{x y:Option (Out×St)}:AS i r (if c then x else y)=if c then AS i r x else AS i r y:=by split <;> rfl
end
section
variable{k:IntKind}{a b:Int}{x y:Bool}{s t:List Nat}
theorem abD:Ev.bin .add (.i k a) (.i k b)=some (.i k (wr k (a+b))):=by simp[Ev.bin,sE]
theorem abE:Ev.bin .sub (.i k a) (.i k b)=some (.i k (wr k (a-b))):=by simp[Ev.bin,sE]
theorem abF:Ev.bin .mul (.i k a) (.i k b)=some (.i k (wr k (a*b))):=by simp[Ev.bin,sE]
theorem abG:Ev.bin .quo (.i k a) (.i k b)=if b=0 then none else some (.i k (wr k (a.tdiv b))):=by simp[Ev.bin,sE]
theorem abH:Ev.bin .rem (.i k a) (.i k b)=if b=0 then none else some (.i k (a.tmod b)):=by simp[Ev.bin,sE]
theorem Pb:Ev.bin .eql (.i k a) (.i k b)=some (.b (decide (a=b))):=by simp[Ev.bin,sE];exact Bool.beq_eq_decide_eq a b
theorem Pc:Ev.bin .neq (.i k a) (.i k b)=some (.b (!decide (a=b))):=by simp[Ev.bin,sE];rw[bne,Bool.beq_eq_decide_eq]
theorem Pd:Ev.bin .lss (.i k a) (.i k b)=some (.b (decide (a<b))):=by simp[Ev.bin,sE]
theorem Pe:Ev.bin .leq (.i k a) (.i k b)=some (.b (decide (a≤b))):=by simp[Ev.bin,sE]
theorem Pf:Ev.bin .gtr (.i k a) (.i k b)=some (.b (decide (b<a))):=by simp[Ev.bin,sE]
theorem Pg:Ev.bin .geq (.i k a) (.i k b)=some (.b (decide (b≤a))):=by simp[Ev.bin,sE]
theorem Ky:Ev.bin .eql (.s s) (.s t)=some (.b (decide (s=t))):=by simp[Ev.bin,Mz];exact Bool.beq_eq_decide_eq s t
theorem Kz:Ev.bin .neq (.s s) (.s t)=some (.b (!decide (s=t))):=by simp[Ev.bin,Mz];rw[bne,Bool.beq_eq_decide_eq]
theorem V3:Ev.bin .lss (.s s) (.s t)=some (.b (wK s t)):=by simp[Ev.bin,Mz]
theorem V4:Ev.bin .add (.s s) (.s t)=if s.length+t.length≤1099511627776 then some (.s (s++t))else none:=by simp[Ev.bin,Mz]
theorem aiB:Ev.un .not (.b x)=some (.b (!x)):=rfl
theorem aiC:Ev.un .neg (.i k a)=some (.i k (wr k (0-a))):=rfl
theorem aiD{cs:List T}{off m:Nat}:Ev.part cs off m false=cs[off]? :=rfl
theorem aiE{cs:List T}{off m:Nat}:Ev.part cs off m true=if off+m≤cs.length then some (.agg ((cs.drop off).take m))else none:=rfl
theorem js{n:Int}(h: -9223372036854775808≤n∧n≤9223372036854775807):wr .i64 n=n:=by grind [wr,lo,hi]
theorem oq{cs:List T}{len sz:Nat}{ex:Bool}{kk:IntKind}{j:Int}:lY (.sl cs len ex) (.i kk j) sz=if 0≤j∧j.toNat<len∧(j.toNat+1)*sz≤cs.length then some (.vp (cs.drop (j.toNat*sz)))else none:=by
 unfold lY asNat
 grind
theorem abI{sp:Sp}{i g off len sz r:Nat}{kk:IntKind}{j:Int}:lY (.isl sp i g off len r) (.i kk j) sz=if 0≤j∧j.toNat<len∧r=sz then some (.ptr sp i g (off+j.toNat*sz))else none:=by
 unfold lY asNat
 grind
theorem M8{r:List Nat}{kk:IntKind}{j:Int}:MX (.s r) (.i kk j)=if 0≤j then r[j.toNat]?.map fun c=>T.i .u8 c else none:=by
 unfold MX asNat
 grind
theorem HM{kk:IntKind}{j:Int}:asNat (.i kk j)=if 0≤j then some j.toNat else none:=rfl
end
end Go.Ev
